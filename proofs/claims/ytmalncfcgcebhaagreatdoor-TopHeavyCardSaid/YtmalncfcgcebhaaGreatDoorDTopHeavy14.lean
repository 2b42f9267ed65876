/- Part. No condition. -/
import Derived.Test.YtmalncfcgcebhaaGreatDoorDTopHeavy4
import Derived.Test.YtmalncfcgcebhaaGreatDoorDTopHeavy13
import Derived.Test.YtmalncfcgcebhaaGreatDoorDTopHeavy2
import Derived.Test.YtmalncfcgcebhaaGreatDoorDTopHeavy3
import Derived.Great.BuildSlice
namespace Go.Proofs.YtmalncfcgcebhaaGreatDoor
set_option linter.unusedVariables false
open Go.Proofs Go.RowKit
theorem info_rword:∃ i z,Tryz.prog.info? 71=some i∧i.zero=some z∧i.size=2∧i.bytes=24∧z.cells.size=2:=by
 have h:(Tryz.prog.info? 71).map (fun i=>(i.zero,i.size,i.bytes))=some (some (.agg #[.string ⟨#[]⟩,.int .i64 0]),2,24):=by kernel_rfl
 match hi:Tryz.prog.info? 71,h with
 | some i,h =>
   simp only [Option.map_some,Option.some.injEq,Prod.mk.injEq] at h
   exact ⟨i,_,rfl,h.1,h.2.1,h.2.2,rfl⟩
theorem getD_mem8 {l:List UInt8} {i:Nat} (h:i < l.length):l.getD i 0∈l:=by
 rw [List.getD_eq_getElem?_getD,List.getElem?_eq_getElem h]
 exact List.getElem_mem _
set_option maxRecDepth 20000 in
set_option maxHeartbeats 8000000 in
theorem RWords_c (s:ByteArray) (hs:s.size≤100000000) (hq:∀ c∈s.data.toList,c≠34) (w:World) :
 Calls Tryz.prog 31 #[.string s] w fun e w'=>(∃ v,e=.returned v∧w'.ownsRow w.heap.size 71 2 v (wordsS s).length (wordV s (wordsS s)))∧Ext w w':=by
 have HQ:=Lib.hid hq
 clear hq
 have ho0:(w.alloc (.cells #[] 71)).ownsRow w.heap.size 71 2 (.slice (some ⟨w.heap.size,0,none⟩) 0 0) ([]:List (Nat × Nat)).length (wordV s []):=⟨rfl,.inr ⟨w.heap.size,0,#[],rfl,Nat.le_refl _,heap_at _ _ rfl,Nat.le_refl _,Nat.zero_le _,rfl,rfl⟩⟩
 have HO0:=Lib.hid ho0
 clear ho0
 go_enter Tryz.func31,Tryz.ntmps31
 go_wp2
 go_loopw [3,4,5,6] (fun u3 u4 _ _ wr=>∃ at_ fuel done,at_≤s.size∧u4=.int .i64 at_∧wr.ownsRow w.heap.size 71 2 u3 done.length (wordV s done)∧Ext w wr∧done++wordsFrom s fuel at_=wordsS s∧s.size < at_+fuel∧done.length≤at_) (fun _ u4 _ _ wr=>s.size - (intOf u4).toNat)
 case atStart=>exact ⟨0,s.size+1,[],by omega,rfl,HO0.out,Ext.alloc' _ _,rfl,by omega,Nat.zero_le _⟩
 case round =>
  obtain ⟨at_,fuel,done,hat,rfl,hown,hE,hw,hfu,hdl⟩:=hrel
  by_cases hp:at_ < s.size
  · obtain ⟨f,rfl⟩:∃ f,fuel=f+1:=⟨fuel - 1,by omega⟩
    rw [wordsFrom,if_pos hp] at hw
    have HW:=Lib.hid hw
    have HO:=Lib.hid hown
    clear hw hown
    by_cases h32:s.data.toList.getD at_ 0=32
    · have e32:=bt_t hp h32 (n:=32) rfl
      have hw:=HW.out
      rw [if_pos h32] at hw
      have HW2:=Lib.hid hw
      clear hw HW
      go_wp2
      go_roundw
      case rel=>exact ⟨at_+1,f,done,by omega,by go_num,HO.out,hE,HW2.out,by omega,by omega⟩
      case measure=>simp [intOf]; omega
    · have e32:=bt_f hp h32 (n:=32) rfl
      have hw:=HW.out
      have hsk:wordSkip s at_=at_:=by
       unfold wordSkip
       rw [if_neg (HQ.out _ (getD_mem8 (by rw [← Lib.size_eq]; exact hp)))]
      rw [if_neg h32,hsk] at hw
      have HW2:=Lib.hid hw
      have hgt:=wordEnd_gt s at_ hp h32
      rw [hsk] at hgt
      have hend:=wordEnd_le s s.size at_ hat
      generalize hEN:wordEnd s s.size at_=en at *
      clear hw HW hsk
      go_upto_block 2 with (fail)
      go_cut [5,6] (fun s5 _ wx=>s5=.int .i64 (en:Nat)∧wx=wr)
      case first =>
       clear e32
       go_wp2_with fail
       go_loopw [5,6] (fun u5 u6 wi=>∃ e f2,e≤s.size∧u5=.int .i64 (e:Nat)∧u6=.int .i64 0∧wi=wr∧wordEnd s f2 e=en∧s.size≤e+f2) (fun u5 _ _=>s.size - (intOf u5).toNat)
       case atStart=>exact ⟨at_,s.size,hat,rfl,rfl,by first | rfl | trivial,hEN,by omega⟩
       case round =>
        obtain ⟨e,f2,he,rfl,rfl,rfl,hwe,hf2⟩:=hrel
        by_cases hes:e < s.size
        · obtain ⟨f3,rfl⟩:∃ f3,f2=f3+1:=⟨f2 - 1,by omega⟩
          have e34:=bt_f hes (HQ.out _ (getD_mem8 (by rw [← Lib.size_eq]; exact hes))) (n:=34) rfl
          by_cases h32':s.data.toList.getD e 0=32
          · have e32:=bt_t hes h32' (n:=32) rfl
            have e32n:(((s[e]'hes).toNat:Int) != 32)=false:=by rw [bne,e32]; rfl
            have e32p:((s[e]'hes).toNat:Int)=32:=by simpa using e32
            have hee:e=en:=by rw [← hwe,wordEnd,if_neg (fun h=>h.2 h32')]
            have HEE:=Lib.hid hee
            clear hee hwe
            go_wp2_with fail
            go_meet
            exact ⟨by rw [HEE.out],rfl⟩
          · have e32:=bt_f hes h32' (n:=32) rfl
            have e32n:(((s[e]'hes).toNat:Int) != 32)=true:=by rw [bne,e32]; rfl
            have e32p:¬ ((s[e]'hes).toNat:Int)=32:=by simpa using e32
            rw [wordEnd,if_pos ⟨hes,h32'⟩] at hwe
            have HWE:=Lib.hid hwe
            clear hwe
            go_wp2_with fail
            go_roundw
            case rel=>exact ⟨e+1,f3,by omega,by go_num,rfl,by first | rfl | trivial,HWE.out,by omega⟩
            case measure=>simp [intOf]; omega
        · have hee:e=en:=by
           rw [← hwe]
           cases f2 with
           | zero=>rfl
           | succ f3=>rw [wordEnd,if_neg (fun h=>hes h.1)]
          have HEE:=Lib.hid hee
          clear hee hwe
          go_wp2_with fail
          go_meet
          exact ⟨by rw [HEE.out],rfl⟩
      case rest =>
       obtain ⟨rfl,rfl⟩:=hcut
       have hsz:=hE.size
       go_wp2_with (at_builtin; refine wpList_appK wc 2 24 1 (by decide) (by decide) [.string (s.extract at_ en),.int .i64 (at_:Nat)] rfl (by simp [Value.oneCell']) _ done.length _ w.heap.size 71 _ HO.out 68 rfl _ _ rfl info_rword Tryz.underlying68 _ rfl (by rfl) (by rfl) (by omega) hsz ?_)
       intro v' w' hw1 hw2 hw3
       have hE2:Ext w w':=ext_grown hE hw2 (fun j hj=>own_geB HO.out hj)
       have hvv:wordV s (done++[(at_,en)])=wordV s done++[.string (s.extract at_ en),.int .i64 (at_:Nat)]:=by
        unfold wordV; rw [List.flatMap_append]; rfl
       rw [← hvv] at hw1
       have H1:=Lib.hid hw1
       clear hw1 hw2 hw3 hvv
       go_wp2
       go_roundw
       case rel=>exact ⟨en,f,done++[(at_,en)],by omega,rfl,by rw [List.length_append]; exact H1.out,hE2,by rw [List.append_assoc]; exact HW2.out,by omega,by rw [List.length_append,List.length_singleton]; omega⟩
       case measure=>simp [intOf]; omega
  · have hw2:done=wordsS s:=by
     rw [← hw]
     cases fuel with
     | zero=>simp [wordsFrom]
     | succ f=>simp [wordsFrom,hp]
    subst hw2
    have HO:=Lib.hid hown
    clear hown hw
    go_wp2
    go_ret
    exact ⟨⟨_,rfl,HO.out⟩,hE⟩
def WCells (w:World) (g n:Nat) (ws:Nat→ByteArray):Prop:=∀ k,k < n→w.cell? ⟨g,k*2,none⟩=some (.string (ws k))
set_option maxRecDepth 20000 in
set_option maxHeartbeats 4000000 in
theorem THas_c {w:World} {g n cap:Nat} {ws:Nat→ByteArray} (hg:g < w.heap.size) (hc:WCells w g n ws) (hn:n≤1000000) (b:ByteArray) (hsz:∀ k,k < n→(ws k).size≤1000000) (k0:Nat) (hk0:k0 < n) (h1:b.size < (ws k0).size) (h2:((ws k0).extract 0 b.size).data.toList=b.data.toList) :
 Calls Tryz.prog 32 #[.slice (some ⟨g,0,none⟩) n cap,.string b] w fun e w'=>e=.returned (.bool true)∧w'=w:=by
 have HC:=Lib.hid hc
 have HZ:=Lib.hid hsz
 have H2:=Lib.hid h2
 clear hc hsz h2
 go_enter Tryz.func32,Tryz.ntmps32
 go_wp2_with fail
 go_loopw [5] (fun u5 wr=>∃ i:Nat,i≤k0∧u5=.int .i64 (i:Nat)∧wr=w) (fun u5 _=>n - (intOf u5).toNat)
 case atStart=>exact ⟨0,by omega,rfl,by first | rfl | trivial⟩
 case round =>
  obtain ⟨i,hi,rfl,rfl⟩:=hrel
  have hin:i < n:=by omega
  have c0:=HC.out i hin
  have hz:=HZ.out i hin
  have hk:i=k0→b.size < (ws i).size∧(((ws i).extract 0 b.size).toList == b.toList)=true:=fun e=>by
   subst e
   refine ⟨h1, ?_⟩
   rw [Lib.toList_data,Lib.toList_data,H2.out]
   exact beq_self_eq_true _
  have HK:=Lib.hid hk
  obtain ⟨x,hx⟩:∃ x,ws i=x:=⟨_,rfl⟩
  rw [hx] at c0 hz HK
  clear hk hx
  by_cases hl:b.size < x.size
  · by_cases he:((x.extract 0 b.size).toList == b.toList)=true
    · go_wp2
      go_ret
      exact ⟨rfl,rfl⟩
    · have he':((x.extract 0 b.size).toList == b.toList)=false:=by simpa using he
      have hne:i≠k0:=fun e=>he (HK.out e).2
      go_wp2_with fail
      go_roundw
      case rel=>exact ⟨i+1,by omega,by go_num,by first | rfl | trivial⟩
      case measure=>simp [intOf]; omega
  · have hne:i≠k0:=fun e=>hl (HK.out e).1
    go_wp2_with fail
    go_roundw
    case rel=>exact ⟨i+1,by omega,by go_num,by first | rfl | trivial⟩
    case measure=>simp [intOf]; omega
end Go.Proofs.YtmalncfcgcebhaaGreatDoor
namespace Go.Proofs.YtmalncfcgcebhaaGreatDoor
set_option linter.unusedVariables false
open Go.Proofs Go.RowKit
def topC (x:Cfg) (mode:Int):Cfg:=⟨6,1+x.rows % 4,1+x.width % 65536 % 9,mode,x.seed⟩
theorem topC_ok (x:Cfg) (hx:x.Raw) {mode:Int} (h1:1≤mode) (h2:mode≤3):(topC x mode).Ok:=by
 have a1:=Int.emod_nonneg (x.width % 65536) (show (9:Int)≠0 by omega)
 have a2:=Int.emod_lt_of_pos (x.width % 65536) (show (0:Int) < 9 by omega)
 constructor <;> simp only [topC] <;> first | exact hx.s | omega
theorem cat_two (v:List UInt8) (a b:Int):(⟨(v++[32]).toArray⟩++⟨(Lib.itoa a).toArray⟩++⟨#[32]⟩++⟨(Lib.itoa b).toArray⟩:ByteArray)=lineB v [a,b]:=by
 rw [show (⟨#[32]⟩:ByteArray)=⟨([32]:List UInt8).toArray⟩ from rfl,cat_str,cat_str,cat_str]
 unfold lineB lineW
 simp [joinW]
theorem cat_three (v:List UInt8) (a b c:Int):(⟨(v++[32]).toArray⟩++⟨(Lib.itoa a).toArray⟩++⟨#[32]⟩++⟨(Lib.itoa b).toArray⟩++⟨#[32]⟩++⟨(Lib.itoa c).toArray⟩:ByteArray)=lineB v [a,b,c]:=by
 rw [show (⟨#[32]⟩:ByteArray)=⟨([32]:List UInt8).toArray⟩ from rfl,cat_str,cat_str,cat_str,cat_str,cat_str]
 unfold lineB lineW
 simp [joinW]
theorem itoa6:Lib.itoa 6=[54]:=by kernel_rfl
theorem cat_make (a b c d:Int):(⟨#[99,114,101,97,116,101,32,54,32]⟩++⟨(Lib.itoa a).toArray⟩++⟨#[32]⟩++⟨(Lib.itoa b).toArray⟩++⟨#[32]⟩++⟨(Lib.itoa c).toArray⟩++⟨#[32]⟩++⟨(Lib.itoa d).toArray⟩:ByteArray)=lineB vCreate [6,a,b,c,d]:=by
 rw [show (⟨#[32]⟩:ByteArray)=⟨([32]:List UInt8).toArray⟩ from rfl,show (⟨#[99,114,101,97,116,101,32,54,32]⟩:ByteArray)=⟨([99,114,101,97,116,101,32,54,32]:List UInt8).toArray⟩ from rfl,cat_str,cat_str,cat_str,cat_str,cat_str,cat_str,cat_str]
 unfold lineB lineW vCreate
 simp [joinW,itoa6]
theorem tb_size {n:Int} (hn:I64 n):(⟨(Lib.itoa n).toArray⟩:ByteArray).size≤21:=by
 have:=Lib.itoa_length_le n hn.1 hn.2
 rw [Lib.size_eq]
 simpa using this
noncomputable def worldY (a:Nat) (C:Cfg):Array Value:=(((((Tryz.zeroCells36.setIfInBounds 0 (.pointer (some ⟨a,0,none⟩))).setIfInBounds 1 (.int .i64 C.bits)).setIfInBounds 2 (.int .i64 C.rows)).setIfInBounds 3 (.int .i64 C.width)).setIfInBounds 4 (.int .i64 C.mode)).setIfInBounds 5 (.int .u64 C.seed)
theorem worldY_is (a:Nat) (C:Cfg):worldY a C=#[.pointer (some ⟨a,0,none⟩),.int .i64 C.bits,.int .i64 C.rows,.int .i64 C.width,.int .i64 C.mode,.int .u64 C.seed]++Array.replicate 192 (.int .i64 0):=by kernel_rfl
set_option maxRecDepth 4000 in
theorem worldY_get (a:Nat) (C:Cfg) {h i:Nat} (hh:h < 3) (hi:i < 64):(worldY a C)[6+h*64+i]?=some (.int .i64 0):=by
 rw [worldY_is]
 have h0:(#[.pointer (some ⟨a,0,none⟩),.int .i64 C.bits,.int .i64 C.rows,.int .i64 C.width,.int .i64 C.mode,.int .u64 C.seed]:Array Value).size=6:=rfl
 rw [Array.getElem?_append_right (by rw [h0]; omega),h0,Array.getElem?_replicate,if_pos (by omega)]
theorem worldY_lo (a:Nat) (C:Cfg) {k:Nat} (hk:k < 6):(worldY a C)[k]?=(#[.pointer (some ⟨a,0,none⟩),.int .i64 C.bits,.int .i64 C.rows,.int .i64 C.width,.int .i64 C.mode,.int .u64 C.seed]:Array Value)[k]?:=by
 rw [worldY_is,Array.getElem?_append_left]
 exact hk
theorem TWAt.new {w:World} {p a:Nat} {C:Cfg} (h:w.heap[p]?=some (.cells (worldY a C) 36 (0,0))):TWAt w p a C (fun _ _=>0) :=
 ⟨⟨_,h,worldY_lo _ _ (by decide),worldY_lo _ _ (by decide),worldY_lo _ _ (by decide),worldY_lo _ _ (by decide),worldY_lo _ _ (by decide),worldY_lo _ _ (by decide),fun h i hh hi=>worldY_get _ _ hh hi⟩,fun _ _ _ _=>by omega⟩
theorem TWAt.c0 {w:World} {p a:Nat} {C:Cfg} {f:Nat→Nat→Int} (h:TWAt w p a C f):w.cell? ⟨p,0,none⟩=some (.pointer (some ⟨a,0,none⟩))∧w.cell? ⟨p,1,none⟩=some (.int .i64 C.bits)∧w.cell? ⟨p,2,none⟩=some (.int .i64 C.rows)∧w.cell? ⟨p,3,none⟩=some (.int .i64 C.width)∧w.cell? ⟨p,4,none⟩=some (.int .i64 C.mode)∧w.cell? ⟨p,5,none⟩=some (.int .u64 C.seed):=by
 obtain ⟨cur,h1,a0,a1,a2,a3,a4,a5,_⟩:=h.ex
 refine ⟨?_, ?_, ?_, ?_, ?_, ?_⟩ <;> rw [cell_of h1] <;> assumption
theorem wrap_mod {s:Int} (h:U64 s):wrap64 s % 18446744073709551616=s∧I64 (wrap64 s):=by
 obtain ⟨h1,h2⟩:=h
 unfold wrap64 I64
 omega
set_option maxRecDepth 20000 in
set_option maxHeartbeats 8000000 in
theorem TMade_c (x:Cfg) (hx:x.Raw) (mode:Int) (hm1:1≤mode) (hm3:mode≤3) (w:World) (hT:Tabs w) :
 Calls Tryz.prog 47 #[.agg #[.int .i64 x.bits,.int .i64 x.rows,.int .i64 x.width,.int .i64 x.mode,.int .u64 x.seed],.int .i64 mode] w fun e w'=>∃ N p a m l,e=.returned (.pointer (some ⟨p,0,none⟩))∧PlAt w' N p a m l (topC x mode) 1048576 (fun _=>zerosK (topC x mode)) (fun _ _=>0)∧w.heap.size≤N∧Ext w w':=by
 have hB:=hT.size
 have HT:=Lib.hid hT
 have HA:=fun W=>Lib.hid (Any_c x hx 6 9 (by decide) (by decide) (by decide) (by decide) W)
 have hok:=topC_ok x hx hm1 hm3
 have HOK:=Lib.hid hok
 have ws:wrap64 (topC x mode).seed % 18446744073709551616=(topC x mode).seed∧I64 (wrap64 (topC x mode).seed):=wrap_mod hx.s
 have HWS:=Lib.hid ws
 clear hT
 go_enter Tryz.func47,Tryz.ntmps47
 go_wp2_with fail
 refine Calls.mono (HA _).out ?_
 rintro e w1 ⟨rfl,hx1⟩
 have hs1:=hx1.size
 simp only [size_alloc] at hs1
 have hE1:Ext w w1:=by (repeat' (first | exact Ext.refl _ | assumption | apply Ext.allocR | apply Ext.drewR | apply Ext.drewNR | (refine Ext.trans' ?_ (by assumption))))
 have HX1:=Lib.hid hE1
 have hm6:(mkC x 6 9).rows=(topC x mode).rows∧(mkC x 6 9).width=(topC x mode).width∧(mkC x 6 9).seed=(topC x mode).seed∧mode=(topC x mode).mode:=⟨rfl,rfl,rfl,rfl⟩
 generalize hC:topC x mode=C at *
 generalize hA:mkC x 6 9=A at *
 have hCb:C.bits=6:=by rw [← hC]; rfl
 have HTC:=Lib.hid hC
 have HCB:=Lib.hid hCb
 obtain ⟨m1,m2,m3,m4⟩:=hm6
 rw [m1,m2,m3,m4]
 clear hx1 hE1 m1 m2 m3 m4 hC hA hCb
 have hbx:=heap_at w1 (.cells #[.int .i64 A.bits,.int .i64 C.rows,.int .i64 C.width,.int .i64 A.mode,.int .u64 C.seed] 24) rfl
 have p3:=(cell_of hbx 3).trans rfl
 have f3:=frozen_of hbx 3
 go_wp2_with fail
 obtain ⟨W2,hW2⟩:∃ W2,w1.alloc (.cells #[.int .i64 6,.int .i64 C.rows,.int .i64 C.width,.int .i64 C.mode,.int .u64 C.seed] 24)=W2:=⟨_,rfl⟩
 have hb2:=heap_at w1 (.cells #[.int .i64 6,.int .i64 C.rows,.int .i64 C.width,.int .i64 C.mode,.int .u64 C.seed] 24) rfl
 have hx2:=Ext.alloc' w1 (.cells #[.int .i64 6,.int .i64 C.rows,.int .i64 C.width,.int .i64 C.mode,.int .u64 C.seed] 24)
 rw [hW2] at hb2 hx2 ⊢
 have hs2:=hx2.size
 have bl:=lt_of hb2
 have b0:=(cell_of hb2 0).trans rfl
 have b1:=(cell_of hb2 1).trans rfl
 have b2:=(cell_of hb2 2).trans rfl
 have b3:=(cell_of hb2 3).trans rfl
 have b4:=(cell_of hb2 4).trans rfl
 have HX2:=Lib.hid (HX1.out.trans' hx2)
 have HB2:=Lib.hid hb2
 clear hbx p3 f3 hb2 hx2 hW2
 have hC0:=af_drew W2
 refine pi_start (fun w'=>∃ x:After W2,w'=x.w) [] (by kernel_rfl) ?_
 refine pi_c 1 (by assumption) rfl (by kernel_rfl) (by kernel_rfl) (fun _ _ _ _ h=>h) (fun K hK=>?_)
 go_big_quiet_op
 refine hK _ ?_
 clear hK K
 refine pi_l 0 rfl (by kernel_rfl) (fun K hK=>?_)
 go_wp2_with (go_at_call 34; refine (ANew_c _).mono ?_; rintro e w3 ⟨rfl,hA,hx3⟩)
 refine hK _ _ (fun _ h=>af_step h hx3) ?_
 clear hK K
 refine pi_t 2 rfl (by kernel_rfl) (by kernel_rfl) (fun _ _ _ _ h=>h) (fun K hK=>?_)
 go_big_quiet_op
 refine hK _ ?_
 clear hK K
 refine pi_l 3 rfl (by kernel_rfl) (fun K hK=>?_)
 have hx3':Ext W2 w3:=(Ext.refl W2).drewR.trans' hx3
 have hs3:=hx3'.size
 obtain ⟨W4,hW4⟩:∃ W4,w3.alloc (.cells (worldY (W2.heap.size+1) C) 36)=W4:=⟨_,rfl⟩
 have hA3:AgAt W4 W2.heap.size (W2.heap.size+1) W2.heap.size [] 0:=by rw [← hW4]; exact hA.ext (Ext.alloc' w3 _)
 have hw4:W4.heap[w3.heap.size]?=some (.cells (worldY (W2.heap.size+1) C) 36 (0,0)):=by rw [← hW4]; exact heap_at w3 _ rfl
 have hx24:Ext W2 W4:=by rw [← hW4]; exact hx3'.allocR _
 have hsl:W4.heap.size=w3.heap.size+1:=by rw [← hW4,size_alloc]
 have hnp:¬ AgF (W2.heap.size+1) W2.heap.size [] w3.heap.size:=by
  intro h
  have:=hA.flt h
  omega
 have htw:=TWAt.new hw4
 have HA3:=Lib.hid hA3
 have HTW:=Lib.hid htw
 have HNP:=Lib.hid hnp
 have HX4:=Lib.hid (HX2.out.trans' hx24)
 have HX24:=Lib.hid hx24
 have hp0:=htw.c0.1
 have hpl:=htw.lt
 have HCB4:=Lib.hid (hx24.block _ bl)
 unfold worldY at hW4
 rw [HCB.out] at hW4
 clear hA3 htw hnp hx24 hA hx3 hx3' hw4
 go_wp2_with fail
 refine hK _ _ (fun _ h=>af_step h (by rw [← hW4]; exact Ext.alloc' _ _)) ?_
 clear hK K
 refine pi_t 4 rfl (by kernel_rfl) (by kernel_rfl) (fun _ _ _ _ h=>h) (fun K hK=>?_)
 go_big_quiet_op
 refine hK _ ?_
 clear hK K
 refine pi_end (by kernel_rfl) ?_
 have h5:W4.heap[w1.heap.size]?=some (.cells #[.int .i64 6,.int .i64 C.rows,.int .i64 C.width,.int .i64 C.mode,.int .u64 C.seed] 24 (0,0)):=HCB4.out.trans HB2.out
 have H5:=Lib.hid h5
 have hw1:w1.heap.size < W2.heap.size:=bl
 clear hW4 hC0 h5 b0 b1 b2 b3 b4
 go_wp2_with fail
 go_loopw [7,8,9] (fun u7 _ _ wr=>∃ (i:Nat) (n:Int) (l:List (Nat × Th)),i≤3∧n=(i:Int)+1∧u7=.int .i64 n∧AgAt wr W2.heap.size (W2.heap.size+1) W2.heap.size l i∧stOf l i=preSt C i∧TWAt wr w3.heap.size (W2.heap.size+1) C (fun _ _=>0)∧¬ AgF (W2.heap.size+1) W2.heap.size l w3.heap.size∧Below W2.heap.size W2 wr) (fun u7 _ _ _=>(4 - intOf u7).toNat)
 case atStart =>
  exact ⟨0,1,[],by omega,by omega,rfl,HA3.out,rfl,HTW.out,HNP.out,HX24.out⟩
 case round =>
  obtain ⟨i,n,l,hi,hn,rfl,hA,hst,htw,hnp,hBw⟩:=hrel
  have HN:=Lib.hid hn
  have hEw:Ext w wr:=HX2.out.trans' hBw
  have HEW:=Lib.hid hEw
  have HTR:=Lib.hid (HT.out.ext hEw)
  have hpc:=htw.c0.1
  have hplr:=htw.lt
  have hcfg:=Below.keep hBw HB2.out hw1
  have b1:=(cell_of hcfg 1).trans rfl
  have b2:=(cell_of hcfg 2).trans rfl
  have b3:=(cell_of hcfg 3).trans rfl
  have b4:=(cell_of hcfg 4).trans rfl
  have bl:=lt_of hcfg
  have HAG:=Lib.hid hA
  have HST:=Lib.hid hst
  have HTW2:=Lib.hid htw
  have HNP2:=Lib.hid hnp
  have HBW:=Lib.hid hBw
  by_cases hi3:i < 3
  · have ok:=HOK.out
    have r1:=ok.r1
    have r2:=ok.r2
    have w1':=ok.w1
    have w2':=ok.w2
    have m1:=ok.m1
    have m2:=ok.m2
    have hls:=top_create ok HCB.out hi3 HWS.out.2 HWS.out.1
    rw [show ((i+1:Nat):Int)=n by omega] at hls
    have i1:I64 C.rows:=by unfold I64; omega
    have i2:I64 C.width:=by unfold I64; omega
    have i3:I64 C.mode:=by unfold I64; omega
    have i4:=HWS.out.2
    have i5:I64 n:=by unfold I64; omega
    have HT1:=fun W=>Lib.hid (TText_c C.rows i1 W)
    have HT2:=fun W=>Lib.hid (TText_c C.width i2 W)
    have HT3:=fun W=>Lib.hid (TText_c C.mode i3 W)
    have HT4:=fun W=>Lib.hid (TText_c (wrap64 C.seed) i4 W)
    have HT5:=fun W=>Lib.hid (TText_c n i5 W)
    have z1:=tb_size i1
    have z2:=tb_size i2
    have z3:=tb_size i3
    have z4:=tb_size i4
    have z5:=tb_size i5
    have hcat:=cat_make C.rows C.width C.mode (wrap64 C.seed)
    have hcat2:=cat_str [104,97,110,100,108,101,32] (Lib.itoa n)
    obtain ⟨t1,e1⟩:∃ t,(⟨(Lib.itoa C.rows).toArray⟩:ByteArray)=t:=⟨_,rfl⟩
    obtain ⟨t2,e2⟩:∃ t,(⟨(Lib.itoa C.width).toArray⟩:ByteArray)=t:=⟨_,rfl⟩
    obtain ⟨t3,e3⟩:∃ t,(⟨(Lib.itoa C.mode).toArray⟩:ByteArray)=t:=⟨_,rfl⟩
    obtain ⟨t4,e4⟩:∃ t,(⟨(Lib.itoa (wrap64 C.seed)).toArray⟩:ByteArray)=t:=⟨_,rfl⟩
    obtain ⟨t5,e5⟩:∃ t,(⟨(Lib.itoa n).toArray⟩:ByteArray)=t:=⟨_,rfl⟩
    obtain ⟨sb,e6⟩:∃ t,lineB vCreate [6,C.rows,C.width,C.mode,wrap64 C.seed]=t:=⟨_,rfl⟩
    obtain ⟨rb,e7⟩:∃ t,(⟨([104,97,110,100,108,101,32]++Lib.itoa n).toArray⟩:ByteArray)=t:=⟨_,rfl⟩
    rw [e1,e2,e3,e4,e6] at hcat
    rw [e5,e7,show (⟨([104,97,110,100,108,101,32]:List UInt8).toArray⟩:ByteArray)=⟨#[104,97,110,100,108,101,32]⟩ from rfl] at hcat2
    rw [e1] at z1
    rw [e2] at z2
    rw [e3] at z3
    rw [e4] at z4
    rw [e5] at z5
    unfold strV at HT1 HT2 HT3 HT4 HT5
    rw [e1] at HT1
    rw [e2] at HT2
    rw [e3] at HT3
    rw [e4] at HT4
    rw [e5] at HT5
    rw [e6] at hls
    have HLS:=Lib.hid hls
    have HRB:=Lib.hid e7
    have hn1:1≤n∧n≤3:=by omega
    clear hn e1 e2 e3 e4 e5 e6 e7 hls i1 i2 i3 i4 i5 hcfg hA hst htw hnp hBw hEw ok
    go_wp2_with fail
    obtain ⟨S,hS⟩:∃ S,AgF (W2.heap.size+1) W2.heap.size l=S:=⟨_,rfl⟩
    have nS1:¬ S w1.heap.size:=by
     rw [← hS]
     intro h
     have:=HAG.out.flo h
     omega
    have nS2:¬ S w3.heap.size:=by rw [← hS]; exact HNP2.out
    have HSS:=Lib.hid hS
    clear hS
    have hC0:=afs_drew S wr
    refine pi_start (fun w'=>∃ x:AftS S wr,w'=x.w) [] (by kernel_rfl) ?_
    refine pi_t 0 rfl (by kernel_rfl) (by kernel_rfl) (fun _ _ _ _ h=>h) (fun K hK=>?_)
    go_big_quiet_op
    refine hK _ ?_
    clear hK K
    refine pi_t 1 rfl (by kernel_rfl) (by kernel_rfl) (fun _ _ _ _ h=>h) (fun K hK=>?_)
    go_big_quiet_op
    refine hK _ ?_
    clear hK K
    refine pi_t 2 rfl (by kernel_rfl) (by kernel_rfl) (fun _ _ _ _ h=>h) (fun K hK=>?_)
    go_big_quiet_op
    refine hK _ ?_
    clear hK K
    refine pi_t 4 rfl (by kernel_rfl) (by kernel_rfl) (fun _ _ _ _ h=>h) (fun K hK=>?_)
    go_big_quiet_op
    refine hK _ ?_
    clear hK K
    refine pi_t 9 rfl (by kernel_rfl) (by kernel_rfl) (fun _ _ _ _ h=>h) (fun K hK=>?_)
    go_big_quiet_op
    refine hK _ ?_
    clear hK K
    refine pi_t 14 rfl (by kernel_rfl) (by kernel_rfl) (fun _ _ _ _ h=>h) (fun K hK=>?_)
    go_big_quiet_op
    refine hK _ ?_
    clear hK K
    refine pi_t 19 rfl (by kernel_rfl) (by kernel_rfl) (fun _ _ _ _ h=>h) (fun K hK=>?_)
    go_big_quiet_op
    refine hK _ ?_
    clear hK K
    refine pi_c 3 (by assumption) rfl (by kernel_rfl) (by kernel_rfl) (fun _ _ _ _ h=>h) (fun K hK=>?_)
    go_big_quiet_op
    refine hK _ ?_
    clear hK K
    refine pi_c 5 (by assumption) rfl (by kernel_rfl) (by kernel_rfl) (fun _ _ _ _ h=>h) (fun K hK=>?_)
    go_big_quiet_op
    refine hK _ ?_
    clear hK K
    refine pi_c 10 (by assumption) rfl (by kernel_rfl) (by kernel_rfl) (fun _ _ _ _ h=>h) (fun K hK=>?_)
    go_big_quiet_op
    refine hK _ ?_
    clear hK K
    refine pi_c 15 (by assumption) rfl (by kernel_rfl) (by kernel_rfl) (fun _ _ _ _ h=>h) (fun K hK=>?_)
    go_big_quiet_op
    refine hK _ ?_
    clear hK K
    refine pi_c 20 (by assumption) rfl (by kernel_rfl) (by kernel_rfl) (fun _ _ _ _ h=>h) (fun K hK=>?_)
    go_big_quiet_op
    refine hK _ ?_
    clear hK K
    refine pi_t 21 rfl (by kernel_rfl) (by kernel_rfl) (fun _ _ _ _ h=>h) (fun K hK=>?_)
    go_big_quiet_op
    refine hK _ ?_
    clear hK K
    refine pi_l 6 rfl (by kernel_rfl) (fun K hK=>?_)
    go_wp2_with (go_at_call 16; refine (HT1 _).out.mono ?_; rintro e v1 ⟨rfl,hx1⟩)
    refine hK _ _ (fun _ h=>afs_step h hx1) ?_
    clear hK K
    refine pi_t 7 rfl (by kernel_rfl) (by kernel_rfl) (fun _ _ _ _ h=>h) (fun K hK=>?_)
    go_big_quiet_op
    refine hK _ ?_
    clear hK K
    refine pi_t 8 rfl (by kernel_rfl) (by kernel_rfl) (fun _ _ _ _ h=>h) (fun K hK=>?_)
    go_big_quiet_op
    refine hK _ ?_
    clear hK K
    refine pi_l 11 rfl (by kernel_rfl) (fun K hK=>?_)
    go_wp2_with (go_at_call 16; refine (HT2 _).out.mono ?_; rintro e v2 ⟨rfl,hx2⟩)
    refine hK _ _ (fun _ h=>afs_step h hx2) ?_
    clear hK K
    refine pi_t 12 rfl (by kernel_rfl) (by kernel_rfl) (fun _ _ _ _ h=>h) (fun K hK=>?_)
    go_big_quiet_op
    refine hK _ ?_
    clear hK K
    refine pi_t 13 rfl (by kernel_rfl) (by kernel_rfl) (fun _ _ _ _ h=>h) (fun K hK=>?_)
    go_big_quiet_op
    refine hK _ ?_
    clear hK K
    refine pi_l 16 rfl (by kernel_rfl) (fun K hK=>?_)
    go_wp2_with (go_at_call 16; refine (HT3 _).out.mono ?_; rintro e v3 ⟨rfl,hx3⟩)
    refine hK _ _ (fun _ h=>afs_step h hx3) ?_
    clear hK K
    refine pi_t 17 rfl (by kernel_rfl) (by kernel_rfl) (fun _ _ _ _ h=>h) (fun K hK=>?_)
    go_big_quiet_op
    refine hK _ ?_
    clear hK K
    refine pi_t 18 rfl (by kernel_rfl) (by kernel_rfl) (fun _ _ _ _ h=>h) (fun K hK=>?_)
    go_big_quiet_op
    refine hK _ ?_
    clear hK K
    refine pi_l 22 rfl (by kernel_rfl) (fun K hK=>?_)
    go_wp2_with (go_at_call 16; refine (HT4 _).out.mono ?_; rintro e v4 ⟨rfl,hx4⟩)
    refine hK _ _ (fun _ h=>afs_step h hx4) ?_
    clear hK K
    have hxx:Ext wr v4:=(((((Ext.refl wr).drewR.trans' hx1).trans' hx2).trans' hx3).trans' hx4)
    have HXX:=Lib.hid hxx
    clear hx1 hx2 hx3 hx4 hxx
    refine pi_t 23 rfl (by kernel_rfl) (by kernel_rfl) (fun _ _ _ _ h=>h) (fun K hK=>?_)
    go_big_quiet_op
    refine hK _ ?_
    clear hK K
    refine pi_l 24 rfl (by kernel_rfl) (fun K hK=>?_)
    go_wp2_with (go_at_call 15; refine (HLS.out v4 _ _ _ _ _ (HAG.out.ext HXX.out) HST.out (by omega) (HTR.out.ext HXX.out) (by omega)).mono ?_; rintro e v5 ⟨⟨l',last',rfl,hA',hst',hfr⟩,hM⟩; rw [show strV ((some (repT (Rep.handle n)),preSt C (i+1)).1.getD [])=.string rb from congrArg Value.string HRB.out])
    have hM2:Mod S wr v5:=by rw [← HSS.out]; exact (HXX.out.mod _).trans hM
    refine hK _ _ (fun _ _=>⟨⟨_,hM2⟩,rfl⟩) ?_
    clear hK K
    refine pi_t 25 rfl (by kernel_rfl) (by kernel_rfl) (fun _ _ _ _ h=>h) (fun K hK=>?_)
    go_big_quiet_op
    refine hK _ ?_
    clear hK K
    refine pi_t 26 rfl (by kernel_rfl) (by kernel_rfl) (fun _ _ _ _ h=>h) (fun K hK=>?_)
    go_big_quiet_op
    refine hK _ ?_
    clear hK K
    refine pi_t 27 rfl (by kernel_rfl) (by kernel_rfl) (fun _ _ _ _ h=>h) (fun K hK=>?_)
    go_big_quiet_op
    refine hK _ ?_
    clear hK K
    refine pi_t 28 rfl (by kernel_rfl) (by kernel_rfl) (fun _ _ _ _ h=>h) (fun K hK=>?_)
    go_big_quiet_op
    refine hK _ ?_
    clear hK K
    refine pi_t 29 rfl (by kernel_rfl) (by kernel_rfl) (fun _ _ _ _ h=>h) (fun K hK=>?_)
    go_big_quiet_op
    refine hK _ ?_
    clear hK K
    refine pi_end (by kernel_rfl) ?_
    go_wp2_with fail
    refine Calls.mono (HT5 _).out ?_
    rintro e v6 ⟨rfl,hx6⟩
    have hx6':=hx6
    have hla:last'=i+1:=by have:=congrArg St.last hst'; exact this
    subst hla
    have hb45:Below W2.heap.size v4 v5:=(HAG.out.ext HXX.out).below hM
    have hbw:Below W2.heap.size W2 v6:=Below.trans (Below.trans (Below.trans HBW.out (Below.mono HXX.out HBW.out.size)) hb45) (Below.mono hx6 (Nat.le_trans HBW.out.size (Nat.le_trans HXX.out.size hM.size)))
    have htw6:TWAt v6 w3.heap.size (W2.heap.size+1) C (fun _ _=>0):=(HTW2.out.keep (hM2.block _ hplr nS2)).keep (hx6.block _ (Nat.lt_of_lt_of_le hplr hM2.size))
    have hnp6:¬ AgF (W2.heap.size+1) W2.heap.size l' w3.heap.size:=by
     intro h
     rcases hfr _ h with h | h
     · exact HNP2.out h
     · have:=HXX.out.size
       omega
    have HR:=Lib.hid (And.intro (hA'.ext hx6) (And.intro hst' (And.intro htw6 (And.intro hnp6 hbw))))
    clear hx6 hx6' hb45 hbw htw6 hnp6 hA' hst' hfr hM hM2 hC0
    go_wp2
    go_roundw
    case rel=>exact ⟨i+1,n+1,l',by omega,by have:=HN.out; omega,by go_num,HR.out.1,HR.out.2.1,HR.out.2.2.1,HR.out.2.2.2.1,HR.out.2.2.2.2⟩
    case measure=>simp [intOf]; omega
  · obtain rfl:i=3:=by omega
    have hn4:n=4:=by omega
    subst hn4
    have HF:=Lib.hid (show PlAt wr W2.heap.size w3.heap.size (W2.heap.size+1) W2.heap.size l C 1048576 (fun _=>zerosK C) (fun _ _=>0) from ⟨htw,hA,hst.trans (pre_top C),hnp,HOK.out,HCB.out,HoldS.zero C _ (by decide),HTR.out,by omega,by omega⟩)
    clear hA hst htw hnp hBw hEw hcfg
    go_wp2
    go_ret
    rw [HTC.out]
    exact ⟨W2.heap.size,w3.heap.size,W2.heap.size+1,W2.heap.size,l,rfl,HF.out,HX2.out.size,HEW.out⟩
end Go.Proofs.YtmalncfcgcebhaaGreatDoor
namespace Go.Proofs.YtmalncfcgcebhaaGreatDoor
set_option linter.unusedVariables false
open Go.Proofs Go.RowKit
section
variable {w w':World} {q:Nat} {cw:Array Value} {fz:Nat × Nat}
theorem LvAt.keepT {L:Lev} {C:Cfg} {lv:Int} {l:List Int} (h:LvAt w L C lv l) (hq:w.heap[q]?=some (.cells cw 36 fz)) (hk:∀ b,b≠q→w'.heap[b]?=w.heap[b]?):LvAt w' L C lv l:=by
 obtain ⟨cur,h3⟩:=h.isc
 refine h.keep (hk _ ?_) (hk _ ?_) (hk _ (blk_ne h3 hq (by decide)))
 · rcases h with ⟨_,h⟩ | ⟨_,h⟩ <;> exact blk_ne h.ex hq (by decide)
 · rcases h with ⟨_,h⟩ | ⟨_,h⟩ <;> (obtain ⟨cap,h1,_⟩:=h.g.ex; exact blk_ne h1 hq (by decide))
theorem KAt.keepT {s g:Nat} {C:Cfg} {B:Nat} {L:Nat→Lev} {ls:Nat→List Int} (h:KAt w s g C B L ls) (hq:w.heap[q]?=some (.cells cw 36 fz)) (hk:∀ b,b≠q→w'.heap[b]?=w.heap[b]?):KAt w' s g C B L ls:=by
 refine ⟨?_, ?_,fun n hn=>(h.lev n hn).keepT hq hk,h.sep,h.ok,h.hB⟩
 · obtain ⟨cap,h1,h2⟩:=h.ex
   exact ⟨cap,(hk _ (blk_ne h1 hq (by decide))).trans h1,h2⟩
 · obtain ⟨cur,h1,h2⟩:=h.row
   exact ⟨cur,(hk _ (blk_ne h1 hq (by decide))).trans h1,h2⟩
theorem WAt.keepT {N p b:Nat} {C:Cfg} {B n:Nat} {sm:Bk} {bk:Nat→Bk} (h:WAt w N p b C B n sm bk) (hq:w.heap[q]?=some (.cells cw 36 fz)) (hk:∀ b,b≠q→w'.heap[b]?=w.heap[b]?):WAt w' N p b C B n sm bk:=by
 refine ⟨?_, ?_, ?_,fun i hi=>?_,h.sepS,h.sepB,h.n1,h.n2,h.md,h.loP,h.loB,h.loC⟩
 · obtain ⟨cap,h1,h2⟩:=h.st
   exact ⟨cap,(hk _ (blk_ne h1 hq (by decide))).trans h1,h2⟩
 · obtain ⟨cur,h1,h2⟩:=h.row
   exact ⟨cur,(hk _ (blk_ne h1 hq (by decide))).trans h1,h2⟩
 · exact KAt.keepT h.sum hq hk
 · exact KAt.keepT (h.bks i hi) hq hk
theorem AgAt.keepT {N p m:Nat} {l:List (Nat × Th)} {last:Nat} (h:AgAt w N p m l last) (hq:w.heap[q]?=some (.cells cw 36 fz)) (hk:∀ b,b≠q→w'.heap[b]?=w.heap[b]?):AgAt w' N p m l last:=by
 refine ⟨(hk _ (blk_ne h.hp hq (by decide))).trans h.hp, ?_,fun x hx=>?_,h.sep,h.up,h.le,h.len,h.lo⟩
 · obtain ⟨n,h1,h2⟩:=h.hm
   obtain ⟨es,c,h3⟩:=h.ism
   refine ⟨n,owns_keep h1 (hk _ fun e=>?_),h2⟩
   subst e
   rw [h3] at hq
   cases hq
 · have:=h.th x hx
   obtain ⟨i,t⟩:=x
   cases t with
   | st k C B=>exact KAt.keepT this hq hk
   | wi p b C B n sm bk=>exact WAt.keepT this hq hk
end
theorem PlAt.put {w:World} {N p a m:Nat} {l:List (Nat × Th)} {C:Cfg} {f:Nat→Nat→Int} (htw:TWAt w p a C f) (hag:AgAt w N a m l 3) (hnp:¬ AgF a m l p) (htb:Tabs w) (hlo:10≤N) (hlp:N≤p) {h i:Nat} (hh:h < 3) (hi:i < 64) {v:Int} (hv:-1125899906842624≤v∧v≤1125899906842624) :
 TWAt (w.setCell ⟨p,6+h*64+i,none⟩ (.int .i64 v)) p a C (fun h' j=>if h'=h∧j=i then v else f h' j)∧AgAt (w.setCell ⟨p,6+h*64+i,none⟩ (.int .i64 v)) N a m l 3∧Tabs (w.setCell ⟨p,6+h*64+i,none⟩ (.int .i64 v))∧Below N w (w.setCell ⟨p,6+h*64+i,none⟩ (.int .i64 v)):=by
 obtain ⟨cur,h1,_⟩:=htw.ex
 have hB:Below N w (w.setCell ⟨p,6+h*64+i,none⟩ (.int .i64 v)):=Below.setCell (Below.refl _ _) hlp _
 exact ⟨htw.set hh hi hv,hag.keepT h1 fun b hb=>setCell_other _ _ hb,htb.below hlo hB,hB⟩
end Go.Proofs.YtmalncfcgcebhaaGreatDoor
namespace Go.Proofs.YtmalncfcgcebhaaGreatDoor
set_option linter.unusedVariables false
open Go.Proofs Go.RowKit
def DoesPost (w:World) (N p a m:Nat) (C:Cfg) (T:Int) (e:Ending) (w':World):Prop :=
 e=.returned (.bool true)∧∃ l' g' f',PlAt w' N p a m l' C (T+T) g' f'∧Below N w w'
theorem PlAt.below_ext {w w':World} {N p a m:Nat} {l:List (Nat × Th)} {C:Cfg} {T:Int} {g:Nat→Nat→List Int} {f:Nat→Nat→Int} (H:PlAt w N p a m l C T g f) (hx:Ext w w'):Below N w w' :=
 Below.mono hx (Nat.le_trans H.lp (Nat.le_of_lt H.tw.lt))
theorem hand3 (x:Int):∃ h:Nat,(h:Int)=x % 65536 % 3∧h < 3:=⟨(x % 65536 % 3).toNat,by omega,by omega⟩
theorem smallZ_bd (mode d:Int):-1048576 < smallZ mode d∧smallZ mode d < 1048576∧(mode=2→0≤smallZ mode d):=by
 have h:=tmod_b20 (d:=d) (k:=1048576) (by decide)
 unfold smallZ
 split
 · exact ⟨by omega,by omega,fun _=>by omega⟩
 · exact ⟨by omega,by omega,fun h=>absurd h (by assumption)⟩
theorem done_ba:(⟨(repT .done).toArray⟩:ByteArray)=⟨#[100,111,110,101]⟩:=rfl
set_option maxRecDepth 20000 in
set_option maxHeartbeats 8000000 in
theorem TDoesAdd_c {w:World} {N p a m:Nat} {l:List (Nat × Th)} {C:Cfg} {T:Int} {g:Nat→Nat→List Int} {f:Nat→Nat→Int} (H:PlAt w N p a m l C T g f) (hT1:1048576≤T) (hT2:T≤35184372088832) (kd ho oo key d:Int) (h1:I64 ho) (h2:I64 oo) (h3:U64 key) (h4:I64 d) (hk3:kd≠3) (hk4:kd≠4) :
 Calls Tryz.prog 48 #[.pointer (some ⟨p,0,none⟩),.agg #[.int .i64 kd,.int .i64 ho,.int .i64 oo,.int .u64 key,.int .i64 d]] w (DoesPost w N p a m C T):=by
 have HH:=Lib.hid H
 have hpl:=H.tw.lt
 obtain ⟨c0,c1,c2,c3,c4,c5⟩:=H.tw.c0
 have b3:(kd == 3)=false:=by simpa using hk3
 have b4:(kd == 4)=false:=by simpa using hk4
 obtain ⟨h,hh,hh3⟩:=hand3 ho
 obtain ⟨o,ho',ho3⟩:=hand3 oo
 have HH1:=fun W=>Lib.hid (THandle_c ho h1 W)
 have HO1:=fun W=>Lib.hid (THandle_c oo h2 W)
 rw [← hh] at HH1
 rw [← ho'] at HO1
 clear hh ho'
 obtain ⟨k,hk⟩:∃ k:Nat,(k:Int)=key % 64:=⟨(key % 64).toNat,by omega⟩
 have hk64:k < 64:=by omega
 have hkt:key.tmod 64=(k:Int):=by rw [hk,Int.tmod_eq_emod_of_nonneg h3.1]
 clear hk
 have hsm:=smallZ_bd C.mode d
 have HSM:=fun W=>Lib.hid (TSmall_c C d h4 W)
 generalize smallZ C.mode d=z at *
 have hzI:I64 z:=by unfold I64; omega
 have hadd:=H.hd.add H.ok H.hb hh3 hk64 (d:=z) (by omega) hsm.2.2 (by omega)
 have hfb:=H.hd.f_bd hh3 hk64
 have HADD:=Lib.hid hadd
 have HL:=fun W (hx:Ext w W)=>Lib.hid ((H.ext hx).line (top_add hh3 (show (0:Int)≤(k:Int) by omega) (by omega) hzI hadd.2))
 have HT1:=fun W=>Lib.hid (TText_c ((h+1:Nat):Int) (hI hh3) W)
 have hkI:I64 (k:Int):=by unfold I64; omega
 have HT2:=fun W=>Lib.hid (TText_c (k:Int) hkI W)
 have HT3:=fun W=>Lib.hid (TText_c z hzI W)
 have z1:=tb_size (hI hh3)
 have z2:=tb_size hkI
 have z3:=tb_size hzI
 have hcat:=cat_three vAdd ((h+1:Nat):Int) (k:Int) z
 obtain ⟨t1,e1⟩:∃ t,(⟨(Lib.itoa ((h+1:Nat):Int)).toArray⟩:ByteArray)=t:=⟨_,rfl⟩
 obtain ⟨t2,e2⟩:∃ t,(⟨(Lib.itoa (k:Int)).toArray⟩:ByteArray)=t:=⟨_,rfl⟩
 obtain ⟨t3,e3⟩:∃ t,(⟨(Lib.itoa z).toArray⟩:ByteArray)=t:=⟨_,rfl⟩
 obtain ⟨sb,e4⟩:∃ t,lineB vAdd [((h+1:Nat):Int),(k:Int),z]=t:=⟨_,rfl⟩
 have hv:(⟨(vAdd++[32]).toArray⟩:ByteArray)=⟨#[97,100,100,32]⟩:=rfl
 rw [e1,e2,e3,e4,hv] at hcat
 rw [e1] at z1
 rw [e2] at z2
 rw [e3] at z3
 unfold strV at HT1 HT2 HT3 HL
 rw [e1] at HT1
 rw [e2] at HT2
 rw [e3] at HT3
 rw [e4,done_ba] at HL
 have hzb:-1048576 < z∧z < 1048576:=⟨hsm.1,hsm.2.1⟩
 have hhc:(h:Int)+1=((h+1:Nat):Int):=by omega
 have HHC:=Lib.hid hhc
 clear e1 e2 e3 e4 hv hadd hhc hsm H
 obtain ⟨W1,hW1⟩:∃ W1,w.alloc (.cells #[.int .i64 kd,.int .i64 ho,.int .i64 oo,.int .u64 key,.int .i64 d] 102)=W1:=⟨_,rfl⟩
 have hb1:=heap_at w (.cells #[.int .i64 kd,.int .i64 ho,.int .i64 oo,.int .u64 key,.int .i64 d] 102) rfl
 have hx1:=Ext.alloc' w (.cells #[.int .i64 kd,.int .i64 ho,.int .i64 oo,.int .u64 key,.int .i64 d] 102)
 rw [hW1] at hb1 hx1
 have o0:=(cell_of hb1 0).trans rfl
 have o1:=(cell_of hb1 1).trans rfl
 have o2:=(cell_of hb1 2).trans rfl
 have o3:=(cell_of hb1 3).trans rfl
 have o4:=(cell_of hb1 4).trans rfl
 have ol:=lt_of hb1
 have c0:=(hx1.cell hpl).trans c0
 have c1:=(hx1.cell hpl).trans c1
 have c2:=(hx1.cell hpl).trans c2
 have c3:=(hx1.cell hpl).trans c3
 have c4:=(hx1.cell hpl).trans c4
 have c5:=(hx1.cell hpl).trans c5
 have hpl1:=Nat.lt_of_lt_of_le hpl hx1.size
 have HX1:=Lib.hid hx1
 have hNs:∀ k,AgF a m l k→k < w.heap.size:=fun k hk=>HH.out.ag.flt hk
 obtain ⟨S,hS⟩:∃ S,AgF a m l=S:=⟨_,rfl⟩
 have nS1:¬ S w.heap.size:=by
  rw [← hS]
  intro h
  have:=hNs _ h
  omega
 have nS2:¬ S p:=by rw [← hS]; exact HH.out.np
 have HSS:=Lib.hid hS
 clear hS hNs hb1 hx1
 go_enter Tryz.func48,Tryz.ntmps48
 go_wp2_with fail
 clear hW1
 refine Calls.mono (HH1 _).out ?_
 rintro e v1 ⟨rfl,rfl⟩
 go_wp2_with fail
 refine Calls.mono (HO1 _).out ?_
 rintro e v2 ⟨rfl,rfl⟩
 go_wp2_with fail
 have hC0:=af_drew v2
 refine pi_start (fun w'=>∃ x:After v2,w'=x.w) [] (by kernel_rfl) ?_
 refine pi_t 0 rfl (by kernel_rfl) (by kernel_rfl) (fun _ _ _ _ h=>h) (fun K hK=>?_)
 go_big_quiet_op
 refine hK _ ?_
 clear hK K
 refine pi_t 1 rfl (by kernel_rfl) (by kernel_rfl) (fun _ _ _ _ h=>h) (fun K hK=>?_)
 go_big_quiet_op
 refine hK _ ?_
 clear hK K
 refine pi_t 2 rfl (by kernel_rfl) (by kernel_rfl) (fun _ _ _ _ h=>h) (fun K hK=>?_)
 go_big_quiet_op
 refine hK _ ?_
 clear hK K
 refine pi_t 4 rfl (by kernel_rfl) (by kernel_rfl) (fun _ _ _ _ h=>h) (fun K hK=>?_)
 go_big_quiet_op
 refine hK _ ?_
 clear hK K
 refine pi_c 3 (by assumption) rfl (by kernel_rfl) (by kernel_rfl) (fun _ _ _ _ h=>h) (fun K hK=>?_)
 go_big_quiet_op
 refine hK _ ?_
 clear hK K
 refine pi_c 5 (by assumption) rfl (by kernel_rfl) (by kernel_rfl) (fun _ _ _ _ h=>h) (fun K hK=>?_)
 go_big_quiet_op
 refine hK _ ?_
 clear hK K
 refine pi_l 6 rfl (by kernel_rfl) (fun K hK=>?_)
 go_wp2_with (go_at_call 96; refine (HSM _).out.mono ?_; rintro e v3 ⟨rfl,hx3⟩)
 refine hK _ _ (fun _ h=>af_step h hx3) ?_
 clear hK K
 refine pi_t 7 rfl (by kernel_rfl) (by kernel_rfl) (fun _ _ _ _ h=>h) (fun K hK=>?_)
 go_big_quiet_op
 refine hK _ ?_
 clear hK K
 refine pi_end (by kernel_rfl) ?_
 have hx3':Ext v2 v3:=(Ext.refl v2).drewR.trans' hx3
 have HX3:=Lib.hid (HX1.out.trans' hx3')
 have c0:=(hx3'.cell hpl1).trans c0
 have hpl3:=Nat.lt_of_lt_of_le hpl1 hx3'.size
 have HX23:=Lib.hid hx3'
 clear hx3 hx3' hC0 c1 c2 c3 c4 c5
 go_wp2_with fail
 have hC0:=afs_drew S v3
 refine pi_start (fun w'=>∃ x:AftS S v3,w'=x.w) [] (by kernel_rfl) ?_
 refine pi_t 0 rfl (by kernel_rfl) (by kernel_rfl) (fun _ _ _ _ h=>h) (fun K hK=>?_)
 go_big_quiet_op
 refine hK _ ?_
 clear hK K
 refine pi_t 1 rfl (by kernel_rfl) (by kernel_rfl) (fun _ _ _ _ h=>h) (fun K hK=>?_)
 go_big_quiet_op
 refine hK _ ?_
 clear hK K
 refine pi_t 2 rfl (by kernel_rfl) (by kernel_rfl) (fun _ _ _ _ h=>h) (fun K hK=>?_)
 go_big_quiet_op
 refine hK _ ?_
 clear hK K
 refine pi_t 4 rfl (by kernel_rfl) (by kernel_rfl) (fun _ _ _ _ h=>h) (fun K hK=>?_)
 go_big_quiet_op
 refine hK _ ?_
 clear hK K
 refine pi_t 5 rfl (by kernel_rfl) (by kernel_rfl) (fun _ _ _ _ h=>h) (fun K hK=>?_)
 go_big_quiet_op
 refine hK _ ?_
 clear hK K
 refine pi_t 9 rfl (by kernel_rfl) (by kernel_rfl) (fun _ _ _ _ h=>h) (fun K hK=>?_)
 go_big_quiet_op
 refine hK _ ?_
 clear hK K
 refine pi_t 10 rfl (by kernel_rfl) (by kernel_rfl) (fun _ _ _ _ h=>h) (fun K hK=>?_)
 go_big_quiet_op
 refine hK _ ?_
 clear hK K
 refine pi_t 14 rfl (by kernel_rfl) (by kernel_rfl) (fun _ _ _ _ h=>h) (fun K hK=>?_)
 go_big_quiet_op
 refine hK _ ?_
 clear hK K
 refine pi_c 3 (by assumption) rfl (by kernel_rfl) (by kernel_rfl) (fun _ _ _ _ h=>h) (fun K hK=>?_)
 go_big_quiet_op
 refine hK _ ?_
 clear hK K
 refine pi_l 6 rfl (by kernel_rfl) (fun K hK=>?_)
 go_wp2_with (go_at_call 16; rw [HHC.out]; refine (HT1 _).out.mono ?_; rintro e y1 ⟨rfl,hy1⟩)
 refine hK _ _ (fun _ h=>afs_step h hy1) ?_
 clear hK K
 refine pi_t 7 rfl (by kernel_rfl) (by kernel_rfl) (fun _ _ _ _ h=>h) (fun K hK=>?_)
 go_big_quiet_op
 refine hK _ ?_
 clear hK K
 refine pi_t 8 rfl (by kernel_rfl) (by kernel_rfl) (fun _ _ _ _ h=>h) (fun K hK=>?_)
 go_big_quiet_op
 refine hK _ ?_
 clear hK K
 refine pi_l 11 rfl (by kernel_rfl) (fun K hK=>?_)
 go_wp2_with (go_at_call 16; refine (HT2 _).out.mono ?_; rintro e y2 ⟨rfl,hy2⟩)
 refine hK _ _ (fun _ h=>afs_step h hy2) ?_
 clear hK K
 refine pi_t 12 rfl (by kernel_rfl) (by kernel_rfl) (fun _ _ _ _ h=>h) (fun K hK=>?_)
 go_big_quiet_op
 refine hK _ ?_
 clear hK K
 refine pi_t 13 rfl (by kernel_rfl) (by kernel_rfl) (fun _ _ _ _ h=>h) (fun K hK=>?_)
 go_big_quiet_op
 refine hK _ ?_
 clear hK K
 refine pi_l 15 rfl (by kernel_rfl) (fun K hK=>?_)
 go_wp2_with (go_at_call 16; refine (HT3 _).out.mono ?_; rintro e y3 ⟨rfl,hy3⟩)
 refine hK _ _ (fun _ h=>afs_step h hy3) ?_
 clear hK K
 have hy:Ext v3 y3:=((((Ext.refl v3).drewR.trans' hy1).trans' hy2).trans' hy3)
 have HY:=Lib.hid hy
 clear hy1 hy2 hy3 hy
 refine pi_t 16 rfl (by kernel_rfl) (by kernel_rfl) (fun _ _ _ _ h=>h) (fun K hK=>?_)
 go_big_quiet_op
 refine hK _ ?_
 clear hK K
 refine pi_l 17 rfl (by kernel_rfl) (fun K hK=>?_)
 go_wp2_with (go_at_call 15; refine (HL y3 (HX3.out.trans' HY.out)).out.mono ?_; rintro e v4 ⟨rfl,l',hA',hst',hnp',htw',htb',hM,hfr⟩)
 have hM3:Mod S v3 v4:=by rw [← HSS.out]; exact (HY.out.mod _).trans hM
 refine hK _ _ (fun _ _=>⟨⟨_,hM3⟩,rfl⟩) ?_
 clear hK K
 refine pi_t 18 rfl (by kernel_rfl) (by kernel_rfl) (fun _ _ _ _ h=>h) (fun K hK=>?_)
 go_big_quiet_op
 refine hK _ ?_
 clear hK K
 refine pi_t 19 rfl (by kernel_rfl) (by kernel_rfl) (fun _ _ _ _ h=>h) (fun K hK=>?_)
 go_big_quiet_op
 refine hK _ ?_
 clear hK K
 refine pi_t 20 rfl (by kernel_rfl) (by kernel_rfl) (fun _ _ _ _ h=>h) (fun K hK=>?_)
 go_big_quiet_op
 refine hK _ ?_
 clear hK K
 refine pi_t 21 rfl (by kernel_rfl) (by kernel_rfl) (fun _ _ _ _ h=>h) (fun K hK=>?_)
 go_big_quiet_op
 refine hK _ ?_
 clear hK K
 refine pi_t 22 rfl (by kernel_rfl) (by kernel_rfl) (fun _ _ _ _ h=>h) (fun K hK=>?_)
 go_big_quiet_op
 refine hK _ ?_
 clear hK K
 refine pi_end (by kernel_rfl) ?_
 have hB4:Below N w v4:=Below.trans (HH.out.below_ext (HX3.out.trans' HY.out)) ((HH.out.ag.ext (HX3.out.trans' HY.out)).below hM)
 have hcl:=htw'.cell hh3 hk64
 have hfz:=htw'.frz (6+h*64+k)
 have hp4:=htw'.lt
 have HF1:=Lib.hid (And.intro hA' (And.intro hst' (And.intro hnp' (And.intro htw' (And.intro htb' hB4)))))
 obtain ⟨y,hyy⟩:∃ y,f h k=y:=⟨_,rfl⟩
 have HYY:=Lib.hid hyy
 rw [hyy] at hfb hcl
 have hwr:wrap64 (y+z)=y+z:=by unfold wrap64; omega
 clear hyy hM hM3 hA' hst' hnp' htw' htb' hB4 hfr hC0 c0
 go_wp2_with fail
 have hC0:=af_drew v4
 refine pi_start (fun w'=>∃ x:After v4,w'=x.w) [17] (by kernel_rfl) ?_
 refine pi_t 0 rfl (by kernel_rfl) (by kernel_rfl) (fun _ _ _ _ h=>h) (fun K hK=>?_)
 go_big_quiet_op
 refine hK _ ?_
 clear hK K
 refine pi_t 1 rfl (by kernel_rfl) (by kernel_rfl) (fun _ _ _ _ h=>h) (fun K hK=>?_)
 go_big_quiet_op
 refine hK _ ?_
 clear hK K
 refine pi_t 2 rfl (by kernel_rfl) (by kernel_rfl) (fun _ _ _ _ h=>h) (fun K hK=>?_)
 go_big_quiet_op
 refine hK _ ?_
 clear hK K
 refine pi_t 3 rfl (by kernel_rfl) (by kernel_rfl) (fun _ _ _ _ h=>h) (fun K hK=>?_)
 go_big_quiet_op
 refine hK _ ?_
 clear hK K
 refine pi_t 4 rfl (by kernel_rfl) (by kernel_rfl) (fun _ _ _ _ h=>h) (fun K hK=>?_)
 go_big_quiet_op
 refine hK _ ?_
 clear hK K
 refine pi_t 5 rfl (by kernel_rfl) (by kernel_rfl) (fun _ _ _ _ h=>h) (fun K hK=>?_)
 go_big_quiet_op
 refine hK _ ?_
 clear hK K
 refine pi_t 6 rfl (by kernel_rfl) (by kernel_rfl) (fun _ _ _ _ h=>h) (fun K hK=>?_)
 go_big_quiet_op
 refine hK _ ?_
 clear hK K
 refine pi_t 7 rfl (by kernel_rfl) (by kernel_rfl) (fun _ _ _ _ h=>h) (fun K hK=>?_)
 go_big_quiet_op
 refine hK _ ?_
 clear hK K
 refine pi_t 8 rfl (by kernel_rfl) (by kernel_rfl) (fun _ _ _ _ h=>h) (fun K hK=>?_)
 go_big_quiet_op
 refine hK _ ?_
 clear hK K
 refine pi_t 9 rfl (by kernel_rfl) (by kernel_rfl) (fun _ _ _ _ h=>h) (fun K hK=>?_)
 go_big_quiet_op
 refine hK _ ?_
 clear hK K
 refine pi_t 11 rfl (by kernel_rfl) (by kernel_rfl) (fun _ _ _ _ h=>h) (fun K hK=>?_)
 go_big_quiet_op
 refine hK _ ?_
 clear hK K
 refine pi_t 13 rfl (by kernel_rfl) (by kernel_rfl) (fun _ _ _ _ h=>h) (fun K hK=>?_)
 go_big_quiet_op
 refine hK _ ?_
 clear hK K
 refine pi_t 14 rfl (by kernel_rfl) (by kernel_rfl) (fun _ _ _ _ h=>h) (fun K hK=>?_)
 go_big_quiet_op
 refine hK _ ?_
 clear hK K
 refine pi_t 15 rfl (by kernel_rfl) (by kernel_rfl) (fun _ _ _ _ h=>h) (fun K hK=>?_)
 go_big_quiet_op
 refine hK _ ?_
 clear hK K
 refine pi_c 10 (by assumption) rfl (by kernel_rfl) (by kernel_rfl) (fun _ _ _ _ h=>h) (fun K hK=>?_)
 go_big_quiet_op
 refine hK _ ?_
 clear hK K
 refine pi_t 12 rfl (by kernel_rfl) (by kernel_rfl) (fun _ _ _ _ h=>h) (fun K hK=>?_)
 go_big_quiet_op
 refine hK _ ?_
 clear hK K
 refine pi_t 16 rfl (by kernel_rfl) (by kernel_rfl) (fun _ _ _ _ h=>h) (fun K hK=>?_)
 go_big_quiet_op
 refine hK _ ?_
 clear hK K
 refine pi_l 17 rfl (by kernel_rfl) (fun K hK=>?_)
 go_wp2
 refine hK _ _ (by simp) ?_
 clear hK K
 refine pi_end (by kernel_rfl) ?_
 have hv5:-1125899906842624≤y+z∧y+z≤1125899906842624:=by omega
 obtain ⟨g1,g2,g3,g4,g5,g6⟩:=HF1.out
 obtain ⟨q1,q2,q3,q4⟩:=PlAt.put g4 g1 g3 g5 HH.out.lo HH.out.lp hh3 hk64 hv5
 obtain ⟨W5,hW5⟩:∃ W5,v4.setCell ⟨p,6+h*64+k,none⟩ (.int .i64 (y+z))=W5:=⟨_,rfl⟩
 rw [hW5] at q1 q2 q3 q4
 have hfn:(fun h' j=>if h'=h∧j=k then y+z else f h' j)=addFn f h k z:=by
  funext h' j
  unfold addFn
  by_cases e:h'=h∧j=k
  · rw [if_pos e,if_pos e,e.1,e.2,HYY.out]
  · rw [if_neg e,if_neg e]
 rw [hfn] at q1
 have HF:Hid (PlAt W5.drew N p a m l' C (T+T) (setG g h (updK C (g h) (k:Int) z)) (addFn f h k z)∧Below N w W5.drew):=Lib.hid ⟨PlAt.ext ⟨q1,q2,g2,g3,HH.out.ok,HH.out.hb,HADD.out.1,q3,HH.out.lo,HH.out.lp⟩ (Ext.refl W5).drewR,Below.drew (Below.trans g6 q4)⟩
 clear q1 q2 q3 q4 g1 g2 g3 g4 g5 g6 hfn hcl hfz hC0
 go_wp2
 go_ret
 exact ⟨rfl,_,_,_,HF.out.1,HF.out.2⟩
end Go.Proofs.YtmalncfcgcebhaaGreatDoor
namespace Go.Proofs.YtmalncfcgcebhaaGreatDoor
set_option linter.unusedVariables false
open Go.Proofs Go.RowKit
def rowV (f:Nat→Int):List Value:=(List.range 64).map fun j=>.int .i64 (f j)
theorem rowV_get {f:Nat→Int} {i:Nat} (h:i < 64):(rowV f)[i]?=some (.int .i64 (f i)):=by
 unfold rowV
 rw [List.getElem?_map,List.getElem?_range h]
 rfl
theorem TWAt.row {w:World} {p a:Nat} {C:Cfg} {f:Nat→Nat→Int} (H:TWAt w p a C f) {o:Nat} (ho:o < 3):w.rangeAt p (6+o*64) (rowV (f o)):=by
 intro j v hv
 have hj:j < 64:=by
  have:=(List.getElem?_eq_some_iff.1 hv).1
  simpa [rowV] using this
 rw [rowV_get hj] at hv
 cases hv
 exact H.cell ho hj
def mixFn (op:Int→Int→Int) (f:Nat→Nat→Int) (h o i:Nat):Nat→Nat→Int:=fun h' j=>if h'=h∧j < i then op (f h j) (f o j) else f h' j
theorem mixFn_zero (op:Int→Int→Int) (f:Nat→Nat→Int) (h o:Nat):mixFn op f h o 0=f:=by
 funext h' j
 unfold mixFn
 rw [if_neg (by omega)]
theorem mixFn_here (op:Int→Int→Int) (f:Nat→Nat→Int) (h o i:Nat):mixFn op f h o i h i=f h i:=by
 unfold mixFn
 rw [if_neg (by omega)]
theorem mixFn_step (op:Int→Int→Int) (f:Nat→Nat→Int) (h o i:Nat):(fun h' j=>if h'=h∧j=i then op (f h i) (f o i) else mixFn op f h o i h' j)=mixFn op f h o (i+1):=by
 funext h' j
 unfold mixFn
 by_cases e:h'=h∧j=i
 · obtain ⟨rfl,rfl⟩:=e
   rw [if_pos ⟨rfl,rfl⟩,if_pos ⟨rfl,by omega⟩]
 · rw [if_neg e]
   by_cases e2:h'=h∧j < i
   · rw [if_pos e2,if_pos ⟨e2.1,by omega⟩]
   · rw [if_neg e2,if_neg]
     rintro ⟨a,b⟩
     by_cases e3:j=i
     · exact e ⟨a,e3⟩
     · exact e2 ⟨a,by omega⟩
theorem TWAt.congr {w:World} {p a:Nat} {C:Cfg} {f f':Nat→Nat→Int} (H:TWAt w p a C f) (h:∀ h' j,h' < 3→j < 64→f h' j=f' h' j):TWAt w p a C f':=by
 obtain ⟨cur,h1,a0,a1,a2,a3,a4,a5,h2⟩:=H.ex
 exact ⟨⟨cur,h1,a0,a1,a2,a3,a4,a5,fun h' j hh hj=>by rw [← h h' j hh hj]; exact h2 h' j hh hj⟩,fun h' j hh hj=>by rw [← h h' j hh hj]; exact H.bd h' j hh hj⟩
theorem mixFn_plus (f:Nat→Nat→Int) (h o:Nat):∀ h' j,h' < 3→j < 64→mixFn (fun x y=>x+y) f h o 64 h' j=plusFn f h o h' j:=by
 intro h' j _ hj
 unfold mixFn plusFn
 by_cases e:h'=h
 · rw [if_pos ⟨e,hj⟩,if_pos e]
 · rw [if_neg (fun h=>e h.1),if_neg e]
theorem mixFn_minus (f:Nat→Nat→Int) (h o:Nat):∀ h' j,h' < 3→j < 64→mixFn (fun x y=>x - y) f h o 64 h' j=minusFn f h o h' j:=by
 intro h' j _ hj
 unfold mixFn minusFn
 by_cases e:h'=h
 · rw [if_pos ⟨e,hj⟩,if_pos e]
 · rw [if_neg (fun h=>e h.1),if_neg e]
set_option maxRecDepth 20000 in
set_option maxHeartbeats 8000000 in
theorem TDoesMerge_c {w:World} {N p a m:Nat} {l:List (Nat × Th)} {C:Cfg} {T:Int} {g:Nat→Nat→List Int} {f:Nat→Nat→Int} (H:PlAt w N p a m l C T g f) (hT1:1048576≤T) (hT2:T≤35184372088832) (ho oo key d:Int) (h1:I64 ho) (h2:I64 oo) (h3:U64 key) (h4:I64 d) :
 Calls Tryz.prog 48 #[.pointer (some ⟨p,0,none⟩),.agg #[.int .i64 3,.int .i64 ho,.int .i64 oo,.int .u64 key,.int .i64 d]] w (DoesPost w N p a m C T):=by
 have HH:=Lib.hid H
 have hpl:=H.tw.lt
 obtain ⟨c0,c1,c2,c3,c4,c5⟩:=H.tw.c0
 obtain ⟨h,hh,hh3⟩:=hand3 ho
 obtain ⟨o,ho',ho3⟩:=hand3 oo
 have HH1:=fun W=>Lib.hid (THandle_c ho h1 W)
 have HO1:=fun W=>Lib.hid (THandle_c oo h2 W)
 rw [← hh] at HH1
 rw [← ho'] at HO1
 have hadd:=H.hd.plus H.ok hh3 ho3 (by omega)
 have HADD:=Lib.hid hadd
 have HL:=fun W (hx:Ext w W)=>Lib.hid ((H.ext hx).line (top_merge hh3 ho3 hadd.2))
 have HT1:=fun W=>Lib.hid (TText_c ((h+1:Nat):Int) (hI hh3) W)
 have HT2:=fun W=>Lib.hid (TText_c ((o+1:Nat):Int) (hI ho3) W)
 have z1:=tb_size (hI hh3)
 have z2:=tb_size (hI ho3)
 have hcat:=cat_two vMerge ((h+1:Nat):Int) ((o+1:Nat):Int)
 obtain ⟨t1,e1⟩:∃ t,(⟨(Lib.itoa ((h+1:Nat):Int)).toArray⟩:ByteArray)=t:=⟨_,rfl⟩
 obtain ⟨t2,e2⟩:∃ t,(⟨(Lib.itoa ((o+1:Nat):Int)).toArray⟩:ByteArray)=t:=⟨_,rfl⟩
 obtain ⟨sb,e4⟩:∃ t,lineB vMerge [((h+1:Nat):Int),((o+1:Nat):Int)]=t:=⟨_,rfl⟩
 have hv:(⟨(vMerge++[32]).toArray⟩:ByteArray)=⟨#[109,101,114,103,101,32]⟩:=rfl
 rw [e1,e2,e4,hv] at hcat
 rw [e1] at z1
 rw [e2] at z2
 unfold strV at HT1 HT2 HL
 rw [e1] at HT1
 rw [e2] at HT2
 rw [e4,done_ba] at HL
 have HHC:=Lib.hid (show (h:Int)+1=((h+1:Nat):Int) by omega)
 have HOC:=Lib.hid (show (o:Int)+1=((o+1:Nat):Int) by omega)
 clear hh ho' e1 e2 e4 hv hadd H
 obtain ⟨W1,hW1⟩:∃ W1,w.alloc (.cells #[.int .i64 3,.int .i64 ho,.int .i64 oo,.int .u64 key,.int .i64 d] 102)=W1:=⟨_,rfl⟩
 have hb1:=heap_at w (.cells #[.int .i64 3,.int .i64 ho,.int .i64 oo,.int .u64 key,.int .i64 d] 102) rfl
 have hx1:=Ext.alloc' w (.cells #[.int .i64 3,.int .i64 ho,.int .i64 oo,.int .u64 key,.int .i64 d] 102)
 rw [hW1] at hb1 hx1
 have o0:=(cell_of hb1 0).trans rfl
 have o1:=(cell_of hb1 1).trans rfl
 have o2:=(cell_of hb1 2).trans rfl
 have o3:=(cell_of hb1 3).trans rfl
 have o4:=(cell_of hb1 4).trans rfl
 have ol:=lt_of hb1
 have c0:=(hx1.cell hpl).trans c0
 have c1:=(hx1.cell hpl).trans c1
 have c2:=(hx1.cell hpl).trans c2
 have c3:=(hx1.cell hpl).trans c3
 have c4:=(hx1.cell hpl).trans c4
 have c5:=(hx1.cell hpl).trans c5
 have hpl1:=Nat.lt_of_lt_of_le hpl hx1.size
 have HX1:=Lib.hid hx1
 have hNs:∀ k,AgF a m l k→k < w.heap.size:=fun k hk=>HH.out.ag.flt hk
 obtain ⟨S,hS⟩:∃ S,AgF a m l=S:=⟨_,rfl⟩
 have nS1:¬ S w.heap.size:=by
  rw [← hS]
  intro h
  have:=hNs _ h
  omega
 have nS2:¬ S p:=by rw [← hS]; exact HH.out.np
 have HSS:=Lib.hid hS
 have HOB:=Lib.hid hb1
 clear hS hNs hb1 hx1
 go_enter Tryz.func48,Tryz.ntmps48
 go_wp2_with fail
 clear hW1
 refine Calls.mono (HH1 _).out ?_
 rintro e v1 ⟨rfl,rfl⟩
 go_wp2_with fail
 refine Calls.mono (HO1 _).out ?_
 rintro e v3 ⟨rfl,rfl⟩
 go_wp2_with fail
 have hC0:=afs_drew S v3
 refine pi_start (fun w'=>∃ x:AftS S v3,w'=x.w) [] (by kernel_rfl) ?_
 refine pi_t 0 rfl (by kernel_rfl) (by kernel_rfl) (fun _ _ _ _ h=>h) (fun K hK=>?_)
 go_big_quiet_op
 refine hK _ ?_
 clear hK K
 refine pi_t 1 rfl (by kernel_rfl) (by kernel_rfl) (fun _ _ _ _ h=>h) (fun K hK=>?_)
 go_big_quiet_op
 refine hK _ ?_
 clear hK K
 refine pi_t 2 rfl (by kernel_rfl) (by kernel_rfl) (fun _ _ _ _ h=>h) (fun K hK=>?_)
 go_big_quiet_op
 refine hK _ ?_
 clear hK K
 refine pi_t 4 rfl (by kernel_rfl) (by kernel_rfl) (fun _ _ _ _ h=>h) (fun K hK=>?_)
 go_big_quiet_op
 refine hK _ ?_
 clear hK K
 refine pi_t 5 rfl (by kernel_rfl) (by kernel_rfl) (fun _ _ _ _ h=>h) (fun K hK=>?_)
 go_big_quiet_op
 refine hK _ ?_
 clear hK K
 refine pi_t 6 rfl (by kernel_rfl) (by kernel_rfl) (fun _ _ _ _ h=>h) (fun K hK=>?_)
 go_big_quiet_op
 refine hK _ ?_
 clear hK K
 refine pi_t 10 rfl (by kernel_rfl) (by kernel_rfl) (fun _ _ _ _ h=>h) (fun K hK=>?_)
 go_big_quiet_op
 refine hK _ ?_
 clear hK K
 refine pi_t 11 rfl (by kernel_rfl) (by kernel_rfl) (fun _ _ _ _ h=>h) (fun K hK=>?_)
 go_big_quiet_op
 refine hK _ ?_
 clear hK K
 refine pi_c 3 (by assumption) rfl (by kernel_rfl) (by kernel_rfl) (fun _ _ _ _ h=>h) (fun K hK=>?_)
 go_big_quiet_op
 refine hK _ ?_
 clear hK K
 refine pi_l 7 rfl (by kernel_rfl) (fun K hK=>?_)
 go_wp2_with (go_at_call 16; rw [HHC.out]; refine (HT1 _).out.mono ?_; rintro e y1 ⟨rfl,hy1⟩)
 refine hK _ _ (fun _ h=>afs_step h hy1) ?_
 clear hK K
 refine pi_t 8 rfl (by kernel_rfl) (by kernel_rfl) (fun _ _ _ _ h=>h) (fun K hK=>?_)
 go_big_quiet_op
 refine hK _ ?_
 clear hK K
 refine pi_t 9 rfl (by kernel_rfl) (by kernel_rfl) (fun _ _ _ _ h=>h) (fun K hK=>?_)
 go_big_quiet_op
 refine hK _ ?_
 clear hK K
 refine pi_l 12 rfl (by kernel_rfl) (fun K hK=>?_)
 go_wp2_with (go_at_call 16; rw [HOC.out]; refine (HT2 _).out.mono ?_; rintro e y2 ⟨rfl,hy2⟩)
 refine hK _ _ (fun _ h=>afs_step h hy2) ?_
 clear hK K
 have hy:Ext v3 y2:=(((Ext.refl v3).drewR.trans' hy1).trans' hy2)
 have HY:=Lib.hid hy
 clear hy1 hy2 hy
 refine pi_t 13 rfl (by kernel_rfl) (by kernel_rfl) (fun _ _ _ _ h=>h) (fun K hK=>?_)
 go_big_quiet_op
 refine hK _ ?_
 clear hK K
 refine pi_l 14 rfl (by kernel_rfl) (fun K hK=>?_)
 go_wp2_with (go_at_call 15; refine (HL y2 (HX1.out.trans' HY.out)).out.mono ?_; rintro e v4 ⟨rfl,l',hA',hst',hnp',htw',htb',hM,hfr⟩)
 have hM3:Mod S v3 v4:=by rw [← HSS.out]; exact (HY.out.mod _).trans hM
 refine hK _ _ (fun _ _=>⟨⟨_,hM3⟩,rfl⟩) ?_
 clear hK K
 refine pi_t 15 rfl (by kernel_rfl) (by kernel_rfl) (fun _ _ _ _ h=>h) (fun K hK=>?_)
 go_big_quiet_op
 refine hK _ ?_
 clear hK K
 refine pi_t 16 rfl (by kernel_rfl) (by kernel_rfl) (fun _ _ _ _ h=>h) (fun K hK=>?_)
 go_big_quiet_op
 refine hK _ ?_
 clear hK K
 refine pi_t 17 rfl (by kernel_rfl) (by kernel_rfl) (fun _ _ _ _ h=>h) (fun K hK=>?_)
 go_big_quiet_op
 refine hK _ ?_
 clear hK K
 refine pi_t 18 rfl (by kernel_rfl) (by kernel_rfl) (fun _ _ _ _ h=>h) (fun K hK=>?_)
 go_big_quiet_op
 refine hK _ ?_
 clear hK K
 refine pi_t 19 rfl (by kernel_rfl) (by kernel_rfl) (fun _ _ _ _ h=>h) (fun K hK=>?_)
 go_big_quiet_op
 refine hK _ ?_
 clear hK K
 refine pi_end (by kernel_rfl) ?_
 have hB4:Below N w v4:=Below.trans (HH.out.below_ext (HX1.out.trans' HY.out)) ((HH.out.ag.ext (HX1.out.trans' HY.out)).below hM)
 have hp4:=htw'.lt
 have HRO:=Lib.hid (htw'.row ho3)
 have HF1:=Lib.hid (And.intro hA' (And.intro hst' (And.intro hnp' (And.intro htw' (And.intro htb' hB4)))))
 obtain ⟨d0,d1,d2,d3,d4,d5⟩:=htw'.c0
 have ob:v4.heap[w.heap.size]?=some (.cells #[.int .i64 3,.int .i64 ho,.int .i64 oo,.int .u64 key,.int .i64 d] 102 (0,0)):=(hM3.block _ ol nS1).trans HOB.out
 have o0:=(cell_of ob 0).trans rfl
 have ol4:=lt_of ob
 have HOB4:=Lib.hid ob
 have hv4s:w.heap.size+1≤v4.heap.size:=by omega
 clear hM hA' hst' hnp' htw' htb' hB4 hfr hC0 c0 c1 c2 c3 c4 c5 o1 o2 o3 o4 hM3 ob
 go_wp2_with (first | (refine wpList_load_mid (ty:=33) rfl _ rfl p (6+o*64) rfl (rowV (f o)) _ HRO.out Tryz.underlying33 rfl (by kernel_rfl) ?_) | (refine wpList_store_rowTo (ty:=33) rfl _ _ rfl rfl v4.heap.size (rowV (f o)).toArray rfl rfl 33 _ (heap_at v4 _ rfl) (by kernel_rfl) (by kernel_rfl) (by kernel_rfl) ?_))
 have hx0:Ext v4 ((v4.alloc (.cells #[.int .i64 0,.int .i64 0,.int .i64 0,.int .i64 0,.int .i64 0,.int .i64 0,.int .i64 0,.int .i64 0,.int .i64 0,.int .i64 0,.int .i64 0,.int .i64 0,.int .i64 0,.int .i64 0,.int .i64 0,.int .i64 0,.int .i64 0,.int .i64 0,.int .i64 0,.int .i64 0,.int .i64 0,.int .i64 0,.int .i64 0,.int .i64 0,.int .i64 0,.int .i64 0,.int .i64 0,.int .i64 0,.int .i64 0,.int .i64 0,.int .i64 0,.int .i64 0,.int .i64 0,.int .i64 0,.int .i64 0,.int .i64 0,.int .i64 0,.int .i64 0,.int .i64 0,.int .i64 0,.int .i64 0,.int .i64 0,.int .i64 0,.int .i64 0,.int .i64 0,.int .i64 0,.int .i64 0,.int .i64 0,.int .i64 0,.int .i64 0,.int .i64 0,.int .i64 0,.int .i64 0,.int .i64 0,.int .i64 0,.int .i64 0,.int .i64 0,.int .i64 0,.int .i64 0,.int .i64 0,.int .i64 0,.int .i64 0,.int .i64 0,.int .i64 0] 33)).setRow v4.heap.size (rowV (f o)).toArray):=below_setRow (Ext.alloc' v4 _) (Nat.le_refl _) _
 have hr0:((v4.alloc (.cells #[.int .i64 0,.int .i64 0,.int .i64 0,.int .i64 0,.int .i64 0,.int .i64 0,.int .i64 0,.int .i64 0,.int .i64 0,.int .i64 0,.int .i64 0,.int .i64 0,.int .i64 0,.int .i64 0,.int .i64 0,.int .i64 0,.int .i64 0,.int .i64 0,.int .i64 0,.int .i64 0,.int .i64 0,.int .i64 0,.int .i64 0,.int .i64 0,.int .i64 0,.int .i64 0,.int .i64 0,.int .i64 0,.int .i64 0,.int .i64 0,.int .i64 0,.int .i64 0,.int .i64 0,.int .i64 0,.int .i64 0,.int .i64 0,.int .i64 0,.int .i64 0,.int .i64 0,.int .i64 0,.int .i64 0,.int .i64 0,.int .i64 0,.int .i64 0,.int .i64 0,.int .i64 0,.int .i64 0,.int .i64 0,.int .i64 0,.int .i64 0,.int .i64 0,.int .i64 0,.int .i64 0,.int .i64 0,.int .i64 0,.int .i64 0,.int .i64 0,.int .i64 0,.int .i64 0,.int .i64 0,.int .i64 0,.int .i64 0,.int .i64 0,.int .i64 0] 33)).setRow v4.heap.size (rowV (f o)).toArray).heap[v4.heap.size]?=some (.cells (rowV (f o)).toArray 33 (0,0)):=setRow_heap _ _ _ _ _ _ (heap_at v4 (.cells #[.int .i64 0,.int .i64 0,.int .i64 0,.int .i64 0,.int .i64 0,.int .i64 0,.int .i64 0,.int .i64 0,.int .i64 0,.int .i64 0,.int .i64 0,.int .i64 0,.int .i64 0,.int .i64 0,.int .i64 0,.int .i64 0,.int .i64 0,.int .i64 0,.int .i64 0,.int .i64 0,.int .i64 0,.int .i64 0,.int .i64 0,.int .i64 0,.int .i64 0,.int .i64 0,.int .i64 0,.int .i64 0,.int .i64 0,.int .i64 0,.int .i64 0,.int .i64 0,.int .i64 0,.int .i64 0,.int .i64 0,.int .i64 0,.int .i64 0,.int .i64 0,.int .i64 0,.int .i64 0,.int .i64 0,.int .i64 0,.int .i64 0,.int .i64 0,.int .i64 0,.int .i64 0,.int .i64 0,.int .i64 0,.int .i64 0,.int .i64 0,.int .i64 0,.int .i64 0,.int .i64 0,.int .i64 0,.int .i64 0,.int .i64 0,.int .i64 0,.int .i64 0,.int .i64 0,.int .i64 0,.int .i64 0,.int .i64 0,.int .i64 0,.int .i64 0] 33) rfl)
 generalize (v4.alloc (.cells #[.int .i64 0,.int .i64 0,.int .i64 0,.int .i64 0,.int .i64 0,.int .i64 0,.int .i64 0,.int .i64 0,.int .i64 0,.int .i64 0,.int .i64 0,.int .i64 0,.int .i64 0,.int .i64 0,.int .i64 0,.int .i64 0,.int .i64 0,.int .i64 0,.int .i64 0,.int .i64 0,.int .i64 0,.int .i64 0,.int .i64 0,.int .i64 0,.int .i64 0,.int .i64 0,.int .i64 0,.int .i64 0,.int .i64 0,.int .i64 0,.int .i64 0,.int .i64 0,.int .i64 0,.int .i64 0,.int .i64 0,.int .i64 0,.int .i64 0,.int .i64 0,.int .i64 0,.int .i64 0,.int .i64 0,.int .i64 0,.int .i64 0,.int .i64 0,.int .i64 0,.int .i64 0,.int .i64 0,.int .i64 0,.int .i64 0,.int .i64 0,.int .i64 0,.int .i64 0,.int .i64 0,.int .i64 0,.int .i64 0,.int .i64 0,.int .i64 0,.int .i64 0,.int .i64 0,.int .i64 0,.int .i64 0,.int .i64 0,.int .i64 0,.int .i64 0] 33)).setRow v4.heap.size (rowV (f o)).toArray=W0 at *
 have HX0:=Lib.hid hx0
 have HR0:=Lib.hid hr0
 have HBD:=Lib.hid (fun (j:Nat) (hj:j < 64)=>And.intro (HH.out.hd.f_bd hh3 hj) (HH.out.hd.f_bd ho3 hj))
 have hopb:=hx0.keep HOB4.out
 have HOPB:=Lib.hid hopb
 have hW0s:=hx0.size
 have hr0l:=lt_of hr0
 clear hx0 hr0 o0 d0 d1 d2 d3 d4 d5 hopb
 go_loopw [11] (fun u11 wr=>∃ i:Nat,i≤64∧u11=.int .i64 (i:Nat)∧TWAt wr p a C (mixFn (fun x y=>x+y) f h o i)∧AgAt wr N a m l' 3∧Tabs wr∧wr.heap[v4.heap.size]?=some (.cells (rowV (f o)).toArray 33 (0,0))∧wr.heap[w.heap.size]?=some (.cells #[.int .i64 3,.int .i64 ho,.int .i64 oo,.int .u64 key,.int .i64 d] 102 (0,0))∧Below N v4 wr) (fun u11 _=>64 - (intOf u11).toNat)
 case atStart =>
  refine ⟨0,by omega,rfl, ?_,HF1.out.1.ext HX0.out,HF1.out.2.2.2.2.1.ext HX0.out,HR0.out,HOPB.out,Below.mono HX0.out (by have:=HH.out.lp; omega)⟩
  rw [mixFn_zero]
  exact HF1.out.2.2.2.1.keep (HX0.out.block _ hp4)
 case round =>
  obtain ⟨i,hi,rfl,htw,hag,htb,hrow,hopb,hBw⟩:=hrel
  have o0:=(cell_of hopb 0).trans rfl
  have ol:=lt_of hopb
  have HTW:=Lib.hid htw
  have HAG:=Lib.hid hag
  have HTB:=Lib.hid htb
  have HROW:=Lib.hid hrow
  have HOPW:=Lib.hid hopb
  have HBW:=Lib.hid hBw
  have hpr:=htw.lt
  by_cases hlt:i < 64
  · have e1:=htw.cell hh3 hlt
    rw [mixFn_here] at e1
    have e2:=(cell_of hrow i).trans (show (rowV (f o)).toArray[i]?=some (.int .i64 (f o i)) from by rw [List.getElem?_toArray]; exact rowV_get hlt)
    have rl:=lt_of hrow
    have fz:=htw.frz (6+h*64+i)
    have hbd:=HBD.out i hlt
    obtain ⟨y,hyy⟩:∃ y,f h i=y:=⟨_,rfl⟩
    obtain ⟨x,hxx⟩:∃ x,f o i=x:=⟨_,rfl⟩
    rw [hyy] at e1 hbd
    rw [hxx] at e2 hbd
    have hwr:wrap64 (y+x)=y+x:=by unfold wrap64; omega
    have hv5:-1125899906842624≤y+x∧y+x≤1125899906842624:=by omega
    have hput:=PlAt.put htw hag HF1.out.2.2.1 htb HH.out.lo HH.out.lp hh3 hlt hv5
    rw [← hyy,← hxx,mixFn_step (fun x y=>x+y) f h o i,hyy,hxx] at hput
    have HPUT:=Lib.hid hput
    clear hyy hxx htw hag htb hrow hopb hBw hput
    go_wp2_with fail
    have hC0:=af_drew wr
    refine pi_start (fun w'=>∃ x:After wr,w'=x.w) [19] (by kernel_rfl) ?_
    refine pi_t 0 rfl (by kernel_rfl) (by kernel_rfl) (fun _ _ _ _ h=>h) (fun K hK=>?_)
    go_big_quiet_op
    refine hK _ ?_
    clear hK K
    refine pi_t 1 rfl (by kernel_rfl) (by kernel_rfl) (fun _ _ _ _ h=>h) (fun K hK=>?_)
    go_big_quiet_op
    refine hK _ ?_
    clear hK K
    refine pi_t 2 rfl (by kernel_rfl) (by kernel_rfl) (fun _ _ _ _ h=>h) (fun K hK=>?_)
    go_big_quiet_op
    refine hK _ ?_
    clear hK K
    refine pi_t 3 rfl (by kernel_rfl) (by kernel_rfl) (fun _ _ _ _ h=>h) (fun K hK=>?_)
    go_big_quiet_op
    refine hK _ ?_
    clear hK K
    refine pi_t 4 rfl (by kernel_rfl) (by kernel_rfl) (fun _ _ _ _ h=>h) (fun K hK=>?_)
    go_big_quiet_op
    refine hK _ ?_
    clear hK K
    refine pi_t 5 rfl (by kernel_rfl) (by kernel_rfl) (fun _ _ _ _ h=>h) (fun K hK=>?_)
    go_big_quiet_op
    refine hK _ ?_
    clear hK K
    refine pi_t 6 rfl (by kernel_rfl) (by kernel_rfl) (fun _ _ _ _ h=>h) (fun K hK=>?_)
    go_big_quiet_op
    refine hK _ ?_
    clear hK K
    refine pi_t 7 rfl (by kernel_rfl) (by kernel_rfl) (fun _ _ _ _ h=>h) (fun K hK=>?_)
    go_big_quiet_op
    refine hK _ ?_
    clear hK K
    refine pi_t 8 rfl (by kernel_rfl) (by kernel_rfl) (fun _ _ _ _ h=>h) (fun K hK=>?_)
    go_big_quiet_op
    refine hK _ ?_
    clear hK K
    refine pi_t 9 rfl (by kernel_rfl) (by kernel_rfl) (fun _ _ _ _ h=>h) (fun K hK=>?_)
    go_big_quiet_op
    refine hK _ ?_
    clear hK K
    refine pi_t 11 rfl (by kernel_rfl) (by kernel_rfl) (fun _ _ _ _ h=>h) (fun K hK=>?_)
    go_big_quiet_op
    refine hK _ ?_
    clear hK K
    refine pi_t 12 rfl (by kernel_rfl) (by kernel_rfl) (fun _ _ _ _ h=>h) (fun K hK=>?_)
    go_big_quiet_op
    refine hK _ ?_
    clear hK K
    refine pi_t 15 rfl (by kernel_rfl) (by kernel_rfl) (fun _ _ _ _ h=>h) (fun K hK=>?_)
    go_big_quiet_op
    refine hK _ ?_
    clear hK K
    refine pi_t 16 rfl (by kernel_rfl) (by kernel_rfl) (fun _ _ _ _ h=>h) (fun K hK=>?_)
    go_big_quiet_op
    refine hK _ ?_
    clear hK K
    refine pi_t 17 rfl (by kernel_rfl) (by kernel_rfl) (fun _ _ _ _ h=>h) (fun K hK=>?_)
    go_big_quiet_op
    refine hK _ ?_
    clear hK K
    refine pi_c 10 (by assumption) rfl (by kernel_rfl) (by kernel_rfl) (fun _ _ _ _ h=>h) (fun K hK=>?_)
    go_big_quiet_op
    refine hK _ ?_
    clear hK K
    refine pi_c 13 (by assumption) rfl (by kernel_rfl) (by kernel_rfl) (fun _ _ _ _ h=>h) (fun K hK=>?_)
    go_big_quiet_op
    refine hK _ ?_
    clear hK K
    refine pi_t 14 rfl (by kernel_rfl) (by kernel_rfl) (fun _ _ _ _ h=>h) (fun K hK=>?_)
    go_big_quiet_op
    refine hK _ ?_
    clear hK K
    refine pi_t 18 rfl (by kernel_rfl) (by kernel_rfl) (fun _ _ _ _ h=>h) (fun K hK=>?_)
    go_big_quiet_op
    refine hK _ ?_
    clear hK K
    refine pi_l 19 rfl (by kernel_rfl) (fun K hK=>?_)
    go_wp2
    refine hK _ _ (by simp) ?_
    clear hK K
    refine pi_end (by kernel_rfl) ?_
    obtain ⟨q1,q2,q3,q4⟩:=HPUT.out
    have n1:v4.heap.size≠p:=by omega
    have n2:w.heap.size≠p:=by omega
    have r1:=(setCell_other (w:=wr) (6+h*64+i) (.int .i64 (y+x)) n1).trans HROW.out
    have r2:=(setCell_other (w:=wr) (6+h*64+i) (.int .i64 (y+x)) n2).trans HOPW.out
    obtain ⟨W5,hW5⟩:∃ W5,wr.setCell ⟨p,6+h*64+i,none⟩ (.int .i64 (y+x))=W5:=⟨_,rfl⟩
    rw [hW5] at q1 q2 q3 q4 r1 r2
    have HF:Hid (TWAt W5.drew p a C (mixFn (fun x y=>x+y) f h o (i+1))∧AgAt W5.drew N a m l' 3∧Tabs W5.drew∧W5.drew.heap[v4.heap.size]?=some (.cells (rowV (f o)).toArray 33 (0,0))∧W5.drew.heap[w.heap.size]?=some (.cells #[.int .i64 3,.int .i64 ho,.int .i64 oo,.int .u64 key,.int .i64 d] 102 (0,0))∧Below N v4 W5.drew):=Lib.hid ⟨q1.keep rfl,q2.ext (Ext.refl _).drewR,q3.ext (Ext.refl _).drewR,r1,r2,Below.drew (Below.trans HBW.out q4)⟩
    clear q1 q2 q3 q4 r1 r2 e1 e2 fz hC0
    go_wp2
    go_roundw
    case rel=>exact ⟨i+1,by omega,by go_num,HF.out.1,HF.out.2.1,HF.out.2.2.1,HF.out.2.2.2.1,HF.out.2.2.2.2.1,HF.out.2.2.2.2.2⟩
    case measure=>simp [intOf]; omega
  · obtain rfl:i=64:=by omega
    have HF:Hid (PlAt wr N p a m l' C (T+T) (setG g h fun n=>plusL (g h n) (g o n)) (plusFn f h o)∧Below N w wr):=Lib.hid ⟨⟨htw.congr (mixFn_plus f h o),hag,HF1.out.2.1,HF1.out.2.2.1,HH.out.ok,HH.out.hb,HADD.out.1,htb,HH.out.lo,HH.out.lp⟩,Below.trans HF1.out.2.2.2.2.2 hBw⟩
    clear htw hag htb hrow hopb hBw
    go_wp2
    go_ret
    exact ⟨rfl,_,_,_,HF.out.1,HF.out.2⟩
end Go.Proofs.YtmalncfcgcebhaaGreatDoor
namespace Go.Proofs.YtmalncfcgcebhaaGreatDoor
set_option linter.unusedVariables false
open Go.Proofs Go.RowKit
set_option maxRecDepth 20000 in
set_option maxHeartbeats 8000000 in
theorem TDoesSub_c {w:World} {N p a m:Nat} {l:List (Nat × Th)} {C:Cfg} {T:Int} {g:Nat→Nat→List Int} {f:Nat→Nat→Int} (H:PlAt w N p a m l C T g f) (hm:C.mode≠2) (hT1:1048576≤T) (hT2:T≤35184372088832) (ho oo key d:Int) (h1:I64 ho) (h2:I64 oo) (h3:U64 key) (h4:I64 d) :
 Calls Tryz.prog 48 #[.pointer (some ⟨p,0,none⟩),.agg #[.int .i64 4,.int .i64 ho,.int .i64 oo,.int .u64 key,.int .i64 d]] w (DoesPost w N p a m C T):=by
 have HH:=Lib.hid H
 have hmb:(C.mode == 2)=false:=by simpa using hm
 have hpl:=H.tw.lt
 obtain ⟨c0,c1,c2,c3,c4,c5⟩:=H.tw.c0
 obtain ⟨h,hh,hh3⟩:=hand3 ho
 obtain ⟨o,ho',ho3⟩:=hand3 oo
 have HH1:=fun W=>Lib.hid (THandle_c ho h1 W)
 have HO1:=fun W=>Lib.hid (THandle_c oo h2 W)
 rw [← hh] at HH1
 rw [← ho'] at HO1
 have hadd:=H.hd.minus H.ok hm hh3 ho3 (by omega)
 have HADD:=Lib.hid hadd
 have HL:=fun W (hx:Ext w W)=>Lib.hid ((H.ext hx).line (top_sub hh3 ho3 hadd.2))
 have HT1:=fun W=>Lib.hid (TText_c ((h+1:Nat):Int) (hI hh3) W)
 have HT2:=fun W=>Lib.hid (TText_c ((o+1:Nat):Int) (hI ho3) W)
 have z1:=tb_size (hI hh3)
 have z2:=tb_size (hI ho3)
 have hcat:=cat_two vSub ((h+1:Nat):Int) ((o+1:Nat):Int)
 obtain ⟨t1,e1⟩:∃ t,(⟨(Lib.itoa ((h+1:Nat):Int)).toArray⟩:ByteArray)=t:=⟨_,rfl⟩
 obtain ⟨t2,e2⟩:∃ t,(⟨(Lib.itoa ((o+1:Nat):Int)).toArray⟩:ByteArray)=t:=⟨_,rfl⟩
 obtain ⟨sb,e4⟩:∃ t,lineB vSub [((h+1:Nat):Int),((o+1:Nat):Int)]=t:=⟨_,rfl⟩
 have hv:(⟨(vSub++[32]).toArray⟩:ByteArray)=⟨#[115,117,98,116,114,97,99,116,32]⟩:=rfl
 rw [e1,e2,e4,hv] at hcat
 rw [e1] at z1
 rw [e2] at z2
 unfold strV at HT1 HT2 HL
 rw [e1] at HT1
 rw [e2] at HT2
 rw [e4,done_ba] at HL
 have HHC:=Lib.hid (show (h:Int)+1=((h+1:Nat):Int) by omega)
 have HOC:=Lib.hid (show (o:Int)+1=((o+1:Nat):Int) by omega)
 clear hh ho' e1 e2 e4 hv hadd H
 obtain ⟨W1,hW1⟩:∃ W1,w.alloc (.cells #[.int .i64 4,.int .i64 ho,.int .i64 oo,.int .u64 key,.int .i64 d] 102)=W1:=⟨_,rfl⟩
 have hb1:=heap_at w (.cells #[.int .i64 4,.int .i64 ho,.int .i64 oo,.int .u64 key,.int .i64 d] 102) rfl
 have hx1:=Ext.alloc' w (.cells #[.int .i64 4,.int .i64 ho,.int .i64 oo,.int .u64 key,.int .i64 d] 102)
 rw [hW1] at hb1 hx1
 have o0:=(cell_of hb1 0).trans rfl
 have o1:=(cell_of hb1 1).trans rfl
 have o2:=(cell_of hb1 2).trans rfl
 have o3:=(cell_of hb1 3).trans rfl
 have o4:=(cell_of hb1 4).trans rfl
 have ol:=lt_of hb1
 have c0:=(hx1.cell hpl).trans c0
 have c1:=(hx1.cell hpl).trans c1
 have c2:=(hx1.cell hpl).trans c2
 have c3:=(hx1.cell hpl).trans c3
 have c4:=(hx1.cell hpl).trans c4
 have c5:=(hx1.cell hpl).trans c5
 have hpl1:=Nat.lt_of_lt_of_le hpl hx1.size
 have HX1:=Lib.hid hx1
 have hNs:∀ k,AgF a m l k→k < w.heap.size:=fun k hk=>HH.out.ag.flt hk
 obtain ⟨S,hS⟩:∃ S,AgF a m l=S:=⟨_,rfl⟩
 have nS1:¬ S w.heap.size:=by
  rw [← hS]
  intro h
  have:=hNs _ h
  omega
 have nS2:¬ S p:=by rw [← hS]; exact HH.out.np
 have HSS:=Lib.hid hS
 have HOB:=Lib.hid hb1
 clear hS hNs hb1 hx1
 go_enter Tryz.func48,Tryz.ntmps48
 go_wp2_with fail
 clear hW1
 refine Calls.mono (HH1 _).out ?_
 rintro e v1 ⟨rfl,rfl⟩
 go_wp2_with fail
 refine Calls.mono (HO1 _).out ?_
 rintro e v3 ⟨rfl,rfl⟩
 go_wp2_with fail
 have hC0:=afs_drew S v3
 refine pi_start (fun w'=>∃ x:AftS S v3,w'=x.w) [] (by kernel_rfl) ?_
 refine pi_t 0 rfl (by kernel_rfl) (by kernel_rfl) (fun _ _ _ _ h=>h) (fun K hK=>?_)
 go_big_quiet_op
 refine hK _ ?_
 clear hK K
 refine pi_t 1 rfl (by kernel_rfl) (by kernel_rfl) (fun _ _ _ _ h=>h) (fun K hK=>?_)
 go_big_quiet_op
 refine hK _ ?_
 clear hK K
 refine pi_t 2 rfl (by kernel_rfl) (by kernel_rfl) (fun _ _ _ _ h=>h) (fun K hK=>?_)
 go_big_quiet_op
 refine hK _ ?_
 clear hK K
 refine pi_t 4 rfl (by kernel_rfl) (by kernel_rfl) (fun _ _ _ _ h=>h) (fun K hK=>?_)
 go_big_quiet_op
 refine hK _ ?_
 clear hK K
 refine pi_t 5 rfl (by kernel_rfl) (by kernel_rfl) (fun _ _ _ _ h=>h) (fun K hK=>?_)
 go_big_quiet_op
 refine hK _ ?_
 clear hK K
 refine pi_t 6 rfl (by kernel_rfl) (by kernel_rfl) (fun _ _ _ _ h=>h) (fun K hK=>?_)
 go_big_quiet_op
 refine hK _ ?_
 clear hK K
 refine pi_t 10 rfl (by kernel_rfl) (by kernel_rfl) (fun _ _ _ _ h=>h) (fun K hK=>?_)
 go_big_quiet_op
 refine hK _ ?_
 clear hK K
 refine pi_t 11 rfl (by kernel_rfl) (by kernel_rfl) (fun _ _ _ _ h=>h) (fun K hK=>?_)
 go_big_quiet_op
 refine hK _ ?_
 clear hK K
 refine pi_c 3 (by assumption) rfl (by kernel_rfl) (by kernel_rfl) (fun _ _ _ _ h=>h) (fun K hK=>?_)
 go_big_quiet_op
 refine hK _ ?_
 clear hK K
 refine pi_l 7 rfl (by kernel_rfl) (fun K hK=>?_)
 go_wp2_with (go_at_call 16; rw [HHC.out]; refine (HT1 _).out.mono ?_; rintro e y1 ⟨rfl,hy1⟩)
 refine hK _ _ (fun _ h=>afs_step h hy1) ?_
 clear hK K
 refine pi_t 8 rfl (by kernel_rfl) (by kernel_rfl) (fun _ _ _ _ h=>h) (fun K hK=>?_)
 go_big_quiet_op
 refine hK _ ?_
 clear hK K
 refine pi_t 9 rfl (by kernel_rfl) (by kernel_rfl) (fun _ _ _ _ h=>h) (fun K hK=>?_)
 go_big_quiet_op
 refine hK _ ?_
 clear hK K
 refine pi_l 12 rfl (by kernel_rfl) (fun K hK=>?_)
 go_wp2_with (go_at_call 16; rw [HOC.out]; refine (HT2 _).out.mono ?_; rintro e y2 ⟨rfl,hy2⟩)
 refine hK _ _ (fun _ h=>afs_step h hy2) ?_
 clear hK K
 have hy:Ext v3 y2:=(((Ext.refl v3).drewR.trans' hy1).trans' hy2)
 have HY:=Lib.hid hy
 clear hy1 hy2 hy
 refine pi_t 13 rfl (by kernel_rfl) (by kernel_rfl) (fun _ _ _ _ h=>h) (fun K hK=>?_)
 go_big_quiet_op
 refine hK _ ?_
 clear hK K
 refine pi_l 14 rfl (by kernel_rfl) (fun K hK=>?_)
 go_wp2_with (go_at_call 15; refine (HL y2 (HX1.out.trans' HY.out)).out.mono ?_; rintro e v4 ⟨rfl,l',hA',hst',hnp',htw',htb',hM,hfr⟩)
 have hM3:Mod S v3 v4:=by rw [← HSS.out]; exact (HY.out.mod _).trans hM
 refine hK _ _ (fun _ _=>⟨⟨_,hM3⟩,rfl⟩) ?_
 clear hK K
 refine pi_t 15 rfl (by kernel_rfl) (by kernel_rfl) (fun _ _ _ _ h=>h) (fun K hK=>?_)
 go_big_quiet_op
 refine hK _ ?_
 clear hK K
 refine pi_t 16 rfl (by kernel_rfl) (by kernel_rfl) (fun _ _ _ _ h=>h) (fun K hK=>?_)
 go_big_quiet_op
 refine hK _ ?_
 clear hK K
 refine pi_t 17 rfl (by kernel_rfl) (by kernel_rfl) (fun _ _ _ _ h=>h) (fun K hK=>?_)
 go_big_quiet_op
 refine hK _ ?_
 clear hK K
 refine pi_t 18 rfl (by kernel_rfl) (by kernel_rfl) (fun _ _ _ _ h=>h) (fun K hK=>?_)
 go_big_quiet_op
 refine hK _ ?_
 clear hK K
 refine pi_t 19 rfl (by kernel_rfl) (by kernel_rfl) (fun _ _ _ _ h=>h) (fun K hK=>?_)
 go_big_quiet_op
 refine hK _ ?_
 clear hK K
 refine pi_end (by kernel_rfl) ?_
 have hB4:Below N w v4:=Below.trans (HH.out.below_ext (HX1.out.trans' HY.out)) ((HH.out.ag.ext (HX1.out.trans' HY.out)).below hM)
 have hp4:=htw'.lt
 have HRO:=Lib.hid (htw'.row ho3)
 have HF1:=Lib.hid (And.intro hA' (And.intro hst' (And.intro hnp' (And.intro htw' (And.intro htb' hB4)))))
 obtain ⟨d0,d1,d2,d3,d4,d5⟩:=htw'.c0
 have ob:v4.heap[w.heap.size]?=some (.cells #[.int .i64 4,.int .i64 ho,.int .i64 oo,.int .u64 key,.int .i64 d] 102 (0,0)):=(hM3.block _ ol nS1).trans HOB.out
 have o0:=(cell_of ob 0).trans rfl
 have ol4:=lt_of ob
 have HOB4:=Lib.hid ob
 have hv4s:w.heap.size+1≤v4.heap.size:=by omega
 clear hM hA' hst' hnp' htw' htb' hB4 hfr hC0 c0 c1 c2 c3 c4 c5 o1 o2 o3 o4 hM3 ob
 go_wp2_with (first | (refine wpList_load_mid (ty:=33) rfl _ rfl p (6+o*64) rfl (rowV (f o)) _ HRO.out Tryz.underlying33 rfl (by kernel_rfl) ?_) | (refine wpList_store_rowTo (ty:=33) rfl _ _ rfl rfl v4.heap.size (rowV (f o)).toArray rfl rfl 33 _ (heap_at v4 _ rfl) (by kernel_rfl) (by kernel_rfl) (by kernel_rfl) ?_))
 have hx0:Ext v4 ((v4.alloc (.cells #[.int .i64 0,.int .i64 0,.int .i64 0,.int .i64 0,.int .i64 0,.int .i64 0,.int .i64 0,.int .i64 0,.int .i64 0,.int .i64 0,.int .i64 0,.int .i64 0,.int .i64 0,.int .i64 0,.int .i64 0,.int .i64 0,.int .i64 0,.int .i64 0,.int .i64 0,.int .i64 0,.int .i64 0,.int .i64 0,.int .i64 0,.int .i64 0,.int .i64 0,.int .i64 0,.int .i64 0,.int .i64 0,.int .i64 0,.int .i64 0,.int .i64 0,.int .i64 0,.int .i64 0,.int .i64 0,.int .i64 0,.int .i64 0,.int .i64 0,.int .i64 0,.int .i64 0,.int .i64 0,.int .i64 0,.int .i64 0,.int .i64 0,.int .i64 0,.int .i64 0,.int .i64 0,.int .i64 0,.int .i64 0,.int .i64 0,.int .i64 0,.int .i64 0,.int .i64 0,.int .i64 0,.int .i64 0,.int .i64 0,.int .i64 0,.int .i64 0,.int .i64 0,.int .i64 0,.int .i64 0,.int .i64 0,.int .i64 0,.int .i64 0,.int .i64 0] 33)).setRow v4.heap.size (rowV (f o)).toArray):=below_setRow (Ext.alloc' v4 _) (Nat.le_refl _) _
 have hr0:((v4.alloc (.cells #[.int .i64 0,.int .i64 0,.int .i64 0,.int .i64 0,.int .i64 0,.int .i64 0,.int .i64 0,.int .i64 0,.int .i64 0,.int .i64 0,.int .i64 0,.int .i64 0,.int .i64 0,.int .i64 0,.int .i64 0,.int .i64 0,.int .i64 0,.int .i64 0,.int .i64 0,.int .i64 0,.int .i64 0,.int .i64 0,.int .i64 0,.int .i64 0,.int .i64 0,.int .i64 0,.int .i64 0,.int .i64 0,.int .i64 0,.int .i64 0,.int .i64 0,.int .i64 0,.int .i64 0,.int .i64 0,.int .i64 0,.int .i64 0,.int .i64 0,.int .i64 0,.int .i64 0,.int .i64 0,.int .i64 0,.int .i64 0,.int .i64 0,.int .i64 0,.int .i64 0,.int .i64 0,.int .i64 0,.int .i64 0,.int .i64 0,.int .i64 0,.int .i64 0,.int .i64 0,.int .i64 0,.int .i64 0,.int .i64 0,.int .i64 0,.int .i64 0,.int .i64 0,.int .i64 0,.int .i64 0,.int .i64 0,.int .i64 0,.int .i64 0,.int .i64 0] 33)).setRow v4.heap.size (rowV (f o)).toArray).heap[v4.heap.size]?=some (.cells (rowV (f o)).toArray 33 (0,0)):=setRow_heap _ _ _ _ _ _ (heap_at v4 (.cells #[.int .i64 0,.int .i64 0,.int .i64 0,.int .i64 0,.int .i64 0,.int .i64 0,.int .i64 0,.int .i64 0,.int .i64 0,.int .i64 0,.int .i64 0,.int .i64 0,.int .i64 0,.int .i64 0,.int .i64 0,.int .i64 0,.int .i64 0,.int .i64 0,.int .i64 0,.int .i64 0,.int .i64 0,.int .i64 0,.int .i64 0,.int .i64 0,.int .i64 0,.int .i64 0,.int .i64 0,.int .i64 0,.int .i64 0,.int .i64 0,.int .i64 0,.int .i64 0,.int .i64 0,.int .i64 0,.int .i64 0,.int .i64 0,.int .i64 0,.int .i64 0,.int .i64 0,.int .i64 0,.int .i64 0,.int .i64 0,.int .i64 0,.int .i64 0,.int .i64 0,.int .i64 0,.int .i64 0,.int .i64 0,.int .i64 0,.int .i64 0,.int .i64 0,.int .i64 0,.int .i64 0,.int .i64 0,.int .i64 0,.int .i64 0,.int .i64 0,.int .i64 0,.int .i64 0,.int .i64 0,.int .i64 0,.int .i64 0,.int .i64 0,.int .i64 0] 33) rfl)
 generalize (v4.alloc (.cells #[.int .i64 0,.int .i64 0,.int .i64 0,.int .i64 0,.int .i64 0,.int .i64 0,.int .i64 0,.int .i64 0,.int .i64 0,.int .i64 0,.int .i64 0,.int .i64 0,.int .i64 0,.int .i64 0,.int .i64 0,.int .i64 0,.int .i64 0,.int .i64 0,.int .i64 0,.int .i64 0,.int .i64 0,.int .i64 0,.int .i64 0,.int .i64 0,.int .i64 0,.int .i64 0,.int .i64 0,.int .i64 0,.int .i64 0,.int .i64 0,.int .i64 0,.int .i64 0,.int .i64 0,.int .i64 0,.int .i64 0,.int .i64 0,.int .i64 0,.int .i64 0,.int .i64 0,.int .i64 0,.int .i64 0,.int .i64 0,.int .i64 0,.int .i64 0,.int .i64 0,.int .i64 0,.int .i64 0,.int .i64 0,.int .i64 0,.int .i64 0,.int .i64 0,.int .i64 0,.int .i64 0,.int .i64 0,.int .i64 0,.int .i64 0,.int .i64 0,.int .i64 0,.int .i64 0,.int .i64 0,.int .i64 0,.int .i64 0,.int .i64 0,.int .i64 0] 33)).setRow v4.heap.size (rowV (f o)).toArray=W0 at *
 have HX0:=Lib.hid hx0
 have HR0:=Lib.hid hr0
 have HBD:=Lib.hid (fun (j:Nat) (hj:j < 64)=>And.intro (HH.out.hd.f_bd hh3 hj) (HH.out.hd.f_bd ho3 hj))
 have hopb:=hx0.keep HOB4.out
 have HOPB:=Lib.hid hopb
 have hW0s:=hx0.size
 have hr0l:=lt_of hr0
 clear hx0 hr0 o0 d0 d1 d2 d3 d4 d5 hopb
 go_loopw [11] (fun u11 wr=>∃ i:Nat,i≤64∧u11=.int .i64 (i:Nat)∧TWAt wr p a C (mixFn (fun x y=>x - y) f h o i)∧AgAt wr N a m l' 3∧Tabs wr∧wr.heap[v4.heap.size]?=some (.cells (rowV (f o)).toArray 33 (0,0))∧wr.heap[w.heap.size]?=some (.cells #[.int .i64 4,.int .i64 ho,.int .i64 oo,.int .u64 key,.int .i64 d] 102 (0,0))∧Below N v4 wr) (fun u11 _=>64 - (intOf u11).toNat)
 case atStart =>
  refine ⟨0,by omega,rfl, ?_,HF1.out.1.ext HX0.out,HF1.out.2.2.2.2.1.ext HX0.out,HR0.out,HOPB.out,Below.mono HX0.out (by have:=HH.out.lp; omega)⟩
  rw [mixFn_zero]
  exact HF1.out.2.2.2.1.keep (HX0.out.block _ hp4)
 case round =>
  obtain ⟨i,hi,rfl,htw,hag,htb,hrow,hopb,hBw⟩:=hrel
  have o0:=(cell_of hopb 0).trans rfl
  have ol:=lt_of hopb
  have HTW:=Lib.hid htw
  have HAG:=Lib.hid hag
  have HTB:=Lib.hid htb
  have HROW:=Lib.hid hrow
  have HOPW:=Lib.hid hopb
  have HBW:=Lib.hid hBw
  have hpr:=htw.lt
  by_cases hlt:i < 64
  · have e1:=htw.cell hh3 hlt
    rw [mixFn_here] at e1
    have e2:=(cell_of hrow i).trans (show (rowV (f o)).toArray[i]?=some (.int .i64 (f o i)) from by rw [List.getElem?_toArray]; exact rowV_get hlt)
    have rl:=lt_of hrow
    have fz:=htw.frz (6+h*64+i)
    have hbd:=HBD.out i hlt
    obtain ⟨y,hyy⟩:∃ y,f h i=y:=⟨_,rfl⟩
    obtain ⟨x,hxx⟩:∃ x,f o i=x:=⟨_,rfl⟩
    rw [hyy] at e1 hbd
    rw [hxx] at e2 hbd
    have hwr:wrap64 (y - x)=y - x:=by unfold wrap64; omega
    have hv5:-1125899906842624≤y - x∧y - x≤1125899906842624:=by omega
    have hput:=PlAt.put htw hag HF1.out.2.2.1 htb HH.out.lo HH.out.lp hh3 hlt hv5
    rw [← hyy,← hxx,mixFn_step (fun x y=>x - y) f h o i,hyy,hxx] at hput
    have HPUT:=Lib.hid hput
    clear hyy hxx htw hag htb hrow hopb hBw hput
    go_wp2_with fail
    have hC0:=af_drew wr
    refine pi_start (fun w'=>∃ x:After wr,w'=x.w) [19] (by kernel_rfl) ?_
    refine pi_t 0 rfl (by kernel_rfl) (by kernel_rfl) (fun _ _ _ _ h=>h) (fun K hK=>?_)
    go_big_quiet_op
    refine hK _ ?_
    clear hK K
    refine pi_t 1 rfl (by kernel_rfl) (by kernel_rfl) (fun _ _ _ _ h=>h) (fun K hK=>?_)
    go_big_quiet_op
    refine hK _ ?_
    clear hK K
    refine pi_t 2 rfl (by kernel_rfl) (by kernel_rfl) (fun _ _ _ _ h=>h) (fun K hK=>?_)
    go_big_quiet_op
    refine hK _ ?_
    clear hK K
    refine pi_t 3 rfl (by kernel_rfl) (by kernel_rfl) (fun _ _ _ _ h=>h) (fun K hK=>?_)
    go_big_quiet_op
    refine hK _ ?_
    clear hK K
    refine pi_t 4 rfl (by kernel_rfl) (by kernel_rfl) (fun _ _ _ _ h=>h) (fun K hK=>?_)
    go_big_quiet_op
    refine hK _ ?_
    clear hK K
    refine pi_t 5 rfl (by kernel_rfl) (by kernel_rfl) (fun _ _ _ _ h=>h) (fun K hK=>?_)
    go_big_quiet_op
    refine hK _ ?_
    clear hK K
    refine pi_t 6 rfl (by kernel_rfl) (by kernel_rfl) (fun _ _ _ _ h=>h) (fun K hK=>?_)
    go_big_quiet_op
    refine hK _ ?_
    clear hK K
    refine pi_t 7 rfl (by kernel_rfl) (by kernel_rfl) (fun _ _ _ _ h=>h) (fun K hK=>?_)
    go_big_quiet_op
    refine hK _ ?_
    clear hK K
    refine pi_t 8 rfl (by kernel_rfl) (by kernel_rfl) (fun _ _ _ _ h=>h) (fun K hK=>?_)
    go_big_quiet_op
    refine hK _ ?_
    clear hK K
    refine pi_t 9 rfl (by kernel_rfl) (by kernel_rfl) (fun _ _ _ _ h=>h) (fun K hK=>?_)
    go_big_quiet_op
    refine hK _ ?_
    clear hK K
    refine pi_t 11 rfl (by kernel_rfl) (by kernel_rfl) (fun _ _ _ _ h=>h) (fun K hK=>?_)
    go_big_quiet_op
    refine hK _ ?_
    clear hK K
    refine pi_t 12 rfl (by kernel_rfl) (by kernel_rfl) (fun _ _ _ _ h=>h) (fun K hK=>?_)
    go_big_quiet_op
    refine hK _ ?_
    clear hK K
    refine pi_t 15 rfl (by kernel_rfl) (by kernel_rfl) (fun _ _ _ _ h=>h) (fun K hK=>?_)
    go_big_quiet_op
    refine hK _ ?_
    clear hK K
    refine pi_t 16 rfl (by kernel_rfl) (by kernel_rfl) (fun _ _ _ _ h=>h) (fun K hK=>?_)
    go_big_quiet_op
    refine hK _ ?_
    clear hK K
    refine pi_t 17 rfl (by kernel_rfl) (by kernel_rfl) (fun _ _ _ _ h=>h) (fun K hK=>?_)
    go_big_quiet_op
    refine hK _ ?_
    clear hK K
    refine pi_c 10 (by assumption) rfl (by kernel_rfl) (by kernel_rfl) (fun _ _ _ _ h=>h) (fun K hK=>?_)
    go_big_quiet_op
    refine hK _ ?_
    clear hK K
    refine pi_c 13 (by assumption) rfl (by kernel_rfl) (by kernel_rfl) (fun _ _ _ _ h=>h) (fun K hK=>?_)
    go_big_quiet_op
    refine hK _ ?_
    clear hK K
    refine pi_t 14 rfl (by kernel_rfl) (by kernel_rfl) (fun _ _ _ _ h=>h) (fun K hK=>?_)
    go_big_quiet_op
    refine hK _ ?_
    clear hK K
    refine pi_t 18 rfl (by kernel_rfl) (by kernel_rfl) (fun _ _ _ _ h=>h) (fun K hK=>?_)
    go_big_quiet_op
    refine hK _ ?_
    clear hK K
    refine pi_l 19 rfl (by kernel_rfl) (fun K hK=>?_)
    go_wp2
    refine hK _ _ (by simp) ?_
    clear hK K
    refine pi_end (by kernel_rfl) ?_
    obtain ⟨q1,q2,q3,q4⟩:=HPUT.out
    have n1:v4.heap.size≠p:=by omega
    have n2:w.heap.size≠p:=by omega
    have r1:=(setCell_other (w:=wr) (6+h*64+i) (.int .i64 (y - x)) n1).trans HROW.out
    have r2:=(setCell_other (w:=wr) (6+h*64+i) (.int .i64 (y - x)) n2).trans HOPW.out
    obtain ⟨W5,hW5⟩:∃ W5,wr.setCell ⟨p,6+h*64+i,none⟩ (.int .i64 (y - x))=W5:=⟨_,rfl⟩
    rw [hW5] at q1 q2 q3 q4 r1 r2
    have HF:Hid (TWAt W5.drew p a C (mixFn (fun x y=>x - y) f h o (i+1))∧AgAt W5.drew N a m l' 3∧Tabs W5.drew∧W5.drew.heap[v4.heap.size]?=some (.cells (rowV (f o)).toArray 33 (0,0))∧W5.drew.heap[w.heap.size]?=some (.cells #[.int .i64 4,.int .i64 ho,.int .i64 oo,.int .u64 key,.int .i64 d] 102 (0,0))∧Below N v4 W5.drew):=Lib.hid ⟨q1.keep rfl,q2.ext (Ext.refl _).drewR,q3.ext (Ext.refl _).drewR,r1,r2,Below.drew (Below.trans HBW.out q4)⟩
    clear q1 q2 q3 q4 r1 r2 e1 e2 fz hC0
    go_wp2
    go_roundw
    case rel=>exact ⟨i+1,by omega,by go_num,HF.out.1,HF.out.2.1,HF.out.2.2.1,HF.out.2.2.2.1,HF.out.2.2.2.2.1,HF.out.2.2.2.2.2⟩
    case measure=>simp [intOf]; omega
  · obtain rfl:i=64:=by omega
    have HF:Hid (PlAt wr N p a m l' C (T+T) (setG g h fun n=>minusL (g h n) (g o n)) (minusFn f h o)∧Below N w wr):=Lib.hid ⟨⟨htw.congr (mixFn_minus f h o),hag,HF1.out.2.1,HF1.out.2.2.1,HH.out.ok,HH.out.hb,HADD.out.1,htb,HH.out.lo,HH.out.lp⟩,Below.trans HF1.out.2.2.2.2.2 hBw⟩
    clear htw hag htb hrow hopb hBw
    go_wp2
    go_ret
    exact ⟨rfl,_,_,_,HF.out.1,HF.out.2⟩
end Go.Proofs.YtmalncfcgcebhaaGreatDoor
namespace Go.Proofs.YtmalncfcgcebhaaGreatDoor
set_option linter.unusedVariables false
open Go.Proofs Go.RowKit
theorem err3_ba:(⟨(errT 3).toArray⟩:ByteArray)=⟨#[101,114,114,111,114,32,51]⟩:=by kernel_rfl
set_option maxRecDepth 20000 in
set_option maxHeartbeats 8000000 in
theorem TDoesSubNo_c {w:World} {N p a m:Nat} {l:List (Nat × Th)} {C:Cfg} {T:Int} {g:Nat→Nat→List Int} {f:Nat→Nat→Int} (H:PlAt w N p a m l C T g f) (hm:C.mode=2) (hT1:1048576≤T) (hT2:T≤35184372088832) (ho oo key d:Int) (h1:I64 ho) (h2:I64 oo) (h3:U64 key) (h4:I64 d) :
 Calls Tryz.prog 48 #[.pointer (some ⟨p,0,none⟩),.agg #[.int .i64 4,.int .i64 ho,.int .i64 oo,.int .u64 key,.int .i64 d]] w (DoesPost w N p a m C T):=by
 have HH:=Lib.hid H
 have hmb:(C.mode == 2)=true:=by simpa using hm
 have hpl:=H.tw.lt
 obtain ⟨c0,c1,c2,c3,c4,c5⟩:=H.tw.c0
 obtain ⟨h,hh,hh3⟩:=hand3 ho
 obtain ⟨o,ho',ho3⟩:=hand3 oo
 have HH1:=fun W=>Lib.hid (THandle_c ho h1 W)
 have HO1:=fun W=>Lib.hid (THandle_c oo h2 W)
 rw [← hh] at HH1
 rw [← ho'] at HO1
 have HL:=fun W (hx:Ext w W)=>Lib.hid ((H.ext hx).line (top_subno hh3 ho3 (sub_mode hm)))
 have HT1:=fun W=>Lib.hid (TText_c ((h+1:Nat):Int) (hI hh3) W)
 have HT2:=fun W=>Lib.hid (TText_c ((o+1:Nat):Int) (hI ho3) W)
 have z1:=tb_size (hI hh3)
 have z2:=tb_size (hI ho3)
 have hcat:=cat_two vSub ((h+1:Nat):Int) ((o+1:Nat):Int)
 obtain ⟨t1,e1⟩:∃ t,(⟨(Lib.itoa ((h+1:Nat):Int)).toArray⟩:ByteArray)=t:=⟨_,rfl⟩
 obtain ⟨t2,e2⟩:∃ t,(⟨(Lib.itoa ((o+1:Nat):Int)).toArray⟩:ByteArray)=t:=⟨_,rfl⟩
 obtain ⟨sb,e4⟩:∃ t,lineB vSub [((h+1:Nat):Int),((o+1:Nat):Int)]=t:=⟨_,rfl⟩
 have hv:(⟨(vSub++[32]).toArray⟩:ByteArray)=⟨#[115,117,98,116,114,97,99,116,32]⟩:=rfl
 rw [e1,e2,e4,hv] at hcat
 rw [e1] at z1
 rw [e2] at z2
 unfold strV at HT1 HT2 HL
 rw [e1] at HT1
 rw [e2] at HT2
 rw [e4,err3_ba] at HL
 have HHC:=Lib.hid (show (h:Int)+1=((h+1:Nat):Int) by omega)
 have HOC:=Lib.hid (show (o:Int)+1=((o+1:Nat):Int) by omega)
 clear hh ho' e1 e2 e4 hv H
 obtain ⟨W1,hW1⟩:∃ W1,w.alloc (.cells #[.int .i64 4,.int .i64 ho,.int .i64 oo,.int .u64 key,.int .i64 d] 102)=W1:=⟨_,rfl⟩
 have hb1:=heap_at w (.cells #[.int .i64 4,.int .i64 ho,.int .i64 oo,.int .u64 key,.int .i64 d] 102) rfl
 have hx1:=Ext.alloc' w (.cells #[.int .i64 4,.int .i64 ho,.int .i64 oo,.int .u64 key,.int .i64 d] 102)
 rw [hW1] at hb1 hx1
 have o0:=(cell_of hb1 0).trans rfl
 have o1:=(cell_of hb1 1).trans rfl
 have o2:=(cell_of hb1 2).trans rfl
 have o3:=(cell_of hb1 3).trans rfl
 have o4:=(cell_of hb1 4).trans rfl
 have ol:=lt_of hb1
 have c0:=(hx1.cell hpl).trans c0
 have c1:=(hx1.cell hpl).trans c1
 have c2:=(hx1.cell hpl).trans c2
 have c3:=(hx1.cell hpl).trans c3
 have c4:=(hx1.cell hpl).trans c4
 have c5:=(hx1.cell hpl).trans c5
 have hpl1:=Nat.lt_of_lt_of_le hpl hx1.size
 have HX1:=Lib.hid hx1
 have hNs:∀ k,AgF a m l k→k < w.heap.size:=fun k hk=>HH.out.ag.flt hk
 obtain ⟨S,hS⟩:∃ S,AgF a m l=S:=⟨_,rfl⟩
 have nS1:¬ S w.heap.size:=by
  rw [← hS]
  intro h
  have:=hNs _ h
  omega
 have nS2:¬ S p:=by rw [← hS]; exact HH.out.np
 have HSS:=Lib.hid hS
 have HOB:=Lib.hid hb1
 clear hS hNs hb1 hx1
 go_enter Tryz.func48,Tryz.ntmps48
 go_wp2_with fail
 clear hW1
 refine Calls.mono (HH1 _).out ?_
 rintro e v1 ⟨rfl,rfl⟩
 go_wp2_with fail
 refine Calls.mono (HO1 _).out ?_
 rintro e v3 ⟨rfl,rfl⟩
 go_wp2_with fail
 have hC0:=afs_drew S v3
 refine pi_start (fun w'=>∃ x:AftS S v3,w'=x.w) [] (by kernel_rfl) ?_
 refine pi_t 0 rfl (by kernel_rfl) (by kernel_rfl) (fun _ _ _ _ h=>h) (fun K hK=>?_)
 go_big_quiet_op
 refine hK _ ?_
 clear hK K
 refine pi_t 1 rfl (by kernel_rfl) (by kernel_rfl) (fun _ _ _ _ h=>h) (fun K hK=>?_)
 go_big_quiet_op
 refine hK _ ?_
 clear hK K
 refine pi_t 2 rfl (by kernel_rfl) (by kernel_rfl) (fun _ _ _ _ h=>h) (fun K hK=>?_)
 go_big_quiet_op
 refine hK _ ?_
 clear hK K
 refine pi_t 4 rfl (by kernel_rfl) (by kernel_rfl) (fun _ _ _ _ h=>h) (fun K hK=>?_)
 go_big_quiet_op
 refine hK _ ?_
 clear hK K
 refine pi_t 5 rfl (by kernel_rfl) (by kernel_rfl) (fun _ _ _ _ h=>h) (fun K hK=>?_)
 go_big_quiet_op
 refine hK _ ?_
 clear hK K
 refine pi_t 6 rfl (by kernel_rfl) (by kernel_rfl) (fun _ _ _ _ h=>h) (fun K hK=>?_)
 go_big_quiet_op
 refine hK _ ?_
 clear hK K
 refine pi_t 10 rfl (by kernel_rfl) (by kernel_rfl) (fun _ _ _ _ h=>h) (fun K hK=>?_)
 go_big_quiet_op
 refine hK _ ?_
 clear hK K
 refine pi_t 11 rfl (by kernel_rfl) (by kernel_rfl) (fun _ _ _ _ h=>h) (fun K hK=>?_)
 go_big_quiet_op
 refine hK _ ?_
 clear hK K
 refine pi_c 3 (by assumption) rfl (by kernel_rfl) (by kernel_rfl) (fun _ _ _ _ h=>h) (fun K hK=>?_)
 go_big_quiet_op
 refine hK _ ?_
 clear hK K
 refine pi_l 7 rfl (by kernel_rfl) (fun K hK=>?_)
 go_wp2_with (go_at_call 16; rw [HHC.out]; refine (HT1 _).out.mono ?_; rintro e y1 ⟨rfl,hy1⟩)
 refine hK _ _ (fun _ h=>afs_step h hy1) ?_
 clear hK K
 refine pi_t 8 rfl (by kernel_rfl) (by kernel_rfl) (fun _ _ _ _ h=>h) (fun K hK=>?_)
 go_big_quiet_op
 refine hK _ ?_
 clear hK K
 refine pi_t 9 rfl (by kernel_rfl) (by kernel_rfl) (fun _ _ _ _ h=>h) (fun K hK=>?_)
 go_big_quiet_op
 refine hK _ ?_
 clear hK K
 refine pi_l 12 rfl (by kernel_rfl) (fun K hK=>?_)
 go_wp2_with (go_at_call 16; rw [HOC.out]; refine (HT2 _).out.mono ?_; rintro e y2 ⟨rfl,hy2⟩)
 refine hK _ _ (fun _ h=>afs_step h hy2) ?_
 clear hK K
 have hy:Ext v3 y2:=(((Ext.refl v3).drewR.trans' hy1).trans' hy2)
 have HY:=Lib.hid hy
 clear hy1 hy2 hy
 refine pi_t 13 rfl (by kernel_rfl) (by kernel_rfl) (fun _ _ _ _ h=>h) (fun K hK=>?_)
 go_big_quiet_op
 refine hK _ ?_
 clear hK K
 refine pi_l 14 rfl (by kernel_rfl) (fun K hK=>?_)
 go_wp2_with (go_at_call 15; refine (HL y2 (HX1.out.trans' HY.out)).out.mono ?_; rintro e v4 ⟨rfl,l',hA',hst',hnp',htw',htb',hM,hfr⟩)
 have hM3:Mod S v3 v4:=by rw [← HSS.out]; exact (HY.out.mod _).trans hM
 refine hK _ _ (fun _ _=>⟨⟨_,hM3⟩,rfl⟩) ?_
 clear hK K
 refine pi_t 15 rfl (by kernel_rfl) (by kernel_rfl) (fun _ _ _ _ h=>h) (fun K hK=>?_)
 go_big_quiet_op
 refine hK _ ?_
 clear hK K
 refine pi_t 16 rfl (by kernel_rfl) (by kernel_rfl) (fun _ _ _ _ h=>h) (fun K hK=>?_)
 go_big_quiet_op
 refine hK _ ?_
 clear hK K
 refine pi_t 17 rfl (by kernel_rfl) (by kernel_rfl) (fun _ _ _ _ h=>h) (fun K hK=>?_)
 go_big_quiet_op
 refine hK _ ?_
 clear hK K
 refine pi_t 18 rfl (by kernel_rfl) (by kernel_rfl) (fun _ _ _ _ h=>h) (fun K hK=>?_)
 go_big_quiet_op
 refine hK _ ?_
 clear hK K
 refine pi_t 19 rfl (by kernel_rfl) (by kernel_rfl) (fun _ _ _ _ h=>h) (fun K hK=>?_)
 go_big_quiet_op
 refine hK _ ?_
 clear hK K
 refine pi_end (by kernel_rfl) ?_
 have hB4:Below N w v4:=Below.trans (HH.out.below_ext (HX1.out.trans' HY.out)) ((HH.out.ag.ext (HX1.out.trans' HY.out)).below hM)
 have HF:Hid (PlAt v4 N p a m l' C (T+T) g f∧Below N w v4):=Lib.hid ⟨⟨htw',hA',hst',hnp',HH.out.ok,HH.out.hb,HH.out.hd.mono (by omega),htb',HH.out.lo,HH.out.lp⟩,hB4⟩
 obtain ⟨d0,d1,d2,d3,d4,d5⟩:=htw'.c0
 have hp4:=htw'.lt
 have ob:v4.heap[w.heap.size]?=some (.cells #[.int .i64 4,.int .i64 ho,.int .i64 oo,.int .u64 key,.int .i64 d] 102 (0,0)):=(hM3.block _ ol nS1).trans HOB.out
 have o0:=(cell_of ob 0).trans rfl
 have ol4:=lt_of ob
 clear hM hA' hst' hnp' htw' htb' hB4 hfr hC0 c0 c1 c2 c3 c4 c5 o1 o2 o3 o4 hM3 ob
 go_wp2
 go_ret
 exact ⟨rfl,_,_,_,HF.out.1,HF.out.2⟩
theorem TDoes_c {w:World} {N p a m:Nat} {l:List (Nat × Th)} {C:Cfg} {T:Int} {g:Nat→Nat→List Int} {f:Nat→Nat→Int} (H:PlAt w N p a m l C T g f) (hT1:1048576≤T) (hT2:T≤35184372088832) (kd ho oo key d:Int) (h0:I64 kd) (h1:I64 ho) (h2:I64 oo) (h3:U64 key) (h4:I64 d) :
 Calls Tryz.prog 48 #[.pointer (some ⟨p,0,none⟩),.agg #[.int .i64 kd,.int .i64 ho,.int .i64 oo,.int .u64 key,.int .i64 d]] w (DoesPost w N p a m C T):=by
 by_cases k3:kd=3
 · subst k3
   exact TDoesMerge_c H hT1 hT2 ho oo key d h1 h2 h3 h4
 · by_cases k4:kd=4
   · subst k4
     by_cases hm:C.mode=2
     · exact TDoesSubNo_c H hm hT1 hT2 ho oo key d h1 h2 h3 h4
     · exact TDoesSub_c H hm hT1 hT2 ho oo key d h1 h2 h3 h4
   · exact TDoesAdd_c H hT1 hT2 kd ho oo key d h1 h2 h3 h4 k3 k4
end Go.Proofs.YtmalncfcgcebhaaGreatDoor
namespace Go.Proofs.YtmalncfcgcebhaaGreatDoor
set_option linter.unusedVariables false
open Go.RowKit
abbrev Opn5:=Int × Int × Int × Int × Int
def Ops5At (w:World) (v:Value) (os:List Opn5):Prop :=
 ((∃ p,v=.slice p 0 0)∧os=[])∨∃ g off cap,v=.slice (some ⟨g,off,none⟩) os.length cap∧g < w.heap.size ∧
  ∀ k,k < os.length→w.cell? ⟨g,off+k*5,none⟩=some (.int .i64 (os.getD k (0,0,0,0,0)).1)∧w.cell? ⟨g,off+k*5+1,none⟩=some (.int .i64 (os.getD k (0,0,0,0,0)).2.1)∧w.cell? ⟨g,off+k*5+2,none⟩=some (.int .i64 (os.getD k (0,0,0,0,0)).2.2.1)∧w.cell? ⟨g,off+k*5+3,none⟩=some (.int .u64 (os.getD k (0,0,0,0,0)).2.2.2.1)∧w.cell? ⟨g,off+k*5+4,none⟩=some (.int .i64 (os.getD k (0,0,0,0,0)).2.2.2.2)
def Ops5Ok (os:List Opn5):Prop:=∀ u∈os,I64 u.1∧I64 u.2.1∧I64 u.2.2.1∧U64 u.2.2.2.1∧I64 u.2.2.2.2
theorem Ops5At.ext {w w':World} {v:Value} {os:List Opn5} (h:Ops5At w v os) (he:Ext w w'):Ops5At w' v os:=by
 rcases h with h | ⟨g,off,cap,h1,h2,h3⟩
 · exact .inl h
 · exact .inr ⟨g,off,cap,h1,Nat.lt_of_lt_of_le h2 he.size,fun k hk=>⟨((bcell he).1 _ _ h2).trans (h3 k hk).1,((bcell he).1 _ _ h2).trans (h3 k hk).2.1,((bcell he).1 _ _ h2).trans (h3 k hk).2.2.1,((bcell he).1 _ _ h2).trans (h3 k hk).2.2.2.1,((bcell he).1 _ _ h2).trans (h3 k hk).2.2.2.2⟩⟩
theorem Ops5At.sl {w:World} {v:Value} {os:List Opn5} (h:Ops5At w v os):∃ p c,v=.slice p os.length c:=by
 rcases h with ⟨⟨p,rfl⟩,rfl⟩ | ⟨g,off,cap,rfl,_⟩
 · exact ⟨p,0,rfl⟩
 · exact ⟨_,cap,rfl⟩
theorem Ops5At.one {w:World} {p:Option Addr} {n c:Nat} {os:List Opn5} (h:Ops5At w (.slice p n c) os) {k:Nat} (hk:k < os.length) :
 ∃ g off,p=some ⟨g,off,none⟩∧g < w.heap.size∧w.cell? ⟨g,off+k*5,none⟩=some (.int .i64 os[k].1)∧w.cell? ⟨g,off+k*5+1,none⟩=some (.int .i64 os[k].2.1)∧w.cell? ⟨g,off+k*5+2,none⟩=some (.int .i64 os[k].2.2.1)∧w.cell? ⟨g,off+k*5+3,none⟩=some (.int .u64 os[k].2.2.2.1)∧w.cell? ⟨g,off+k*5+4,none⟩=some (.int .i64 os[k].2.2.2.2):=by
 rcases h with ⟨_,rfl⟩ | ⟨g,off,cap,h1,h2,h3⟩
 · exact absurd hk (Nat.not_lt_zero _)
 · have e:=Value.slice.inj h1
   have hg:os.getD k (0,0,0,0,0)=os[k]:=by simp [hk]
   have:=h3 k hk
   rw [hg] at this
   exact ⟨g,off,e.1,h2,this⟩
end Go.Proofs.YtmalncfcgcebhaaGreatDoor
namespace Go.Proofs.YtmalncfcgcebhaaGreatDoor
set_option linter.unusedVariables false
open Go.Proofs Go.RowKit
theorem pow_T (i:Nat) (h:i≤25):(1048576:Int)≤1048576*2 ^ i∧(1048576:Int)*2 ^ i≤35184372088832:=by
 have h1:(2:Int) ^ i≤2 ^ 25:=by
  have:=Nat.pow_le_pow_right (show 0 < 2 by decide) h
  exact_mod_cast this
 have h2:(1:Int)≤2 ^ i:=by
  have:=Nat.one_le_two_pow (n:=i)
  exact_mod_cast this
 rw [show (2:Int) ^ 25=33554432 from rfl] at h1
 omega
set_option maxRecDepth 20000 in
set_option maxHeartbeats 8000000 in
theorem TPlayed_c (x:Cfg) (hx:x.Raw) (mode:Int) (hm1:1≤mode) (hm3:mode≤3) (os:List Opn5) (hos:Ops5Ok os) (v:Value) (w:World) (hat:Ops5At w v os) (hul:os.length≤140737488355328) (hT:Tabs w) :
 Calls Tryz.prog 13 #[.agg #[.int .i64 x.bits,.int .i64 x.rows,.int .i64 x.width,.int .i64 x.mode,.int .u64 x.seed],.int .i64 mode,v] w fun e w'=>∃ N p a m l g f,e=.returned (.pointer (some ⟨p,0,none⟩))∧PlAt w' N p a m l (topC x mode) 35184372088832 g f∧w.heap.size≤N∧Ext w w':=by
 obtain ⟨vp,vc,rfl⟩:=hat.sl
 have HV:=Lib.hid hat
 have HM:=fun W hT'=>Lib.hid (TMade_c x hx mode hm1 hm3 W hT')
 have HT:=Lib.hid hT
 have HOS:=Lib.hid hos
 clear hat hT
 go_enter Tryz.func13,Tryz.ntmps13
 go_wp2_with fail
 refine Calls.mono (HM _ (HT.out.ext (by (repeat' (first | exact Ext.refl _ | assumption | apply Ext.allocR | apply Ext.drewR | apply Ext.drewNR | (refine Ext.trans' ?_ (by assumption))))))).out ?_
 rintro e w1 ⟨N,p,a,m,l,rfl,hP,hN,hx1⟩
 have hE1:Ext w w1:=by (repeat' (first | exact Ext.refl _ | assumption | apply Ext.allocR | apply Ext.drewR | apply Ext.drewNR | (refine Ext.trans' ?_ (by assumption))))
 have hNw:w.heap.size≤N:=by rw [size_alloc] at hN; omega
 have HP:=Lib.hid hP
 have HE1:=Lib.hid hE1
 clear hP hx1 hE1 hN
 go_wp2_with fail
 go_loopw [8] (fun u8 wr=>∃ (i:Nat) (l':List (Nat × Th)) (g:Nat→Nat→List Int) (f:Nat→Nat→Int),i≤25∧i≤os.length∧u8=.int .i64 i∧PlAt wr N p a m l' (topC x mode) (1048576*2 ^ i) g f∧Ext w wr) (fun u8 _=>25 - (intOf u8).toNat)
 case atStart=>exact ⟨0,l,_,_,by omega,by omega,rfl,by simpa using HP.out,HE1.out⟩
 case round =>
  obtain ⟨i,l',g,f,hi25,hil,rfl,hP,hE⟩:=hrel
  by_cases hlt:i < os.length∧i < 25
  · obtain ⟨hlt1,hlt2⟩:=hlt
    obtain ⟨q,off,rfl,hql,o0,o1,o2,o3,o4⟩:=HV.out.one hlt1
    have hu:=HOS.out os[i] (List.getElem_mem hlt1)
    have k0:=(hE.cell hql).trans o0
    have k1:=(hE.cell hql).trans o1
    have k2:=(hE.cell hql).trans o2
    have k3:=(hE.cell hql).trans o3
    have k4:=(hE.cell hql).trans o4
    generalize os[i]=u at *
    obtain ⟨kd,ho,oo,key,d⟩:=u
    dsimp only at *
    obtain ⟨u0,u1,u2,u3,u4⟩:=hu
    have hpw:=pow_T i hi25
    have HD:=Lib.hid (TDoes_c hP hpw.1 hpw.2 kd ho oo key d u0 u1 u2 u3 u4)
    have hdb:(1048576:Int)*2 ^ i+1048576*2 ^ i=1048576*2 ^ (i+1):=by rw [Int.pow_succ]; omega
    unfold DoesPost at HD
    rw [hdb] at HD
    have HE:=Lib.hid hE
    have hsz:=hE.size
    have hqr:q < wr.heap.size:=by omega
    clear hE o0 o1 o2 o3 o4 hP hdb hpw
    go_wp2_with fail
    refine Calls.mono HD.out ?_
    rintro e w2 ⟨rfl,l2,g2,f2,hP2,hB2⟩
    have HP2:=Lib.hid hP2
    have HB2:=Lib.hid (Below.trans HE.out (Below.mono hB2 hNw))
    clear hP2 hB2
    go_wp2
    go_roundw
    case rel=>exact ⟨i+1,l2,g2,f2,by omega,by omega,by go_num,HP2.out,HB2.out⟩
    case measure=>simp [intOf]; omega
  · have hT2:=(pow_T i hi25).2
    have HF:=Lib.hid (show PlAt wr N p a m l' (topC x mode) 35184372088832 g f from ⟨hP.tw,hP.ag,hP.st,hP.np,hP.ok,hP.hb,hP.hd.mono hT2,hP.tb,hP.lo,hP.lp⟩)
    have HE:=Lib.hid hE
    clear hP hE hT2
    by_cases hl2:i < os.length
    · have:i=25:=by omega
      go_wp2
      go_ret
      exact ⟨N,p,a,m,l',g,f,rfl,HF.out,hNw,HE.out⟩
    · go_wp2
      go_ret
      exact ⟨N,p,a,m,l',g,f,rfl,HF.out,hNw,HE.out⟩
end Go.Proofs.YtmalncfcgcebhaaGreatDoor
