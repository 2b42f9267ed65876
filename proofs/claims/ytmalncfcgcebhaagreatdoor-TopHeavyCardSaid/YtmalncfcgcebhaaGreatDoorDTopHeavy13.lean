/- Part. No condition. -/
import Derived.Test.YtmalncfcgcebhaaGreatDoorDTopHeavy4
import Derived.Test.YtmalncfcgcebhaaGreatDoorDTopHeavy12
import Derived.Test.YtmalncfcgcebhaaGreatDoorDTopHeavy9
import Derived.Test.YtmalncfcgcebhaaGreatDoorDTopHeavy8
import Derived.Test.YtmalncfcgcebhaaGreatDoorDTopHeavy1
import Derived.Shelf.SlIterI.Sorted
import Derived.Shelf.SortM.Plain
import Derived.Shelf.SortM.SortNone
import Derived.Defers
import Derived.Recover
import Derived.Laws.Pointers
namespace Go.Proofs.YtmalncfcgcebhaaGreatDoor
set_option linter.unusedVariables false
open Go.Proofs Go.RowKit
set_option maxRecDepth 20000 in
set_option maxHeartbeats 4000000 in
theorem RNumPos_c (u:Nat) (hu:u < 9223372036854775808) (s:ByteArray) (hs:s.data.toList=Lib.decDigits u) (w:World) :
 Calls Tryz.prog 65 #[.string s] w fun e w'=>e=.returned (.tuple #[.int .i64 (u:Int),.bool true])∧w'=w:=by
 have h19:u < 10 ^ (18+1):=by
  have h5:(10:Nat) ^ (18+1)=10000000000000000000:=by decide
  omega
 have hlen:=dec_len 18 u h19
 have hpos:=dec_pos' u
 have hsz:s.size=(Lib.decDigits u).length:=by rw [Lib.size_eq,hs]
 have hch:=dec_chars 18 u h19
 have hval:=dec_val 18 u h19
 have hget:∀ k (h:k < s.size),∃ c:UInt8,(Lib.decDigits u)[k]?=some c∧(s[k]'h)=c∧48≤c.toNat∧c.toNat≤57:=by
  intro k h
  have hk:k < (Lib.decDigits u).length:=by omega
  refine ⟨(Lib.decDigits u)[k],List.getElem?_eq_getElem hk, ?_,hch _ (List.getElem_mem hk)⟩
  have:=Lib.getD_at s k h
  rw [hs,List.getD_eq_getElem?_getD,List.getElem?_eq_getElem hk] at this
  simpa using this
 have h0:0 < s.size:=by omega
 have hs19:s.size≤19:=by omega
 have hfirst:s.size=1∨(s[0]'h0).toNat≠48:=by
  by_cases h2:u=0
  · left
    rw [hsz,h2,dec_one (by decide)]
    rfl
  · right
    have h3:=dec_first 18 u h19 (by omega)
    rw [← hs,← Lib.getD_at s 0 h0] at h3
    exact h3
 obtain ⟨c,_,e0,c48,c57⟩:=hget 0 h0
 have d1:(((s[0]'h0).toNat:Int) == 45)=false:=by rw [beq_eq_false_iff_ne,e0]; omega
 have HG:=Lib.hid hget
 have HV:=Lib.hid hval
 have HZ:=Lib.hid hsz
 clear hget hval hsz hch hs h19 hlen hpos
 go_enter Tryz.func65,Tryz.ntmps65
 by_cases h48:c.toNat=48
 · have hf:s.size=1:=by
    rcases hfirst with hf | hf
    · exact hf
    · rw [e0] at hf; exact absurd h48 hf
   have d2:(((s[0]'h0).toNat:Int) == 48)=true:=by rw [e0,h48]; rfl
   clear hfirst h48 c48 c57 e0
   go_wp2_with fail
   go_loopw [5,6] (fun u5 u6 wr=>∃ i:Nat,i≤s.size∧u6=.int .i64 (i:Nat)∧u5=.int .u64 ((valL 0 ((Lib.decDigits u).take i):Nat):Int)∧wr=w) (fun _ u6 _=>s.size - (intOf u6).toNat)
   case atStart=>exact ⟨0,Nat.zero_le _,rfl,rfl,by first | rfl | trivial⟩
   case round =>
    obtain ⟨i,hi,rfl,rfl,rfl⟩:=hrel
    by_cases hlt:i < s.size
    · obtain ⟨x,hx,ex,x48,x57⟩:=HG.out i hlt
      obtain ⟨hk,hx2⟩:=List.getElem?_eq_some_iff.1 hx
      have hnext:=valL_next (l:=Lib.decDigits u) (k:=i) hk
      rw [hx2] at hnext
      have hle:valL 0 ((Lib.decDigits u).take (i+1))≤u:=by
       have:=valL_take (l:=Lib.decDigits u) (k:=i+1)
       rw [HV.out] at this
       exact this
      rw [hnext] at hle
      generalize hv:valL 0 ((Lib.decDigits u).take i)=v at *
      have ev:((s[i]'hlt).toNat:Int)=(x.toNat:Int):=by rw [ex]
      generalize hxn:x.toNat=xn at *
      have hsub:((xn:Nat):Int) - 48=((xn - 48:Nat):Int):=by omega
      have HNX:=Lib.hid hnext
      have HSB:=Lib.hid hsub
      clear hx hx2 hk hnext hv hxn ex hsub
      go_wp2_with fail
      go_roundw
      case rel =>
       refine ⟨i+1,by omega,by go_num, ?_,by first | rfl | trivial⟩
       rw [HNX.out]
       congr 1
       omega
      case measure=>simp [intOf]; omega
    · have hi2:i=(Lib.decDigits u).length:=by have:=HZ.out; omega
      have hiv:valL 0 ((Lib.decDigits u).take i)=u:=by rw [hi2,List.take_length]; exact HV.out
      rw [hiv]
      clear hi2 hiv
      go_wp2
      go_ret2
      refine ⟨?_,by first | rfl | trivial⟩
      show Ending.returned (.tuple #[.int .i64 (u:Int),.bool (decide ((u:Int)≤9223372036854775807))])=_
      rw [decide_eq_true (show (u:Int)≤9223372036854775807 by omega)]
 · have d2:(((s[0]'h0).toNat:Int) == 48)=false:=by rw [beq_eq_false_iff_ne,e0]; omega
   have hne0:((0:Int) == (s.size:Int))=false:=by rw [beq_eq_false_iff_ne]; omega
   clear hfirst h48 c48 c57 e0
   go_wp2_with fail
   go_loopw [5,6] (fun u5 u6 wr=>∃ i:Nat,i≤s.size∧u6=.int .i64 (i:Nat)∧u5=.int .u64 ((valL 0 ((Lib.decDigits u).take i):Nat):Int)∧wr=w) (fun _ u6 _=>s.size - (intOf u6).toNat)
   case atStart=>exact ⟨0,Nat.zero_le _,rfl,rfl,by first | rfl | trivial⟩
   case round =>
    obtain ⟨i,hi,rfl,rfl,rfl⟩:=hrel
    by_cases hlt:i < s.size
    · obtain ⟨x,hx,ex,x48,x57⟩:=HG.out i hlt
      obtain ⟨hk,hx2⟩:=List.getElem?_eq_some_iff.1 hx
      have hnext:=valL_next (l:=Lib.decDigits u) (k:=i) hk
      rw [hx2] at hnext
      have hle:valL 0 ((Lib.decDigits u).take (i+1))≤u:=by
       have:=valL_take (l:=Lib.decDigits u) (k:=i+1)
       rw [HV.out] at this
       exact this
      rw [hnext] at hle
      generalize hv:valL 0 ((Lib.decDigits u).take i)=v at *
      have ev:((s[i]'hlt).toNat:Int)=(x.toNat:Int):=by rw [ex]
      generalize hxn:x.toNat=xn at *
      have hsub:((xn:Nat):Int) - 48=((xn - 48:Nat):Int):=by omega
      have HNX:=Lib.hid hnext
      have HSB:=Lib.hid hsub
      clear hx hx2 hk hnext hv hxn ex hsub
      go_wp2_with fail
      go_roundw
      case rel =>
       refine ⟨i+1,by omega,by go_num, ?_,by first | rfl | trivial⟩
       rw [HNX.out]
       congr 1
       omega
      case measure=>simp [intOf]; omega
    · have hi2:i=(Lib.decDigits u).length:=by have:=HZ.out; omega
      have hiv:valL 0 ((Lib.decDigits u).take i)=u:=by rw [hi2,List.take_length]; exact HV.out
      rw [hiv]
      clear hi2 hiv
      go_wp2
      go_ret2
      refine ⟨?_,by first | rfl | trivial⟩
      show Ending.returned (.tuple #[.int .i64 (u:Int),.bool (decide ((u:Int)≤9223372036854775807))])=_
      rw [decide_eq_true (show (u:Int)≤9223372036854775807 by omega)]
set_option maxRecDepth 20000 in
set_option maxHeartbeats 4000000 in
theorem RNumNeg_c (u:Nat) (hu1:1≤u) (hu:u≤9223372036854775808) (s:ByteArray) (hs:s.data.toList=45 :: Lib.decDigits u) (w:World) :
 Calls Tryz.prog 65 #[.string s] w fun e w'=>e=.returned (.tuple #[.int .i64 (-(u:Int)),.bool true])∧w'=w:=by
 have h19:u < 10 ^ (18+1):=by
  have h5:(10:Nat) ^ (18+1)=10000000000000000000:=by decide
  omega
 have hlen:=dec_len 18 u h19
 have hpos:=dec_pos' u
 have hsz:s.size=(Lib.decDigits u).length+1:=by rw [Lib.size_eq,hs]; rfl
 have hch:=dec_chars 18 u h19
 have hval:=dec_val 18 u h19
 have hget:∀ k (h:k+1 < s.size),∃ c:UInt8,(Lib.decDigits u)[k]?=some c∧(s[k+1]'h)=c∧48≤c.toNat∧c.toNat≤57:=by
  intro k h
  have hk:k < (Lib.decDigits u).length:=by omega
  refine ⟨(Lib.decDigits u)[k],List.getElem?_eq_getElem hk, ?_,hch _ (List.getElem_mem hk)⟩
  have:=Lib.getD_at s (k+1) h
  rw [hs,List.getD_eq_getElem?_getD,List.getElem?_cons_succ,List.getElem?_eq_getElem hk] at this
  simpa using this
 obtain ⟨n,hn⟩:∃ n,n=(Lib.decDigits u).length:=⟨_,rfl⟩
 rw [← hn] at hsz hlen hpos
 have h0:0 < s.size:=by omega
 have h1:1 < s.size:=by omega
 have hfirst:(s[1]'h1).toNat≠48:=by
  have h3:=dec_first 18 u h19 hu1
  have h4:=Lib.getD_at s 1 h1
  rw [hs,List.getD_eq_getElem?_getD,List.getElem?_cons_succ,← List.getD_eq_getElem?_getD] at h4
  rw [← h4] at h3
  exact h3
 have d1:(((s[0]'h0).toNat:Int) == 45)=true:=by
  have h4:=Lib.getD_at s 0 h0
  rw [hs] at h4
  have h5:(s[0]'h0)=45:=h4
  rw [h5]; rfl
 have d2:(((s[1]'h1).toNat:Int) == 48)=false:=by rw [beq_eq_false_iff_ne]; omega
 have hne0:((1:Int) == (s.size:Int))=false:=by rw [beq_eq_false_iff_ne]; omega
 have hs20:s.size≤20:=by omega
 have HG:=Lib.hid hget
 have HV:=Lib.hid hval
 have HN:=Lib.hid hn
 have HZ:=Lib.hid hsz
 clear hget hval hsz hch hs h19 hlen hpos hfirst hn
 go_enter Tryz.func65,Tryz.ntmps65
 go_wp2_with fail
 go_loopw [5,6] (fun u5 u6 wr=>∃ i:Nat,i≤n∧u6=.int .i64 ((i+1:Nat):Int)∧u5=.int .u64 ((valL 0 ((Lib.decDigits u).take i):Nat):Int)∧wr=w) (fun _ u6 _=>s.size - (intOf u6).toNat)
 case atStart=>exact ⟨0,Nat.zero_le _,rfl,rfl,by first | rfl | trivial⟩
 case round =>
  obtain ⟨i,hi,rfl,rfl,rfl⟩:=hrel
  have hzz:=HZ.out
  obtain ⟨j,hj⟩:∃ j,j=i+1:=⟨_,rfl⟩
  rw [← hj]
  by_cases hlt:i+1 < s.size
  · obtain ⟨x,hx,ex,x48,x57⟩:=HG.out i hlt
    obtain ⟨hk,hx2⟩:=List.getElem?_eq_some_iff.1 hx
    have hnext:=valL_next (l:=Lib.decDigits u) (k:=i) hk
    rw [hx2] at hnext
    have hle:valL 0 ((Lib.decDigits u).take (i+1))≤u:=by
     have:=valL_take (l:=Lib.decDigits u) (k:=i+1)
     rw [HV.out] at this
     exact this
    rw [hnext] at hle
    generalize hv:valL 0 ((Lib.decDigits u).take i)=v at *
    have hlt2:j < s.size:=by omega
    have ev:((s[j]'hlt2).toNat:Int)=(x.toNat:Int):=by subst hj; rw [ex]
    generalize hxn:x.toNat=xn at *
    have HNX:=Lib.hid hnext
    have HJ:=Lib.hid hj
    have hln:i+1≤n:=by omega
    clear hx hx2 hk hnext hv hxn ex hj hzz hlt
    go_wp2_with fail
    go_roundw
    case rel =>
     refine ⟨i+1,by omega, ?_, ?_,by first | rfl | trivial⟩
     · rw [← HJ.out]; go_num
     · rw [HNX.out]
       congr 1
       omega
    case measure=>simp [intOf]; omega
  · have hi2:i=(Lib.decDigits u).length:=by have:=HN.out; omega
    have hiv:valL 0 ((Lib.decDigits u).take i)=u:=by rw [hi2,List.take_length]; exact HV.out
    have hjs:¬ j < s.size:=by omega
    have hw1:IntKind.i64.wrap (IntKind.u64.wrap (-(u:Int)))=-(u:Int):=by
     rw [IntKind.wrap_u64,IntKind.wrap_i64]; omega
    rw [hiv]
    clear hi2 hiv hlt hj hzz
    go_wp2
    go_ret2
    refine ⟨?_,by first | rfl | trivial⟩
    show Ending.returned (.tuple #[.int .i64 (-(u:Int)),.bool (decide ((u:Int)≤9223372036854775808))])=_
    rw [decide_eq_true (show (u:Int)≤9223372036854775808 by omega)]
theorem RNumT_c (n:Int) (hn:I64 n) (s:ByteArray) (hs:s.data.toList=Lib.itoa n) (w:World) :
 Calls Tryz.prog 65 #[.string s] w fun e w'=>e=.returned (.tuple #[.int .i64 n,.bool true])∧w'=w:=by
 obtain ⟨h0,h1⟩:=hn
 by_cases h:n < 0
 · obtain ⟨u,rfl⟩:∃ u:Nat,n=-(u:Int):=⟨n.natAbs,by omega⟩
   rw [Lib.itoa_neg u (by omega)] at hs
   exact RNumNeg_c u (by omega) (by omega) s hs w
 · obtain ⟨u,rfl⟩:∃ u:Nat,n=u:=⟨n.toNat,by omega⟩
   rw [Lib.itoa_nonneg] at hs
   exact RNumPos_c u (by omega) s hs w
end Go.Proofs.YtmalncfcgcebhaaGreatDoor
namespace Go.Proofs.YtmalncfcgcebhaaGreatDoor
set_option linter.unusedVariables false
open Go.Proofs Go.RowKit
set_option maxHeartbeats 1000000 in
theorem RText_c (n:Int) (h0:0≤n) (h1:n≤9223372036854775807) (w:World):Calls Tryz.prog 40 #[.int .i64 n] w fun e w'=>e=.returned (strV (Lib.itoa n))∧Ext w w':=by
 have HO:=fun w'=>Lib.hid (OfInt_c n ⟨by omega,h1⟩ w')
 have HT:=fun w'=>Lib.hid (LTextPos_c n h0 (by omega) w')
 have hit:Lib.itoa n=Lib.decDigits n.toNat:=by unfold Lib.itoa; rw [if_neg (by omega)]
 rw [hit]
 clear hit
 go_enter Tryz.func40,Tryz.ntmps40
 go_wp2_with fail
 refine Calls.mono (HO _).out ?_
 rintro e w1 ⟨rfl,hx1⟩
 have HX1:=Lib.hid hx1
 clear hx1
 have hlv:∃ v,longV n=.agg v:=⟨_,rfl⟩
 generalize longV n=V at *
 obtain ⟨v,rfl⟩:=hlv
 go_wp2_with fail
 refine Calls.mono (HT _).out ?_
 rintro e w2 ⟨rfl,hx2⟩
 unfold strV
 go_wp2
 go_ret
 exact ⟨rfl,HX1.out.trans' hx2⟩
end Go.Proofs.YtmalncfcgcebhaaGreatDoor
namespace Go.Proofs.YtmalncfcgcebhaaGreatDoor
set_option linter.unusedVariables false
open Go.RowKit
theorem fillA_congr {f g:Nat→Int} (h:∀ j,j < 10→f j=g j):fillA f 10 10=fillA g 10 10:=by
 apply Array.ext
 · simp [fillA]
 · intro i h1 h2
   have hi:i < 10:=by simpa [fillA] using h1
   simp [fillA,h i hi]
theorem fillA_put (f:Nat→Int) (m:Nat) (v:Int) (hm:m < 10):(fillA f 10 10).setIfInBounds m (.int .i64 v)=fillA (fun j=>if j=m then v else f j) 10 10:=by
 apply Array.ext
 · simp [fillA]
 · intro i h1 h2
   have hi:i < 10:=by simpa [fillA] using h1
   by_cases he:m=i
   · subst he; simp [fillA]
   · have he':¬ i=m:=fun h=>he h.symm
     simp [fillA,hi,he,he']
def LongAt (w:World) (b:Nat) (a:Nat→Int):Prop:=w.heap[b]?=some (.cells (fillA a 10 10) 155 (0,0))
theorem LongAt.cell {w:World} {b:Nat} {a:Nat→Int} (h:LongAt w b a) {k:Nat} (hk:k < 10):w.cell? ⟨b,k,none⟩=some (.int .i64 (a k)):=by
 rw [cell_of h,fillA_at a 10 10 k hk,if_pos hk]
theorem LongAt.keep {w w':World} {b:Nat} {a:Nat→Int} (h:LongAt w b a) (he:w'.heap[b]?=w.heap[b]?):LongAt w' b a:=he.trans h
theorem LongAt.congr {w:World} {b:Nat} {f g:Nat→Int} (h:LongAt w b f) (he:∀ j,j < 10→f j=g j):LongAt w b g:=by
 unfold LongAt at *; rw [← fillA_congr he]; exact h
theorem LongAt.put {w:World} {b:Nat} {f:Nat→Int} (h:LongAt w b f) {m:Nat} (hm:m < 10) (v:Int):LongAt (w.setCell ⟨b,m,none⟩ (.int .i64 v)) b (fun j=>if j=m then v else f j):=by
 unfold LongAt at *
 rw [setCell_same h m,fillA_put f m v hm]
theorem fin10 {Φ:World→Prop} {w W:World} {b:Nat} {x0 x1 x2 x3 x4 x5 x6 x7 x8 x9:Value} {t:TypeId} (h:W.heap[b]?=some (.cells #[x0,x1,x2,x3,x4,x5,x6,x7,x8,x9] t (0,0))) (hE:Ext w W) (hb:w.heap.size≤b) {u0 u1 u2 u3 u4 u5 u6 u7 u8 u9:Value}
 (hΦ:∀ W':World,W'.heap[b]?=some (.cells #[u0,u1,u2,u3,u4,u5,u6,u7,u8,u9] t (0,0))→Ext w W'→Φ W'):Φ ((((((((((W.setCell ⟨b,0,none⟩ u0).setCell ⟨b,1,none⟩ u1).setCell ⟨b,2,none⟩ u2).setCell ⟨b,3,none⟩ u3).setCell ⟨b,4,none⟩ u4).setCell ⟨b,5,none⟩ u5).setCell ⟨b,6,none⟩ u6).setCell ⟨b,7,none⟩ u7).setCell ⟨b,8,none⟩ u8).setCell ⟨b,9,none⟩ u9):=by
 have h0:(W.setCell ⟨b,0,none⟩ u0).heap[b]?=some (.cells #[u0,x1,x2,x3,x4,x5,x6,x7,x8,x9] t (0,0)):=setCell_same h 0 u0
 have h1:((W.setCell ⟨b,0,none⟩ u0).setCell ⟨b,1,none⟩ u1).heap[b]?=some (.cells #[u0,u1,x2,x3,x4,x5,x6,x7,x8,x9] t (0,0)):=setCell_same h0 1 u1
 have h2:(((W.setCell ⟨b,0,none⟩ u0).setCell ⟨b,1,none⟩ u1).setCell ⟨b,2,none⟩ u2).heap[b]?=some (.cells #[u0,u1,u2,x3,x4,x5,x6,x7,x8,x9] t (0,0)):=setCell_same h1 2 u2
 have h3:((((W.setCell ⟨b,0,none⟩ u0).setCell ⟨b,1,none⟩ u1).setCell ⟨b,2,none⟩ u2).setCell ⟨b,3,none⟩ u3).heap[b]?=some (.cells #[u0,u1,u2,u3,x4,x5,x6,x7,x8,x9] t (0,0)):=setCell_same h2 3 u3
 have h4:(((((W.setCell ⟨b,0,none⟩ u0).setCell ⟨b,1,none⟩ u1).setCell ⟨b,2,none⟩ u2).setCell ⟨b,3,none⟩ u3).setCell ⟨b,4,none⟩ u4).heap[b]?=some (.cells #[u0,u1,u2,u3,u4,x5,x6,x7,x8,x9] t (0,0)):=setCell_same h3 4 u4
 have h5:((((((W.setCell ⟨b,0,none⟩ u0).setCell ⟨b,1,none⟩ u1).setCell ⟨b,2,none⟩ u2).setCell ⟨b,3,none⟩ u3).setCell ⟨b,4,none⟩ u4).setCell ⟨b,5,none⟩ u5).heap[b]?=some (.cells #[u0,u1,u2,u3,u4,u5,x6,x7,x8,x9] t (0,0)):=setCell_same h4 5 u5
 have h6:(((((((W.setCell ⟨b,0,none⟩ u0).setCell ⟨b,1,none⟩ u1).setCell ⟨b,2,none⟩ u2).setCell ⟨b,3,none⟩ u3).setCell ⟨b,4,none⟩ u4).setCell ⟨b,5,none⟩ u5).setCell ⟨b,6,none⟩ u6).heap[b]?=some (.cells #[u0,u1,u2,u3,u4,u5,u6,x7,x8,x9] t (0,0)):=setCell_same h5 6 u6
 have h7:((((((((W.setCell ⟨b,0,none⟩ u0).setCell ⟨b,1,none⟩ u1).setCell ⟨b,2,none⟩ u2).setCell ⟨b,3,none⟩ u3).setCell ⟨b,4,none⟩ u4).setCell ⟨b,5,none⟩ u5).setCell ⟨b,6,none⟩ u6).setCell ⟨b,7,none⟩ u7).heap[b]?=some (.cells #[u0,u1,u2,u3,u4,u5,u6,u7,x8,x9] t (0,0)):=setCell_same h6 7 u7
 have h8:(((((((((W.setCell ⟨b,0,none⟩ u0).setCell ⟨b,1,none⟩ u1).setCell ⟨b,2,none⟩ u2).setCell ⟨b,3,none⟩ u3).setCell ⟨b,4,none⟩ u4).setCell ⟨b,5,none⟩ u5).setCell ⟨b,6,none⟩ u6).setCell ⟨b,7,none⟩ u7).setCell ⟨b,8,none⟩ u8).heap[b]?=some (.cells #[u0,u1,u2,u3,u4,u5,u6,u7,u8,x9] t (0,0)):=setCell_same h7 8 u8
 have h9:((((((((((W.setCell ⟨b,0,none⟩ u0).setCell ⟨b,1,none⟩ u1).setCell ⟨b,2,none⟩ u2).setCell ⟨b,3,none⟩ u3).setCell ⟨b,4,none⟩ u4).setCell ⟨b,5,none⟩ u5).setCell ⟨b,6,none⟩ u6).setCell ⟨b,7,none⟩ u7).setCell ⟨b,8,none⟩ u8).setCell ⟨b,9,none⟩ u9).heap[b]?=some (.cells #[u0,u1,u2,u3,u4,u5,u6,u7,u8,u9] t (0,0)):=setCell_same h8 9 u9
 exact hΦ _ h9 ((((((((((hE.setR (p:=⟨b,0,none⟩) hb _).setR (p:=⟨b,1,none⟩) hb _).setR (p:=⟨b,2,none⟩) hb _).setR (p:=⟨b,3,none⟩) hb _).setR (p:=⟨b,4,none⟩) hb _).setR (p:=⟨b,5,none⟩) hb _).setR (p:=⟨b,6,none⟩) hb _).setR (p:=⟨b,7,none⟩) hb _).setR (p:=⟨b,8,none⟩) hb _).setR (p:=⟨b,9,none⟩) hb _)
theorem not_dg (x:Int) (i:Nat):65535 - dg x i=dg (-1 - x) i:=by
 have hp:=pw_pos i
 unfold dg
 generalize (65536 ^ i:Int)=M at *
 have e:(-1 - x) / M=-1 - x / M:=by
  have h1:=Int.emod_add_mul_ediv x M
  have h2:=Int.emod_nonneg x (show M≠0 by omega)
  have h3:=Int.emod_lt_of_pos x hp
  have h4:-1 - x=(M - 1 - x % M)+M*(-1 - x / M):=by rw [Int.mul_sub]; omega
  rw [h4,Int.add_mul_ediv_left _ _ (show M≠0 by omega),Int.ediv_eq_zero_of_lt (by omega) (by omega)]
  omega
 rw [e]
 omega
theorem one_dg:longV 1=.agg #[.int .i64 1,.int .i64 0,.int .i64 0,.int .i64 0,.int .i64 0,.int .i64 0,.int .i64 0,.int .i64 0,.int .i64 0,.int .i64 0]:=by
 unfold longV longA
 rw [show dg 1 0=1 from by decide,show dg 1 1=0 from by decide,show dg 1 2=0 from by decide,show dg 1 3=0 from by decide,show dg 1 4=0 from by decide,show dg 1 5=0 from by decide,show dg 1 6=0 from by decide,show dg 1 7=0 from by decide,show dg 1 8=0 from by decide,show dg 1 9=0 from by decide]
set_option maxRecDepth 20000 in
set_option maxHeartbeats 8000000 in
theorem Minus_core (d S T:Nat→Int) (hd:∀ i,0≤d i∧d i≤65535) (hS:∀ i,65535 - d i=S i)
 (hP:∀ w':World,Calls Tryz.prog 158 #[longA S,longV 1] w' fun e w''=>e=.returned (longA T)∧Ext w' w'') (w:World) :
 Calls Tryz.prog 114 #[longA d] w fun e w'=>e=.returned (longA T)∧Ext w w':=by
 rw [one_dg] at hP
 unfold longA at hP ⊢
 have HD:=Lib.hid hd
 have HS:=Lib.hid hS
 have HP:=Lib.hid hP
 clear hd hS hP
 go_enter Tryz.func114,Tryz.ntmps114
 go_wp2_with fail
 go_loopw [4] (fun u wr=>∃ i:Nat,i≤10∧u=.int .i64 i∧Ext w wr∧LongAt wr w.heap.size d∧LongAt wr (w.heap.size+1) (fun _=>0)∧LongAt wr (w.heap.size+1+1) (fun j=>if j < i then S j else 0)) (fun u _=>10 - (intOf u).toNat)
 case atStart =>
  refine ⟨0,Nat.zero_le _,rfl,((Ext.alloc' _ _).allocR _).allocR _, ?_, ?_, ?_⟩
  · unfold LongAt
    rw [fill10,heap_old _ _ (by simp only [size_alloc]; omega),heap_old _ _ (by simp only [size_alloc]; omega)]
    exact heap_at _ _ rfl
  · unfold LongAt
    rw [fill10,heap_old _ _ (by simp only [size_alloc]; omega)]
    exact heap_at _ _ (by simp only [size_alloc])
  · unfold LongAt
    rw [fill10]
    exact heap_at _ _ (by simp only [size_alloc])
 case round =>
  obtain ⟨i,hi,rfl,hE,hA,hR,hO⟩:=hrel
  by_cases hlt:i < 10
  · have x0:=hA.cell hlt
    have hb:=HD.out i
    have hs:=HS.out i
    have y0:=hO.cell hlt
    have f0:wr.frozen? ⟨w.heap.size+1+1,i,none⟩=false:=frozen_of hO i
    have l0:=lt_of hA
    have l2:=lt_of hO
    obtain ⟨hb1,hb2⟩:=hb
    generalize hdi:d i=di at *
    have HA:=Lib.hid hA
    have HR:=Lib.hid hR
    have HO:=Lib.hid hO
    have HSI:=Lib.hid hs
    clear hA hR hO hs hdi
    go_wp2
    go_roundw
    case rel =>
     refine ⟨i+1,by omega,by go_num,hE.setR (p:=⟨w.heap.size+1+1,i,none⟩) (by show _≤w.heap.size+1+1; omega) _,HA.out.keep (setCell_other _ _ (by omega)),HR.out.keep (setCell_other _ _ (by omega)), ?_⟩
     rw [HSI.out]
     refine (HO.out.put hlt (S i)).congr (fun j hj=>?_)
     by_cases e:j=i
     · subst e; rw [if_pos rfl,if_pos (by omega)]
     · rw [if_neg e]
       by_cases h:j < i
       · rw [if_pos h,if_pos (by omega)]
       · rw [if_neg h,if_neg (by omega)]
    case measure=>simp [intOf]; omega
  · obtain rfl:i=10:=by omega
    have hO':LongAt wr (w.heap.size+1+1) S:=hO.congr (fun j hj=>if_pos hj)
    have z0:=hO'.cell (k:=0) (by decide)
    have z1:=hO'.cell (k:=1) (by decide)
    have z2:=hO'.cell (k:=2) (by decide)
    have z3:=hO'.cell (k:=3) (by decide)
    have z4:=hO'.cell (k:=4) (by decide)
    have z5:=hO'.cell (k:=5) (by decide)
    have z6:=hO'.cell (k:=6) (by decide)
    have z7:=hO'.cell (k:=7) (by decide)
    have z8:=hO'.cell (k:=8) (by decide)
    have z9:=hO'.cell (k:=9) (by decide)
    have l2:=lt_of hO'
    have lR:=lt_of hR
    have HR:=Lib.hid hR
    clear hA hO hO' hR
    go_wp2_with fail
    refine Calls.mono (HP.out _) ?_
    rintro e w5 ⟨rfl,hx5⟩
    have hR5:w5.heap[w.heap.size+1]?=some (.cells (fillA (fun _=>0) 10 10) 155 (0,0)):=by
     refine hx5.keep ?_
     rw [heap_old _ _ lR]
     exact HR.out
    have hE5:Ext w w5:=by
     exact (hE.allocR _).trans' hx5
    rw [fill10] at hR5
    have p0:=(cell_of hR5 0).trans rfl
    have f0:=frozen_of hR5 0
    have p1:=(cell_of hR5 1).trans rfl
    have f1:=frozen_of hR5 1
    have p2:=(cell_of hR5 2).trans rfl
    have f2:=frozen_of hR5 2
    have p3:=(cell_of hR5 3).trans rfl
    have f3:=frozen_of hR5 3
    have p4:=(cell_of hR5 4).trans rfl
    have f4:=frozen_of hR5 4
    have p5:=(cell_of hR5 5).trans rfl
    have f5:=frozen_of hR5 5
    have p6:=(cell_of hR5 6).trans rfl
    have f6:=frozen_of hR5 6
    have p7:=(cell_of hR5 7).trans rfl
    have f7:=frozen_of hR5 7
    have p8:=(cell_of hR5 8).trans rfl
    have f8:=frozen_of hR5 8
    have p9:=(cell_of hR5 9).trans rfl
    have f9:=frozen_of hR5 9
    have l5:=lt_of hR5
    have HR5:=Lib.hid hR5
    clear hR5 hx5 z0 z1 z2 z3 z4 z5 z6 z7 z8 z9
    go_wp2_with fail
    refine fin10 (Φ:=fun W'=>bodyPost _ _ _ _ _ W') HR5.out hE5 (Nat.le_succ _) (fun W' hW hEW=>?_)
    clear p0 f0 p1 f1 p2 f2 p3 f3 p4 f4 p5 f5 p6 f6 p7 f7 p8 f8 p9 f9
    have r0:=(cell_of hW 0).trans rfl
    have r1:=(cell_of hW 1).trans rfl
    have r2:=(cell_of hW 2).trans rfl
    have r3:=(cell_of hW 3).trans rfl
    have r4:=(cell_of hW 4).trans rfl
    have r5:=(cell_of hW 5).trans rfl
    have r6:=(cell_of hW 6).trans rfl
    have r7:=(cell_of hW 7).trans rfl
    have r8:=(cell_of hW 8).trans rfl
    have r9:=(cell_of hW 9).trans rfl
    refine bodyPost_ret (v:=.agg #[.int .i64 (T 0),.int .i64 (T 1),.int .i64 (T 2),.int .i64 (T 3),.int .i64 (T 4),.int .i64 (T 5),.int .i64 (T 6),.int .i64 (T 7),.int .i64 (T 8),.int .i64 (T 9)]) ?_ rfl ⟨rfl,hEW⟩
    simp [results,Tryz.results114,go_sem,r0,r1,r2,r3,r4,r5,r6,r7,r8,r9]
theorem LMinus_c (x:Int) (w:World):Calls Tryz.prog 114 #[longV x] w fun e w'=>e=.returned (longV (-x))∧Ext w w' :=
 Minus_core (dg x) (dg (-1 - x)) (dg (-x)) (dg_bd x) (not_dg x) (fun w'=>by have:=LPlus_c (-1 - x) 1 w'; rw [show -1 - x+1=-x by omega] at this; exact this) w
end Go.Proofs.YtmalncfcgcebhaaGreatDoor
namespace Go.Proofs.YtmalncfcgcebhaaGreatDoor
set_option linter.unusedVariables false
open Go.Proofs Go.RowKit
set_option maxRecDepth 20000 in
set_option maxHeartbeats 16000000 in
theorem LTextNeg_c (z:Int) (h0:z < 0) (h1:-730750818665451459101842416358141509827966271488 < z) (w:World) :
 Calls Tryz.prog 75 #[longV z] w fun e w'=>e=.returned (strV (45 :: Lib.decDigits (-z).toNat))∧Ext w w':=by
 have hb:∀ w1,Calls Tryz.prog 113 #[longV z] w1 fun e w'=>e=.returned (.bool true)∧Ext w1 w':=fun w1=>by
  have hd:=dg_bd z 9
  have:=Below_c (dg z) hd.1 hd.2 w1
  rw [decide_eq_true (by rw [dg9]; omega)] at this
  exact this
 have HB:=Lib.hid hb
 have HMI:=fun w1=>Lib.hid (LMinus_c z w1)
 obtain ⟨y,hy⟩:∃ y,y=-z:=⟨_,rfl⟩
 rw [← hy] at HMI ⊢
 have g0:0≤y:=by omega
 have g1:y < 730750818665451459101842416358141509827966271488:=by omega
 have hdl:(Lib.decDigits y.toNat).length≤60:=dec_len 59 _ (by
  have h5:(10:Nat) ^ (59+1)=1000000000000000000000000000000000000000000000000000000000000:=by decide
  omega)
 clear hb hy
 unfold longV longA at HB HMI ⊢
 have hbx:=heap_at w (.cells #[.int .i64 (dg z 0),.int .i64 (dg z 1),.int .i64 (dg z 2),.int .i64 (dg z 3),.int .i64 (dg z 4),.int .i64 (dg z 5),.int .i64 (dg z 6),.int .i64 (dg z 7),.int .i64 (dg z 8),.int .i64 (dg z 9)] 155) rfl
 have hxa:=Ext.alloc' w (.cells #[.int .i64 (dg z 0),.int .i64 (dg z 1),.int .i64 (dg z 2),.int .i64 (dg z 3),.int .i64 (dg z 4),.int .i64 (dg z 5),.int .i64 (dg z 6),.int .i64 (dg z 7),.int .i64 (dg z 8),.int .i64 (dg z 9)] 155)
 go_enter Tryz.func75,Tryz.ntmps75
 go_wp2_with fail
 refine Calls.mono (HB.out _) ?_
 rintro e w1 ⟨rfl,hx1⟩
 have hb1:=hx1.keep hbx
 have hxb:=hxa.trans' hx1
 clear hbx hxa hx1
 have r0:=(cell_of hb1 0).trans rfl
 have r1:=(cell_of hb1 1).trans rfl
 have r2:=(cell_of hb1 2).trans rfl
 have r3:=(cell_of hb1 3).trans rfl
 have r4:=(cell_of hb1 4).trans rfl
 have r5:=(cell_of hb1 5).trans rfl
 have r6:=(cell_of hb1 6).trans rfl
 have r7:=(cell_of hb1 7).trans rfl
 have r8:=(cell_of hb1 8).trans rfl
 have r9:=(cell_of hb1 9).trans rfl
 have bl:=lt_of hb1
 have HB1:=Lib.hid hb1
 have HX1:=Lib.hid hxb
 clear hb1 hxb
 go_wp2_with fail
 refine Calls.mono (HMI _).out ?_
 rintro e w2 ⟨rfl,hx2⟩
 have hb2:=hx2.keep HB1.out
 have hxc:=HX1.out.trans' hx2
 clear hx2 r0 r1 r2 r3 r4 r5 r6 r7 r8 r9 bl
 have hb1:=hb2
 clear hb2
 have r0:=(cell_of hb1 0).trans rfl
 have r1:=(cell_of hb1 1).trans rfl
 have r2:=(cell_of hb1 2).trans rfl
 have r3:=(cell_of hb1 3).trans rfl
 have r4:=(cell_of hb1 4).trans rfl
 have r5:=(cell_of hb1 5).trans rfl
 have r6:=(cell_of hb1 6).trans rfl
 have r7:=(cell_of hb1 7).trans rfl
 have r8:=(cell_of hb1 8).trans rfl
 have r9:=(cell_of hb1 9).trans rfl
 have f0:=frozen_of hb1 0
 have f1:=frozen_of hb1 1
 have f2:=frozen_of hb1 2
 have f3:=frozen_of hb1 3
 have f4:=frozen_of hb1 4
 have f5:=frozen_of hb1 5
 have f6:=frozen_of hb1 6
 have f7:=frozen_of hb1 7
 have f8:=frozen_of hb1 8
 have f9:=frozen_of hb1 9
 have bl:=lt_of hb1
 have HB2:=Lib.hid hb1
 have HX2:=Lib.hid hxc
 clear hb1 hxc
 have hf:=fin10 (Φ:=fun W'=>W'.heap[w.heap.size]?=some (.cells #[.int .i64 (dg y 0),.int .i64 (dg y 1),.int .i64 (dg y 2),.int .i64 (dg y 3),.int .i64 (dg y 4),.int .i64 (dg y 5),.int .i64 (dg y 6),.int .i64 (dg y 7),.int .i64 (dg y 8),.int .i64 (dg y 9)] 155 (0,0))∧Ext w W') HB2.out HX2.out (Nat.le_refl _) (fun W' h1 h2=>⟨h1,h2⟩)
 have HFI:=Lib.hid hf
 clear hf
 go_upto_region 5 with (fail)
 generalize hW3:(World.setCell (World.setCell (World.setCell (World.setCell (World.setCell (World.setCell (World.setCell (World.setCell (World.setCell (World.setCell w2 ⟨w.heap.size,0,none⟩ (.int .i64 (dg y 0))) ⟨w.heap.size,1,none⟩ (.int .i64 (dg y 1))) ⟨w.heap.size,2,none⟩ (.int .i64 (dg y 2))) ⟨w.heap.size,3,none⟩ (.int .i64 (dg y 3))) ⟨w.heap.size,4,none⟩ (.int .i64 (dg y 4))) ⟨w.heap.size,5,none⟩ (.int .i64 (dg y 5))) ⟨w.heap.size,6,none⟩ (.int .i64 (dg y 6))) ⟨w.heap.size,7,none⟩ (.int .i64 (dg y 7))) ⟨w.heap.size,8,none⟩ (.int .i64 (dg y 8))) ⟨w.heap.size,9,none⟩ (.int .i64 (dg y 9)))=W3 at HFI ⊢
 have hm0:W3.heap[w.heap.size]?=some (.cells (mixT y 10) 155 (0,0)):=by
  rw [mixT_top,fill10]
  exact HFI.out.1
 have HM0:=Lib.hid hm0
 have HX0:=Lib.hid HFI.out.2
 clear hW3 HFI HB2 hm0 bl r0 r1 r2 r3 r4 r5 r6 r7 r8 r9 f0 f1 f2 f3 f4 f5 f6 f7 f8 f9
 go_wp2_with fail
 go_loopw [4,5,6,7,8] (fun u4 u5 _ _ _ wr=>∃ (yk:Int) (sk:List UInt8) (zb:Bool),u4=strV sk∧u5=.bool zb∧wr.heap[w.heap.size]?=some (.cells (mixT yk 10) 155 (0,0))∧Ext w wr∧0≤yk∧yk < 730750818665451459101842416358141509827966271488∧(zb=false→Lib.decDigits yk.toNat++sk=Lib.decDigits y.toNat)∧(zb=true→sk=Lib.decDigits y.toNat)∧sk.length≤400∧(sk=[]→zb=false)) (fun u4 _ _ _ _ _=>(Lib.decDigits y.toNat).length - lenV u4)
 case atStart =>
  exact ⟨y,[],false,rfl,rfl,HM0.out,HX0.out,g0,g1,fun _=>List.append_nil _,(fun h=>(by cases h)),Nat.zero_le _,fun _=>rfl⟩
 case round =>
  obtain ⟨yk,sk,zb,rfl,rfl,hm,hE,hy0,hy1,hz0,hz1,hsl,hs0⟩:=hrel
  have HZ0:=Lib.hid hz0
  have HZ1:=Lib.hid hz1
  have HM:=Lib.hid hm
  clear hz0 hz1 hm
  cases zb with
  | true =>
    have hsn:sk≠[]:=fun h=>by cases hs0 h
    have hsk:=HZ1.out rfl
    obtain ⟨b,hb⟩:∃ b:ByteArray,b=⟨sk.toArray⟩:=⟨_,rfl⟩
    have hbe:b.toList.isEmpty=false:=by
     rw [hb,Lib.toList_data]
     simpa using hsn
    have hbz:b.size≤400:=by
     rw [hb,Lib.size_eq]
     simpa using hsl
    have hcat:(⟨#[45]⟩:ByteArray)++b=⟨(45 :: Lib.decDigits y.toNat).toArray⟩:=by
     rw [hb,← hsk]
     exact cat_str [45] sk
    have HC:=Lib.hid hcat
    rw [show strV sk=.string b from congrArg Value.string hb.symm]
    clear hsk hsn hs0 hcat hb
    go_wp2
    go_ret
    exact ⟨congrArg Ending.returned (congrArg Value.string HC.out),hE⟩
  | false =>
    go_wp2_with fail
    go_loopw [5,6,7,8] (fun u5 u6 u7 _ wx=>∃ k:Nat,k≤10∧u7=.int .i64 ((k:Int) - 1)∧u5=.bool (zeroT yk k)∧u6=.int .i64 (rt yk k)∧wx.heap[w.heap.size]?=some (.cells (mixT yk k) 155 (0,0))∧Ext w wx) (fun _ _ u7 _ _=>(intOf u7+1).toNat)
    case atStart =>
     exact ⟨10,Nat.le_refl _,rfl,by rw [zeroT_top],by rw [rt_top yk hy0 (by omega)],HM.out,hE⟩
    case round =>
     obtain ⟨k,hk,rfl,rfl,rfl,hmx,hEx⟩:=hrel
     by_cases hk0:0 < k
     · obtain ⟨j,rfl⟩:∃ j,k=j+1:=⟨k - 1,by omega⟩
       have hkj:((j+1:Nat):Int) - 1=j:=by omega
       rw [hkj]
       clear hkj
       have c0:=(cell_of hmx j).trans (mixT_at yk (j+1) j (by omega))
       rw [if_pos (Nat.lt_succ_self j)] at c0
       have f0:=frozen_of hmx j
       have l0:=lt_of hmx
       have hsame:=setCell_same hmx j (.int .i64 (dg (yk / 10) j))
       rw [mixT_set yk j (by omega)] at hsame
       have htz:=zeroT_step yk (show j < 10 by omega)
       obtain ⟨t1,t2⟩:=ten_step yk j
       have hd1:=dg_bd yk j
       have hd2:=rt_bd yk (j+1)
       have hd3:=dg_bd (yk / 10) j
       have hd4:=rt_bd yk j
       obtain ⟨d1,d2⟩:=hd1
       obtain ⟨d3,d4⟩:=hd2
       generalize hR:rt yk (j+1)=R at *
       generalize hD:dg yk j=D at *
       generalize hD2:dg (yk / 10) j=D2 at *
       generalize hR2:rt yk j=R2 at *
       generalize hZ:zeroT yk (j+1)=Z at *
       generalize hZ2:zeroT yk j=Z2 at *
       have HMX:=Lib.hid hsame
       have HR2:=Lib.hid hR2
       have HZ2:=Lib.hid hZ2
       have HX2:=Lib.hid (hEx.setR (p:=⟨w.heap.size,j,none⟩) (Nat.le_refl _) (.int .i64 D2))
       clear hmx hsame hR hD hD2 hR2 hZ hZ2
       cases Z
       · go_wp2_with fail
         go_roundw
         case rel =>
          exact ⟨j,by omega,rfl,by rw [HZ2.out,htz]; rfl,by rw [HR2.out,← t2],HMX.out,HX2.out⟩
         case measure=>simp only [intOf]; omega
       · by_cases hz:D2=0
         · subst hz
           go_wp2_with fail
           go_roundw
           case rel =>
            exact ⟨j,by omega,rfl,by rw [HZ2.out,htz]; rfl,by rw [HR2.out,← t2],HMX.out,HX2.out⟩
           case measure=>simp only [intOf]; omega
         · go_wp2_with fail
           go_roundw
           case rel =>
            exact ⟨j,by omega,rfl,by rw [HZ2.out,htz,Bool.true_and,beq_eq_false_iff_ne.2 hz],by rw [HR2.out,← t2],HMX.out,HX2.out⟩
           case measure=>simp only [intOf]; omega
     · obtain rfl:k=0:=by omega
       have e0:((0:Nat):Int) - 1=-1:=rfl
       rw [e0,rt_zero]
       have hlen:(strV sk)=.string ⟨sk.toArray⟩:=rfl
       obtain ⟨b,hb⟩:∃ b:ByteArray,b=⟨sk.toArray⟩:=⟨_,rfl⟩
       have hbz:b.size≤400:=by
        rw [hb,Lib.size_eq]
        simpa using hsl
       rw [show strV sk=.string b from congrArg Value.string hb.symm]
       have HB3:=Lib.hid hb
       have HMX:=Lib.hid hmx
       clear hb hmx hlen
       have kc:=conv_one
       have hsz:(strOfNums [48+yk % 10]).size=1:=rfl
       go_wp2
       go_roundw
       case rel =>
        have hst:strOfNums [48+yk % 10]++b=⟨(UInt8.ofNat (48+yk.toNat % 10) :: sk).toArray⟩:=by
         rw [HB3.out]
         refine (cat_str [UInt8.ofNat (48+yk % 10).toNat] sk).trans ?_
         have:(48+yk % 10).toNat=48+yk.toNat % 10:=by omega
         rw [this]
         rfl
        have hcon:Lib.decDigits yk.toNat++sk=Lib.decDigits y.toNat:=by first | exact HZ0.out rfl | exact HZ0.out trivial
        have hds:=dec_step (y:=yk.toNat) sk
        rw [hcon] at hds
        have hlen:sk.length < (Lib.decDigits y.toNat).length:=by
         rw [← hcon,List.length_append]
         have:=dec_pos' yk.toNat
         omega
        have hq:(yk / 10).toNat=yk.toNat / 10:=by omega
        refine ⟨yk / 10,UInt8.ofNat (48+yk.toNat % 10) :: sk,decide (yk < 10),congrArg Value.string hst,by rw [zeroT_zero hy0 (by omega)], ?_,hEx.allocR _,by omega,by omega, ?_, ?_, ?_, ?_⟩
        · rw [← mixT_end]
          exact (heap_old _ _ (lt_of HMX.out)).trans HMX.out
        · intro h
          have h10:=of_decide_eq_false h
          rw [hq,hds,if_neg (by omega)]
          rfl
        · intro h
          have h10:=of_decide_eq_true h
          rw [if_pos (by omega),show yk.toNat / 10=0 by omega,Lib.decDigits,dif_pos (by decide)] at hds
          exact (List.cons.inj hds).2
        · rw [List.length_cons]; omega
        · intro h; cases h
       case measure =>
        have hcon:Lib.decDigits yk.toNat++sk=Lib.decDigits y.toNat:=by first | exact HZ0.out rfl | exact HZ0.out trivial
        have hlen:sk.length < (Lib.decDigits y.toNat).length:=by
         rw [← hcon,List.length_append]
         have:=dec_pos' yk.toNat
         omega
        have hbl:b.size=sk.length:=by rw [HB3.out,Lib.size_eq]
        have:(strOfNums [48+yk % 10]++b).size=1+b.size:=by rw [ByteArray.size_append]; rfl
        have hls:lenV (strV sk)=sk.length:=by
         show (ByteArray.mk sk.toArray).size=_
         rw [Lib.size_eq]
        rw [hls]
        simp only [lenV,this,hbl]
        omega
theorem RTextZ_c (n:Int) (hn:I64 n) (w:World):Calls Tryz.prog 40 #[.int .i64 n] w fun e w'=>e=.returned (strV (Lib.itoa n))∧Ext w w':=by
 by_cases h0:0≤n
 · exact RText_c n h0 hn.2 w
 · have hI:=hn.1
   have HO:=fun w'=>Lib.hid (OfInt_c n hn w')
   have HT:=fun w'=>Lib.hid (LTextNeg_c n (by omega) (by omega) w')
   have hit:Lib.itoa n=45 :: Lib.decDigits (-n).toNat:=by
    unfold Lib.itoa
    rw [if_pos (by omega)]
    congr 2
    omega
   rw [hit]
   clear hit
   go_enter Tryz.func40,Tryz.ntmps40
   go_wp2_with fail
   refine Calls.mono (HO _).out ?_
   rintro e w1 ⟨rfl,hx1⟩
   have HX1:=Lib.hid hx1
   clear hx1
   have hlv:∃ v,longV n=.agg v:=⟨_,rfl⟩
   generalize longV n=V at *
   obtain ⟨v,rfl⟩:=hlv
   go_wp2_with fail
   refine Calls.mono (HT _).out ?_
   rintro e w2 ⟨rfl,hx2⟩
   unfold strV
   go_wp2
   go_ret
   exact ⟨rfl,HX1.out.trans' hx2⟩
end Go.Proofs.YtmalncfcgcebhaaGreatDoor
namespace Go.Proofs.YtmalncfcgcebhaaGreatDoor
set_option linter.unusedVariables false
open Go.Proofs Go.RowKit
theorem doA_last (S:St) (c:Cmd):(doA S c).2.last≤S.last+1:=by
 cases c with
 | create B R W M s =>
   show (createF S _).2.last≤_
   unfold createF madeF
   repeat' split
   all_goals simp
 | add h nm name key d =>
   show (addF S h nm key d).2.last≤_
   unfold addF
   repeat' split
   all_goals simp
 | query what h l =>
   show (if what=⟨#[100,114,111,112]⟩ then dropF S h else totalF S h).2.last≤_
   unfold dropF totalF
   repeat' split
   all_goals simp
 | _=>exact Nat.le_succ _
theorem lineF_P {D:St→Cmd→(Option Rep × Int) × St} {P:St→Prop} (hD:∀ S c,P S→P (D S c).2) (S:St) (l:List UInt8) (h:P S):P (lineF D S l).2:=by
 unfold lineF
 generalize parseS ⟨l.toArray⟩=R
 obtain ⟨r,at_,c⟩:=R
 dsimp only
 split
 · cases r with
   | none=>exact h
   | some x=>exact hD S x h
 · exact h
theorem lineF_last {D:St→Cmd→(Option Rep × Int) × St} (hD:∀ S c,(D S c).2.last≤S.last+1) (S:St) (l:List UInt8):(lineF D S l).2.last≤S.last+1:=by
 unfold lineF
 generalize parseS ⟨l.toArray⟩=R
 obtain ⟨r,at_,c⟩:=R
 dsimp only
 split
 · cases r with
   | none=>exact Nat.le_succ _
   | some x=>exact hD S x
 · exact Nat.le_succ _
theorem run_P {F:St→List UInt8→Option (List UInt8) × St} {P:St→Prop} (hF:∀ S l,P S→P (F S l).2) {S:St} (h:P S) (L:List (List UInt8)):P (runK F S L).2:=by
 have key:∀ (L:List (List UInt8)) (q:List (List UInt8) × St),P q.2→P (L.foldl (stepR F) q).2:=by
  intro L
  induction L with
  | nil=>intro q hq; exact hq
  | cons x L ih=>intro q hq; exact ih _ (hF _ _ hq)
 exact key L ([],S) h
theorem run_last {F:St→List UInt8→Option (List UInt8) × St} (hF:∀ S l,(F S l).2.last≤S.last+1) (S:St) (L:List (List UInt8)):(runK F S L).2.last≤S.last+L.length:=by
 have key:∀ (L:List (List UInt8)) (q:List (List UInt8) × St),(L.foldl (stepR F) q).2.last≤q.2.last+L.length:=by
  intro L
  induction L with
  | nil=>intro q; exact Nat.le_refl _
  | cons x L ih =>
    intro q
    have h1:=ih (stepR F q x)
    have h2:(stepR F q x).2.last≤q.2.last+1:=hF _ _
    rw [List.foldl_cons,List.length_cons]
    omega
 exact key L ([],S)
def okAB:Cmd→Bool
 | .create _ _ _ _ s=>decide (0≤s∧s≤18446744073709551615)
 | .add h _ _ key d=>decide ((-9223372036854775808≤h∧h≤9223372036854775807)∧(0≤key∧key≤18446744073709551615)∧(-9223372036854775808≤d∧d≤9223372036854775807))
 | .query what h _=>(decide (what=⟨#[100,114,111,112]⟩) || decide (what=⟨#[116,111,116,97,108]⟩)) && decide (-9223372036854775808≤h∧h≤9223372036854775807)
 | _=>false
theorem okA_of {c:Cmd} (h:okAB c=true):okA c:=by
 cases c with
 | create B R W M s =>
   have:=of_decide_eq_true h
   unfold okA U64; omega
 | add k nm name key d =>
   have h3:decide ((-9223372036854775808≤k∧k≤9223372036854775807)∧(0≤key∧key≤18446744073709551615)∧(-9223372036854775808≤d∧d≤9223372036854775807))=true:=h
   have h4:=of_decide_eq_true h3
   unfold okA I64 U64; omega
 | query what k l =>
   have h2:=h
   unfold okAB at h2
   rw [Bool.and_eq_true,Bool.or_eq_true,decide_eq_true_iff,decide_eq_true_iff,decide_eq_true_iff] at h2
   exact h2
 | _=>cases h
def okL (l:List UInt8):Bool :=
 match parseS ⟨l.toArray⟩ with
 | (r,at_,c)=>decide (l.length≤100000∧(-9223372036854775808≤at_∧at_≤9223372036854775807)∧(-9223372036854775808≤c∧c≤9223372036854775807)) && (match r with | none=>true | some x=>decide (c=0) && okAB x)
theorem okL_is {S:St} (hS:AllSt S) (hl:S.last < 1000000) {s:ByteArray} (h:okL s.data.toList=true):LineIs S s (lineF doA S s.data.toList):=by
 have e1:(⟨s.data.toList.toArray⟩:ByteArray)=s:=by cases s; simp
 unfold okL at h
 rw [e1] at h
 have h5:∀ r at_ c,parseS s=(r,at_,c)→(decide (s.data.toList.length≤100000∧(-9223372036854775808≤at_∧at_≤9223372036854775807)∧(-9223372036854775808≤c∧c≤9223372036854775807)) && (match r with | none=>true | some x=>decide (c=0) && okAB x))=true:=by
  intro r at_ c he
  rw [he] at h
  exact h
 have h6:=h5 (parseS s).1 (parseS s).2.1 (parseS s).2.2 rfl
 rw [Bool.and_eq_true,decide_eq_true_iff] at h6
 obtain ⟨⟨h7,h8,h9⟩,h10⟩:=h6
 refine lineF_is ?_ ⟨h8,h9⟩ ?_ ?_
 · rw [Lib.size_eq]; omega
 · intro hn
   cases hr:(parseS s).1 with
   | none=>rfl
   | some x =>
     rw [hr] at h10
     simp only [Bool.and_eq_true,decide_eq_true_iff] at h10
     exact absurd h10.1 hn
 · intro c hc
   rw [hc] at h10
   simp only [Bool.and_eq_true,decide_eq_true_iff] at h10
   exact doA_is S hS hl c (okA_of h10.2)
theorem all0:AllSt st0:=fun x hx=>by cases hx
end Go.Proofs.YtmalncfcgcebhaaGreatDoor
namespace Go.Proofs.YtmalncfcgcebhaaGreatDoor
set_option linter.unusedVariables false
open Go.Proofs Go.RowKit
attribute [local go_sem] Oper.semAt_some
theorem own_any {w:World} {base g:Nat} {e:TypeId} {n cap:Nat} {xs:List Value} (h:w.ownsRow base e 1 (.slice (some ⟨g,0,none⟩) n cap) n xs):g < w.heap.size∧∀ j (hj:j < n) v,xs[j]?=some v→w.cell? ⟨g,j,none⟩=some v:=by
 obtain ⟨h1,⟨h2,_⟩ | ⟨g',cap',cur,h2,h3,h4,h5,h6,h7,h8⟩⟩:=h
 · cases h2
 · cases h2
   refine ⟨lt_of h4,fun j hj v hv=>?_⟩
   rw [cell_of h4]
   rw [← h8,Nat.mul_one,List.getElem?_take,if_pos hj] at hv
   rw [← hv,Array.getElem?_toList]
theorem own_some {w:World} {base:Nat} {e:TypeId} {v:Value} {n:Nat} {xs:List Value} (h:w.ownsRow base e 1 v n xs) (hn:n≠0):∃ g cap,v=.slice (some ⟨g,0,none⟩) n cap:=by
 obtain ⟨h1,⟨h2,h3⟩ | ⟨g',cap',cur,h2,h3⟩⟩:=h
 · exact absurd h3 hn
 · exact ⟨_,_,h2⟩
end Go.Proofs.YtmalncfcgcebhaaGreatDoor
namespace Go.Proofs.YtmalncfcgcebhaaGreatDoor
set_option linter.unusedVariables false
open Go.Proofs Go.RowKit
attribute [local go_sem] Oper.semAt_some
theorem and_FFFF {x:Int} (h:I64 x):bits BinOp.and IntKind.i64 x 65535=x % 65536:=by
 show IntKind.i64.wrap ((BitVec.ofInt 64 x &&& BitVec.ofInt 64 65535).toNat:Int)=_
 rw [BitVec.toNat_and,show (BitVec.ofInt 64 65535).toNat=2 ^ 16 - 1 from rfl,Nat.and_two_pow_sub_one_eq_mod,BitVec.toNat_ofInt,IntKind.wrap_i64]
 omega
end Go.Proofs.YtmalncfcgcebhaaGreatDoor
namespace Go.Proofs.YtmalncfcgcebhaaGreatDoor
set_option linter.unusedVariables false
open Go.Proofs Go.RowKit
theorem TText_c (n:Int) (hn:I64 n) (w:World):Calls Tryz.prog 16 #[.int .i64 n] w fun e w'=>e=.returned (strV (Lib.itoa n))∧Ext w w':=by
 have HT:=fun w'=>Lib.hid (RTextZ_c n hn w')
 go_enter Tryz.func16,Tryz.ntmps16
 go_wp2_with fail
 refine Calls.mono (HT _).out ?_
 rintro e w2 ⟨rfl,hx2⟩
 unfold strV
 go_wp2
 go_ret
 exact ⟨rfl,hx2⟩
theorem THandle_c (h:Int) (hh:I64 h) (w:World):Calls Tryz.prog 14 #[.int .i64 h] w fun e w'=>e=.returned (.int .i64 (h % 65536 % 3))∧w'=w:=by
 have ha:=and_FFFF hh
 have hb:0≤h % 65536∧h % 65536 < 65536:=by omega
 go_enter Tryz.func14,Tryz.ntmps14
 go_wp2
 go_ret
 exact ⟨rfl,rfl⟩
def smallZ (mode d:Int):Int:=if mode=2 then max (d.tmod 1048576) (-(d.tmod 1048576)) else d.tmod 1048576
theorem tmod_b20 {d k:Int} (hk:0 < k):-k < d.tmod k∧d.tmod k < k:=by
 have h1:=Int.tmod_lt_of_pos d hk
 have h2:=Int.lt_tmod_of_pos d hk
 omega
theorem TSmall_c (C:Cfg) (d:Int) (hd:I64 d) (w:World):Calls Tryz.prog 96 #[.agg #[.int .i64 C.bits,.int .i64 C.rows,.int .i64 C.width,.int .i64 C.mode,.int .u64 C.seed],.int .i64 d] w fun e w'=>e=.returned (.int .i64 (smallZ C.mode d))∧Ext w w':=by
 have hb:=tmod_b20 (d:=d) (k:=1048576) (by decide)
 have HZ:Hid (smallZ C.mode d=if C.mode=2 then max (d.tmod 1048576) (-(d.tmod 1048576)) else d.tmod 1048576):=Lib.hid rfl
 have hx:=Ext.alloc' w (.cells #[.int .i64 C.bits,.int .i64 C.rows,.int .i64 C.width,.int .i64 C.mode,.int .u64 C.seed] 24)
 obtain ⟨h1,h2⟩:=hb
 have hng:wrap64 (-d.tmod 1048576)=-d.tmod 1048576:=by unfold wrap64; omega
 clear hx
 by_cases hm:C.mode=2
 · have hmb:(C.mode == 2)=true:=by simpa using hm
   go_enter Tryz.func96,Tryz.ntmps96
   go_wp2
   go_ret
   rw [HZ.out,if_pos hm]
   exact ⟨rfl,Ext.alloc' _ _⟩
 · have hmb:(C.mode == 2)=false:=by simpa using hm
   go_enter Tryz.func96,Tryz.ntmps96
   go_wp2
   go_ret
   rw [HZ.out,if_neg hm]
   exact ⟨rfl,Ext.alloc' _ _⟩
end Go.Proofs.YtmalncfcgcebhaaGreatDoor
namespace Go.Proofs.YtmalncfcgcebhaaGreatDoor
set_option linter.unusedVariables false
open Go.Proofs Go.RowKit
set_option maxRecDepth 20000 in
set_option maxHeartbeats 4000000 in
theorem TNumber_c (n:Int) (hn:I64 n) (wd:List UInt8) (s word:ByteArray) (hw:word.data.toList=wd) (hs:s.data.toList=wd++Lib.itoa n) (hl:wd.length≤1000) (w:World) :
 Calls Tryz.prog 27 #[.string s,.string word] w fun e w'=>e=.returned (.tuple #[.int .i64 n,.bool true])∧w'=w:=by
 have hi:=Lib.itoa_length_le n hn.1 hn.2
 have hi0:0 < (Lib.itoa n).length:=by
  unfold Lib.itoa
  split
  · simp
  · exact dec_pos' _
 have hws:word.size=wd.length:=by rw [Lib.size_eq,hw]
 have hss:s.size=wd.length+(Lib.itoa n).length:=by rw [Lib.size_eq,hs,List.length_append]
 have hlt:word.size < s.size:=by omega
 have hsz:s.size≤2000:=by omega
 have e1:(s.extract 0 word.size).data.toList=wd:=by
  rw [Lib.extract_data,hs,hws]
  simp
 have e2:(s.extract word.size s.size).data.toList=Lib.itoa n:=by
  rw [Lib.extract_data,hs,hws,hss]
  simp
 have hcmp:((s.extract 0 word.size).toList == word.toList)=true:=by
  rw [Lib.toList_data,Lib.toList_data,e1,hw]
  exact beq_self_eq_true _
 have HN:=Lib.hid (RNumT_c n hn _ e2 w)
 clear e1 e2 hw hs hi hi0 hws hss hl
 go_enter Tryz.func27,Tryz.ntmps27
 go_wp2_with fail
 refine Calls.mono HN.out ?_
 rintro e w1 ⟨rfl,rfl⟩
 go_wp2
 go_ret2
 exact ⟨rfl,rfl⟩
end Go.Proofs.YtmalncfcgcebhaaGreatDoor
namespace Go.Proofs.YtmalncfcgcebhaaGreatDoor
set_option linter.unusedVariables false
open Go.Proofs Go.RowKit
structure TWAt (w:World) (p a:Nat) (C:Cfg) (f:Nat→Nat→Int):Prop where
 ex:∃ cur,w.heap[p]?=some (.cells cur 36 (0,0))∧cur[0]?=some (.pointer (some ⟨a,0,none⟩))∧cur[1]?=some (.int .i64 C.bits)∧cur[2]?=some (.int .i64 C.rows)∧cur[3]?=some (.int .i64 C.width)∧cur[4]?=some (.int .i64 C.mode)∧cur[5]?=some (.int .u64 C.seed) ∧
  ∀ h i,h < 3→i < 64→cur[6+h*64+i]?=some (.int .i64 (f h i))
 bd:∀ h i,h < 3→i < 64→-1125899906842624≤f h i∧f h i≤1125899906842624
theorem TWAt.cell {w:World} {p a:Nat} {C:Cfg} {f:Nat→Nat→Int} (H:TWAt w p a C f) {h i:Nat} (hh:h < 3) (hi:i < 64):w.cell? ⟨p,6+h*64+i,none⟩=some (.int .i64 (f h i)):=by
 obtain ⟨cur,h1,_,_,_,_,_,_,h2⟩:=H.ex
 rw [cell_of h1]
 exact h2 h i hh hi
theorem TWAt.lt {w:World} {p a:Nat} {C:Cfg} {f:Nat→Nat→Int} (H:TWAt w p a C f):p < w.heap.size:=by
 obtain ⟨cur,h1,_⟩:=H.ex
 exact lt_of h1
def massT (f:Nat→Int) (lv:Nat) (idx:Int):Nat→Int
 | 0=>0
 | k+1=>massT f lv idx k+(if ((k / 2 ^ lv:Nat):Int)=idx then f k else 0)
theorem massT_bd {f:Nat→Int} (hf:∀ i,i < 64→-1125899906842624≤f i∧f i≤1125899906842624) (lv:Nat) (idx:Int):∀ k,k≤64→-(1125899906842624*k)≤massT f lv idx k∧massT f lv idx k≤1125899906842624*k:=by
 intro k
 induction k with
 | zero=>intro _; simp [massT]
 | succ k ih =>
   intro hk
   have h1:=ih (by omega)
   have h2:=hf k (by omega)
   unfold massT
   split <;> omega
set_option maxRecDepth 20000 in
set_option maxHeartbeats 4000000 in
theorem TMass_c {p a:Nat} {C:Cfg} {f:Nat→Nat→Int} {w:World} (H:TWAt w p a C f) (h:Nat) (hh:h < 3) (lv:Nat) (hlv:lv≤6) (idx:Int) (hidx:U64 idx) :
 Calls Tryz.prog 22 #[.pointer (some ⟨p,0,none⟩),.int .i64 (h:Nat),.agg #[.int .i64 (lv:Nat),.int .u64 idx]] w fun e w'=>e=.returned (.int .i64 (massT (f h) lv idx 64))∧Ext w w':=by
 have HH:=Lib.hid H
 have hbm:=fun k hk=>massT_bd (fun i hi=>H.bd h i hh hi) lv idx k hk
 have HBM:=Lib.hid hbm
 have hb:=heap_at w (.cells #[.int .i64 (lv:Nat),.int .u64 idx] 52) rfl
 have hx:=Ext.alloc' w (.cells #[.int .i64 (lv:Nat),.int .u64 idx] 52)
 clear H hbm
 go_enter Tryz.func22,Tryz.ntmps22
 go_wp2_with fail
 obtain ⟨W1,hW1⟩:∃ W1,w.alloc (.cells #[.int .i64 (lv:Nat),.int .u64 idx] 52)=W1:=⟨_,rfl⟩
 rw [hW1] at hb hx ⊢
 have b0:=(cell_of hb 0).trans rfl
 have b1:=(cell_of hb 1).trans rfl
 have bl:=lt_of hb
 have HX:=Lib.hid hx
 clear hb hx hW1
 go_loopw [7,8] (fun u7 u8 wr=>∃ i:Nat,i≤64∧u8=.int .i64 (i:Nat)∧u7=.int .i64 (massT (f h) lv idx i)∧wr=W1) (fun _ u8 _=>64 - (intOf u8).toNat)
 case atStart=>exact ⟨0,by omega,rfl,rfl,by first | rfl | trivial⟩
 case round =>
  obtain ⟨i,hi,rfl,rfl,rfl⟩:=hrel
  by_cases hlt:i < 64
  · have hc:=(HX.out.cell (p:=⟨p,6+h*64+i,none⟩) HH.out.lt).trans (HH.out.cell hh hlt)
    have hbd:=HBM.out i hi
    have hfb:=HH.out.bd h i hh hlt
    have hnx:massT (f h) lv idx (i+1)=massT (f h) lv idx i+(if ((i / 2 ^ lv:Nat):Int)=idx then f h i else 0):=rfl
    have HNX:=Lib.hid hnx
    generalize f h i=y at *
    generalize massT (f h) lv idx i=s at *
    clear hnx
    have hcast:((i / 2 ^ lv:Nat):Int)=(i:Int) / 2 ^ lv:=by rw [Int.natCast_ediv,Int.natCast_pow]; rfl
    have HC:=Lib.hid hcast
    clear hcast
    by_cases hq:(i:Int) / 2 ^ lv=idx
    · have hb1:((i:Int) / 2 ^ lv == idx)=true:=by simpa using hq
      have HS:Hid (massT (f h) lv idx (i+1)=s+y):=Lib.hid (by rw [HNX.out,HC.out,if_pos hq])
      clear hq
      go_wp2_with fail
      go_roundw
      case rel=>exact ⟨i+1,by omega,by go_num,by rw [HS.out],by first | rfl | trivial⟩
      case measure=>simp [intOf]; omega
    · have hb1:((i:Int) / 2 ^ lv == idx)=false:=by simpa using hq
      have HS:Hid (massT (f h) lv idx (i+1)=s):=Lib.hid (by rw [HNX.out,HC.out,if_neg hq,Int.add_zero])
      clear hq
      go_wp2_with fail
      go_roundw
      case rel=>exact ⟨i+1,by omega,by go_num,by rw [HS.out],by first | rfl | trivial⟩
      case measure=>simp [intOf]; omega
  · obtain rfl:i=64:=by omega
    go_wp2
    go_ret
    exact ⟨rfl,HX.out⟩
end Go.Proofs.YtmalncfcgcebhaaGreatDoor
namespace Go.Proofs.YtmalncfcgcebhaaGreatDoor
set_option linter.unusedVariables false
open Go.Proofs Go.RowKit
def plainT (f:Nat→Int) (k:Nat):Bool:=(List.range k).all fun i=>decide (0≤f i)
theorem plainT_succ (f:Nat→Int) (k:Nat):plainT f (k+1)=(plainT f k && decide (0≤f k)):=by
 unfold plainT
 rw [List.range_succ,List.all_append]
 simp
theorem plainT_no {f:Nat→Int} {k n:Nat} (hk:k < n) (h:f k < 0):plainT f n=false:=by
 rw [Bool.eq_false_iff]
 intro h2
 have:=of_decide_eq_true (List.all_eq_true.1 h2 k (List.mem_range.2 hk))
 omega
set_option maxRecDepth 20000 in
set_option maxHeartbeats 4000000 in
theorem TPlain_c {p a:Nat} {C:Cfg} {f:Nat→Nat→Int} {w:World} (H:TWAt w p a C f) (h:Nat) (hh:h < 3) :
 Calls Tryz.prog 30 #[.pointer (some ⟨p,0,none⟩),.int .i64 (h:Nat)] w fun e w'=>e=.returned (.bool (plainT (f h) 64))∧w'=w:=by
 have HH:=Lib.hid H
 clear H
 go_enter Tryz.func30,Tryz.ntmps30
 go_wp2_with fail
 go_loopw [5] (fun u8 wr=>∃ i:Nat,i≤64∧u8=.int .i64 (i:Nat)∧plainT (f h) i=true∧wr=w) (fun u8 _=>64 - (intOf u8).toNat)
 case atStart=>exact ⟨0,by omega,rfl,rfl,by first | rfl | trivial⟩
 case round =>
  obtain ⟨i,hi,rfl,hpl,rfl⟩:=hrel
  by_cases hlt:i < 64
  · have hc:=HH.out.cell hh hlt
    have HP:=Lib.hid hpl
    by_cases hn:f h i < 0
    · have HF:=Lib.hid (plainT_no hlt hn)
      generalize f h i=y at *
      clear hpl
      go_wp2
      go_ret
      exact ⟨by rw [HF.out]; rfl,by first | rfl | trivial⟩
    · have hs:plainT (f h) (i+1)=true:=by rw [plainT_succ,hpl,decide_eq_true (by omega)]; rfl
      have HS:=Lib.hid hs
      generalize f h i=y at *
      clear hpl hs
      go_wp2_with fail
      go_roundw
      case rel=>exact ⟨i+1,by omega,by go_num,HS.out,by first | rfl | trivial⟩
      case measure=>simp [intOf]; omega
  · obtain rfl:i=64:=by omega
    have HP:=Lib.hid hpl
    clear hpl
    go_wp2
    go_ret
    exact ⟨by rw [HP.out]; rfl,by first | rfl | trivial⟩
end Go.Proofs.YtmalncfcgcebhaaGreatDoor
namespace Go.Proofs.YtmalncfcgcebhaaGreatDoor
set_option linter.unusedVariables false
open Go.RowKit
def FOf (f:Nat→Int) (ps:List (Int × Int)):Prop:=∀ i:Nat,i < 64→f i=sumIf (fun k=>k == (i:Int)) ps
theorem sh_nat (n K:Nat):sh n (K:Int)=((K / 2 ^ n:Nat):Int):=by
 unfold sh
 rw [Int.natCast_ediv,Int.natCast_pow]
 rfl
theorem mass_part {f:Nat→Int} {ps:List (Int × Int)} (hf:FOf f ps) (hk:∀ u∈ps,0≤u.1∧u.1 < 64) (lv:Nat) (idx:Int):∀ K:Nat,K≤64→massT f lv idx K=sumIf (fun k=>decide (k < (K:Int)) && (sh lv k == idx)) ps
 | 0,_=>by
   show (0:Int)=_
   rw [sumIf_congr (q:=fun _=>false) fun u hu=>by have:=(hk u hu).1; rw [decide_eq_false (by omega)]; rfl]
   exact (sumIf_none ps).symm
 | K+1,hK=>by
   have ih:=mass_part hf hk lv idx K (by omega)
   rw [sumIf_split _ (fun k=>decide (k < (K:Int)))]
   have e1:sumIf (fun k=>(decide (k < ((K+1:Nat):Int)) && (sh lv k == idx)) && decide (k < (K:Int))) ps=massT f lv idx K:=by
    rw [ih]
    refine sumIf_ext ps fun u=>?_
    rw [Bool.eq_iff_iff]; simp only [Bool.and_eq_true,decide_eq_true_eq,beq_iff_eq]
    constructor
    · rintro ⟨⟨_,a⟩,b⟩; exact ⟨b,a⟩
    · rintro ⟨b,a⟩; exact ⟨⟨by omega,a⟩,b⟩
   rw [e1]
   show massT f lv idx K+_=_
   congr 1
   by_cases hi:((K / 2 ^ lv:Nat):Int)=idx
   · rw [if_pos hi,hf K (by omega)]
     refine sumIf_ext ps fun u=>?_
     rw [Bool.eq_iff_iff]; simp only [Bool.and_eq_true,Bool.not_eq_true',decide_eq_true_eq,decide_eq_false_iff_not,beq_iff_eq]
     constructor
     · rintro rfl; exact ⟨⟨by omega,by rw [sh_nat]; exact hi⟩,by omega⟩
     · rintro ⟨⟨a,_⟩,b⟩; omega
   · rw [if_neg hi]
     have:sumIf (fun k=>(decide (k < ((K+1:Nat):Int)) && (sh lv k == idx)) && !decide (k < (K:Int))) ps=sumIf (fun _=>false) ps:=by
      refine sumIf_ext ps fun u=>?_
      rw [Bool.eq_iff_iff]; simp only [Bool.and_eq_true,Bool.not_eq_true',decide_eq_true_eq,decide_eq_false_iff_not,beq_iff_eq,Bool.false_eq_true,iff_false]
      rintro ⟨⟨a,c⟩,b⟩
      have:u=(K:Int):=by omega
      rw [this,sh_nat] at c
      exact hi c
     rw [this,sumIf_none]
theorem mass_pc {f:Nat→Int} {ps:List (Int × Int)} (hf:FOf f ps) (hk:∀ u∈ps,0≤u.1∧u.1 < 64) (lv:Nat) (idx:Int):massT f lv idx 64=pcS ps lv idx:=by
 rw [mass_part hf hk lv idx 64 (Nat.le_refl _)]
 unfold pcS
 refine sumIf_congr fun u hu=>?_
 have:=(hk u hu).2
 rw [decide_eq_true (show u.1 < ((64:Nat):Int) by omega)]
 rfl
theorem plain_of {f:Nat→Int} {ps:List (Int × Int)} (hf:FOf f ps) (hk:∀ u∈ps,0≤u.1∧u.1 < 64) (h:plainT f 64=true):PlainS ps:=by
 intro i
 by_cases hi:0≤i∧i < 64
 · obtain ⟨n,rfl⟩:∃ n:Nat,i=n:=⟨i.toNat,by omega⟩
   rw [← hf n (by omega)]
   unfold plainT at h
   rw [List.all_eq_true] at h
   exact of_decide_eq_true (h n (List.mem_range.2 (by omega)))
 · rw [sumIf_congr (q:=fun _=>false) fun u hu=>by
    have:=hk u hu
    rw [Bool.eq_iff_iff]; simp only [beq_iff_eq,Bool.false_eq_true,iff_false]; omega]
   exact Int.le_of_eq (sumIf_none ps).symm
end Go.Proofs.YtmalncfcgcebhaaGreatDoor
namespace Go.Proofs.YtmalncfcgcebhaaGreatDoor
set_option linter.unusedVariables false
open Go.RowKit
def fdB (pt:Nat→Int→Int) (least:Int):Nat→Nat→Int→Bool
 | 0,n,i=>decide (least≤pt n i)
 | d+1,n,i=>decide (least≤pt n i) && fdB pt least d (n+1) (i / 2)
theorem fdB_here {pt:Nat→Int→Int} {least:Int} {d n:Nat} {i:Int} (h:fdB pt least d n i=true):least≤pt n i:=by
 cases d with
 | zero=>exact of_decide_eq_true h
 | succ d =>
   unfold fdB at h
   rw [Bool.and_eq_true] at h
   exact of_decide_eq_true h.1
def rowZ (p:Int→Bool) (m:Nat):List Int:=((List.range m).map fun (k:Nat)=>(k:Int)).filter p
theorem rowZ_zero (p:Int→Bool):rowZ p 0=[]:=rfl
theorem rowZ_succ (p:Int→Bool) (m:Nat):rowZ p (m+1)=rowZ p m++(if p (m:Int)=true then [(m:Int)] else []):=by
 unfold rowZ
 rw [List.range_succ,List.map_append,List.filter_append]
 congr 1
 show List.filter p [(m:Int)]=_
 rw [List.filter_cons]
 rfl
theorem rowZ_len (p:Int→Bool) (m:Nat):(rowZ p m).length≤m:=by
 unfold rowZ
 have:=List.length_filter_le p ((List.range m).map fun (k:Nat)=>(k:Int))
 simpa using this
theorem rowZ_two (p:Int→Bool):∀ m:Nat,(rowZ p m).flatMap (fun i=>[2*i,2*i+1])=rowZ (fun j=>p (j / 2)) (2*m)
 | 0=>rfl
 | m+1=>by
   have ih:=rowZ_two p m
   have e1:(((2*m:Nat):Int)) / 2=(m:Int):=by omega
   have e2:(((2*m+1:Nat):Int)) / 2=(m:Int):=by omega
   rw [rowZ_succ,List.flatMap_append,ih,show 2*(m+1)=2*m+1+1 by omega,rowZ_succ,rowZ_succ,e1,e2,List.append_assoc]
   congr 1
   cases p (m:Int)
   · rfl
   · show [2*(m:Int),2*(m:Int)+1]++[]=[((2*m:Nat):Int)]++[((2*m+1:Nat):Int)]
     rw [Int.natCast_add,Int.natCast_mul]
     rfl
theorem rowZ_filter (p q:Int→Bool) (m:Nat):(rowZ p m).filter q=rowZ (fun i=>q i && p i) m:=by
 unfold rowZ
 rw [List.filter_filter]
def askZ (pt:Nat→Int→Int) (least:Int) (n:Nat):List Int:=if n=6 then [0] else rowZ (fun j=>fdB pt least (5 - n) (n+1) (j / 2)) (2 ^ (6 - n))
def fdZ (pt:Nat→Int→Int) (least:Int) (n:Nat):List Int:=rowZ (fdB pt least (6 - n) n) (2 ^ (6 - n))
theorem ask_fd (pt:Nat→Int→Int) (least:Int) {n:Nat} (hn:n≤6):(askZ pt least n).filter (fun i=>decide (least≤pt n i))=fdZ pt least n:=by
 unfold askZ fdZ
 by_cases h:n=6
 · subst h
   rw [if_pos rfl]
   rfl
 · rw [if_neg h,rowZ_filter]
   rw [show 6 - n=(5 - n)+1 by omega]
   rfl
theorem ask_next (pt:Nat→Int→Int) (least:Int) {n:Nat} (hn:n+1≤6):hvN pt least (n+1) (askZ pt least (n+1))=askZ pt least n:=by
 unfold hvN
 rw [if_neg (by omega),ask_fd pt least hn]
 unfold fdZ
 rw [rowZ_two]
 unfold askZ
 rw [if_neg (by omega),show 6 - (n+1)=5 - n by omega,show 2*2 ^ (5 - n)=2 ^ (6 - n) by rw [show 6 - n=(5 - n)+1 by omega,Nat.pow_succ,Nat.mul_comm]]
theorem ask_len (pt:Nat→Int→Int) (least:Int) {n:Nat} (hn:n≤6):(askZ pt least n).length≤2 ^ (6 - n):=by
 unfold askZ
 by_cases h:n=6
 · subst h; simp
 · rw [if_neg h]; exact rowZ_len _ _
def fdL (pt:Nat→Int→Int) (least:Int) (n:Nat):List Fd:=(fdZ pt least n).map fun i=>(n,i,pt n i)
def fdFrom (pt:Nat→Int→Int) (least:Int):Nat→List Fd
 | 0=>[]
 | n+1=>fdL pt least n++fdFrom pt least n
theorem hvGo_is (pt:Nat→Int→Int) (least budget:Int):∀ (n:Nat) (asked:Int) (out:List Fd),n≤6→hvGo pt least budget (n+1) asked (askZ pt least n) out=none∨hvGo pt least budget (n+1) asked (askZ pt least n) out=some (out++fdFrom pt least (n+1)):=by
 intro n
 induction n with
 | zero =>
   intro asked out hn
   unfold hvGo
   split
   · exact .inl rfl
   · refine .inr ?_
     show some (out++hvF pt least 0 (askZ pt least 0))=_
     unfold hvF
     rw [ask_fd pt least hn]
     show _=some (out++(fdL pt least 0++[]))
     rw [List.append_nil]
     rfl
 | succ n ih =>
   intro asked out hn
   unfold hvGo
   split
   · exact .inl rfl
   · rw [ask_next pt least hn]
     have e:hvF pt least (n+1) (askZ pt least (n+1))=fdL pt least (n+1):=by
      unfold hvF
      rw [ask_fd pt least hn]
      rfl
     rw [e]
     rcases ih (asked+(askZ pt least (n+1)).length) (out++fdL pt least (n+1)) (by omega) with h | h
     · exact .inl h
     · refine .inr ?_
       rw [h,List.append_assoc]
       rfl
theorem topGo_yes (pt:Nat→Int→Int) (least budget:Int):∀ (n:Nat) (asked:Int) (out:List Fd),n≤6→asked+((2 ^ 7 - 2 ^ (6 - n):Nat):Int)≤budget→hvGo pt least budget (n+1) asked (askZ pt least n) out≠none:=by
 intro n
 induction n with
 | zero =>
   intro asked out hn hb
   have hl:=ask_len pt least hn
   have e:(2 ^ 7 - 2 ^ (6 - 0):Nat)=64:=by decide
   rw [e] at hb
   have e2:2 ^ (6 - 0)=64:=by decide
   rw [e2] at hl
   unfold hvGo
   rw [if_neg (by omega)]
   unfold hvGo
   intro h; cases h
 | succ n ih =>
   intro asked out hn hb
   have hl:=ask_len pt least hn
   have hp:2 ^ (6 - n)=2*2 ^ (6 - (n+1)):=by rw [show 6 - n=(6 - (n+1))+1 by omega,Nat.pow_succ,Nat.mul_comm]
   have hq:2 ^ (6 - n)≤64:=by
    have:=Nat.pow_le_pow_right (show 0 < 2 by decide) (show 6 - n≤6 by omega)
    exact this
   unfold hvGo
   rw [if_neg (by omega),ask_next pt least hn]
   exact ih _ _ (by omega) (by omega)
theorem heavy_is (pt:Nat→Int→Int) {least budget:Int} (h1:1≤least) (h2:budget≤4096):(heavyP pt least budget 6=([],7)∧budget < 127)∨heavyP pt least budget 6=(fdFrom pt least 7,0):=by
 have hy:=topGo_yes pt least budget 6 0 [] (Nat.le_refl _)
 have hi:=hvGo_is pt least budget 6 0 [] (Nat.le_refl _)
 unfold heavyP
 rw [if_neg (by omega)]
 have e:askZ pt least 6=[0]:=rfl
 rw [e] at hy hi
 rcases hi with h | h
 · refine .inl ⟨by rw [h], ?_⟩
   rcases Int.lt_or_le budget 127 with hb | hb
   · exact hb
   · exact absurd h (hy (by rw [show (2 ^ 7 - 2 ^ (6 - 6):Nat)=127 by decide]; omega))
 · exact .inr (by rw [h]; rfl)
def fdTo (pt:Nat→Int→Int) (least:Int) (n m:Nat):List Fd:=(rowZ (fdB pt least (6 - n) n) m).map fun i=>(n,i,pt n i)
theorem fdTo_zero (pt:Nat→Int→Int) (least:Int) (n:Nat):fdTo pt least n 0=[]:=rfl
theorem fdTo_succ (pt:Nat→Int→Int) (least:Int) (n m:Nat):fdTo pt least n (m+1)=fdTo pt least n m++(if fdB pt least (6 - n) n (m:Int)=true then [(n,(m:Int),pt n (m:Int))] else []):=by
 unfold fdTo
 rw [rowZ_succ,List.map_append]
 congr 1
 split <;> rfl
theorem fdTo_all (pt:Nat→Int→Int) (least:Int) (n:Nat):fdTo pt least n (2 ^ (6 - n))=fdL pt least n:=rfl
theorem rowZ_split (p:Int→Bool) (a:Nat):∀ b:Nat,rowZ p (a+b)=rowZ p a++(rowZ (fun k=>p ((a:Int)+k)) b).map fun k=>(a:Int)+k
 | 0=>by rw [rowZ_zero]; simp
 | b+1=>by
   rw [show a+(b+1)=a+b+1 by omega,rowZ_succ,rowZ_split p a b,rowZ_succ,List.map_append,List.append_assoc]
   congr 1
   congr 1
   rw [Int.natCast_add]
   cases p ((a:Int)+(b:Int)) <;> rfl
theorem fd_place (pt:Nat→Int→Int) (least:Int) {n m:Nat} (hn:n≤6) (hm:m < 2 ^ (6 - n)) (hf:fdB pt least (6 - n) n (m:Int)=true):∃ t,fdL pt least n=fdTo pt least n m++(n,(m:Int),pt n (m:Int)) :: t:=by
 obtain ⟨b,hb⟩:∃ b,2 ^ (6 - n)=(m+1)+b:=⟨2 ^ (6 - n) - (m+1),by omega⟩
 refine ⟨((rowZ (fun k=>fdB pt least (6 - n) n (((m+1:Nat):Int)+k)) b).map fun k=>((m+1:Nat):Int)+k).map fun i=>(n,i,pt n i), ?_⟩
 rw [← fdTo_all,hb]
 have e:fdTo pt least n (m+1+b)=fdTo pt least n (m+1)++((rowZ (fun k=>fdB pt least (6 - n) n (((m+1:Nat):Int)+k)) b).map fun k=>((m+1:Nat):Int)+k).map fun i=>(n,i,pt n i):=by
  unfold fdTo
  rw [rowZ_split,List.map_append]
 rw [e,fdTo_succ,if_pos hf,List.append_assoc]
 rfl
theorem fdL_mem {pt:Nat→Int→Int} {least:Int} {n:Nat} {f:Fd} (h:f∈fdL pt least n):f.1=n∧∃ i:Nat,i < 2 ^ (6 - n)∧f.2.1=(i:Int)∧f.2.2=pt n (i:Int)∧fdB pt least (6 - n) n (i:Int)=true:=by
 unfold fdL fdZ rowZ at h
 simp only [List.mem_map,List.mem_filter,List.mem_range] at h
 obtain ⟨i,⟨⟨k,hk,rfl⟩,hf⟩,rfl⟩:=h
 exact ⟨rfl,k,hk,rfl,rfl,hf⟩
theorem fdFrom_mem {pt:Nat→Int→Int} {least:Int}:∀ {n:Nat} {f:Fd},f∈fdFrom pt least n→f.1 < n∧f∈fdL pt least f.1
 | 0,f,h=>by cases h
 | n+1,f,h=>by
   unfold fdFrom at h
   rcases List.mem_append.1 h with h | h
   · have:=(fdL_mem h).1
     rw [this]
     exact ⟨by omega,h⟩
   · have:=fdFrom_mem h
     exact ⟨by omega,this.2⟩
def fdPre (pt:Nat→Int→Int) (least:Int) (n:Nat):Nat→List Fd
 | 0=>[]
 | d+1=>fdPre pt least (n+1) d++fdL pt least (n+1)
theorem fd_cut (pt:Nat→Int→Int) (least:Int):∀ (d n:Nat),fdFrom pt least (n+1+d)=fdPre pt least n d++fdFrom pt least (n+1)
 | 0,n=>rfl
 | d+1,n=>by
   rw [show n+1+(d+1)=(n+1)+1+d by omega,fd_cut pt least d (n+1)]
   show _++(fdL pt least (n+1)++fdFrom pt least (n+1))=(fdPre pt least (n+1) d++fdL pt least (n+1))++fdFrom pt least (n+1)
   rw [List.append_assoc]
def cntT (pt:Nat→Int→Int) (least:Int) (n m:Nat):Nat:=(fdPre pt least n (6 - n)).length+(fdTo pt least n m).length
theorem cnt_succ (pt:Nat→Int→Int) (least:Int) (n m:Nat):cntT pt least n (m+1)=cntT pt least n m+(if fdB pt least (6 - n) n (m:Int)=true then 1 else 0):=by
 unfold cntT
 rw [fdTo_succ,List.length_append]
 split <;> simp <;> omega
theorem cnt_level (pt:Nat→Int→Int) (least:Int) {n:Nat} (hn:n+1≤6):cntT pt least (n+1) (2 ^ (6 - (n+1)))=cntT pt least n 0:=by
 unfold cntT
 rw [fdTo_all,fdTo_zero,show 6 - n=(6 - (n+1))+1 by omega]
 show _=(fdPre pt least (n+1) (6 - (n+1))++fdL pt least (n+1)).length+0
 rw [List.length_append]
 rfl
theorem cnt_last (pt:Nat→Int→Int) (least:Int):cntT pt least 0 64=(fdFrom pt least 7).length:=by
 have h:=fd_cut pt least 6 0
 rw [h,List.length_append]
 unfold cntT
 rw [show (64:Nat)=2 ^ (6 - 0) from rfl,fdTo_all]
 show _=_+(fdL pt least 0++[]).length
 rw [List.append_nil]
theorem fd_at (pt:Nat→Int→Int) (least:Int) {n m:Nat} (hn:n≤6) (hm:m < 2 ^ (6 - n)) (hf:fdB pt least (6 - n) n (m:Int)=true):(fdFrom pt least 7)[cntT pt least n m]?=some (n,(m:Int),pt n (m:Int)):=by
 have h:=fd_cut pt least (6 - n) n
 rw [show n+1+(6 - n)=7 by omega] at h
 obtain ⟨t,ht⟩:=fd_place pt least hn hm hf
 rw [h]
 unfold cntT
 rw [List.getElem?_append_right (by omega),show (fdPre pt least n (6 - n)).length+(fdTo pt least n m).length - (fdPre pt least n (6 - n)).length=(fdTo pt least n m).length by omega]
 show (fdL pt least n++fdFrom pt least n)[_]?=_
 rw [ht,List.append_assoc,List.getElem?_append_right (Nat.le_refl _),Nat.sub_self]
 rfl
theorem fd_found {pt:Nat→Int→Int} {least:Int} {k n m:Nat} {z:Int} (h:(fdFrom pt least 7)[k]?=some (n,(m:Int),z)):fdB pt least (6 - n) n (m:Int)=true:=by
 have hm:=fdFrom_mem (List.mem_of_getElem? h)
 obtain ⟨_,i,_,e,_,hf⟩:=fdL_mem hm.2
 have:i=m:=by
  have e':(m:Int)=(i:Int):=e
  omega
 rw [this] at hf
 exact hf
theorem fd_above {pt:Nat→Int→Int} {least:Int} {n m:Nat} (hn:n+1≤6) (hm:m < 2 ^ (6 - n)) (hf:fdB pt least (6 - n) n (m:Int)=true):∃ k,k < cntT pt least n m∧(fdFrom pt least 7)[k]?=some (n+1,((m / 2:Nat):Int),pt (n+1) ((m / 2:Nat):Int)):=by
 have e:6 - n=(6 - (n+1))+1:=by omega
 rw [e] at hf
 unfold fdB at hf
 rw [Bool.and_eq_true] at hf
 have e2:(m:Int) / 2=((m / 2:Nat):Int):=by omega
 rw [e2] at hf
 have hp:2 ^ (6 - n)=2*2 ^ (6 - (n+1)):=by rw [e,Nat.pow_succ,Nat.mul_comm]
 have hm2:m / 2 < 2 ^ (6 - (n+1)):=by omega
 refine ⟨_, ?_,fd_at pt least hn hm2 hf.2⟩
 obtain ⟨t,ht⟩:=fd_place pt least hn hm2 hf.2
 have hl:(fdL pt least (n+1)).length=(fdTo pt least (n+1) (m / 2)).length+(t.length+1):=by rw [ht,List.length_append,List.length_cons]
 have h0:=cnt_level pt least hn
 have h1:cntT pt least n 0≤cntT pt least n m:=by unfold cntT; rw [fdTo_zero]; simp
 have h2:cntT pt least (n+1) (2 ^ (6 - (n+1)))=(fdPre pt least (n+1) (6 - (n+1))).length+(fdL pt least (n+1)).length:=by unfold cntT; rw [fdTo_all]
 unfold cntT at h0 h1 h2 ⊢
 omega
theorem fd_not {pt S:Nat→Int→Int} {least:Int} (hge:∀ n i,n≤6→0≤i→i < 2 ^ (6 - n)→S n i≤pt n i) (hup:∀ n i,n+1≤6→0≤i→i < 2 ^ (6 - n)→S n i≤S (n+1) (i / 2)):∀ (d n:Nat) (i:Int),n+d=6→0≤i→i < 2 ^ (6 - n)→fdB pt least d n i=false→S n i < least
 | 0,n,i,hn,h0,h1,hf=>by
   have:=hge n i (by omega) h0 h1
   have:=of_decide_eq_false hf
   omega
 | d+1,n,i,hn,h0,h1,hf=>by
   unfold fdB at hf
   rw [Bool.and_eq_false_iff] at hf
   rcases hf with hf | hf
   · have:=hge n i (by omega) h0 h1
     have:=of_decide_eq_false hf
     omega
   · have hp:(2:Int) ^ (6 - n)=2*2 ^ (6 - (n+1)):=by rw [show 6 - n=(6 - (n+1))+1 by omega,Int.pow_succ,Int.mul_comm]
     have:=fd_not hge hup d (n+1) (i / 2) (by omega) (by omega) (by omega) hf
     have:=hup n i (by omega) h0 h1
     omega
end Go.Proofs.YtmalncfcgcebhaaGreatDoor
namespace Go.Proofs.YtmalncfcgcebhaaGreatDoor
set_option linter.unusedVariables false
open Go.Proofs Go.RowKit
def CW:Cfg:=⟨2,1,4,1,0⟩
def lsW:Nat→List Int:=updK CW (updK CW (zerosK CW) 3 5) 1 2
def TW:AT:=.st CW 2 lsW
def SW:St:=⟨[(1,TW)],1⟩
def w0:List UInt8:=[99,114,101,97,116,101,32,50,32,49,32,52,32,49,32,48]
def w1:List UInt8:=[97,100,100,32,49,32,51,32,53]
def w2:List UInt8:=[97,100,100,32,49,32,49,32,50]
def w3:List UInt8:=[114,97,110,103,101,32,49,32,49,32,50]
def w4:List UInt8:=[113,117,97,110,116,105,108,101,32,49,32,51]
def w5:List UInt8:=[104,101,97,118,121,32,49,32,53,32,57]
def w6:List UInt8:=[105,110,110,101,114,32,49,32,49]
noncomputable def ptZ (n:Nat) (i:Int):Int:=if n≤2 then (lsW n).getD i.toNat 0 else ptU CW lsW n i
theorem fitW0:(lsW 0).all fitB=true:=by kernel_rfl
theorem fitW1:(lsW 1).all fitB=true:=by kernel_rfl
theorem fitW2:(lsW 2).all fitB=true:=by kernel_rfl
theorem isXW0:isX CW 0=true:=by kernel_rfl
theorem isXW1:isX CW 1=true:=by kernel_rfl
theorem isXW2:isX CW 2=true:=by kernel_rfl
theorem lsW_fit:∀ n,n≤2→∀ x∈lsW n,I64 x:=by
 have h:∀ n,n≤2→(lsW n).all fitB=true:=by
  intro n hn
  match n,hn with
  | 0,_=>exact fitW0
  | 1,_=>exact fitW1
  | 2,_=>exact fitW2
 intro n hn x hx
 exact of_decide_eq_true (p:=-9223372036854775808≤x∧x≤9223372036854775807) (List.all_eq_true.1 (h n hn) x hx)
theorem isXW:∀ n:Nat,n≤2→isX CW n=true:=by
 intro n hn
 match n,hn with
 | 0,_=>exact isXW0
 | 1,_=>exact isXW1
 | 2,_=>exact isXW2
theorem ptU_W:ptU CW lsW=ptZ:=by
 funext n i
 unfold ptZ
 split
 · rename_i hn
   have hx:=isXW n hn
   have he:∃ y,I64 y∧lvPt CW n (lsW n) i y:=⟨_,getD_I (lsW_fit n hn) i.toNat,.inl ⟨hx,rfl⟩⟩
   unfold ptU
   rw [dif_pos he]
   rcases he.choose_spec.2 with ⟨_,h⟩ | ⟨h,_⟩
   · exact h
   · rw [hx] at h; cases h
 · rfl
theorem range_W:rangeF TW 1 2=(some (.number 2),0):=by
 show numF (rangeR (ptU CW lsW) 2 (uu 1) (uu 2)).1 (rangeR (ptU CW lsW) 2 (uu 1) (uu 2)).2=_
 rw [ptU_W]
 kernel_rfl
theorem quan_W:quanF TW 3=(some (.key 3),0):=by
 show keyF (quanR (ptU CW lsW) 2 ((lsW 2).getD 0 0) 3).1 (quanR (ptU CW lsW) 2 ((lsW 2).getD 0 0) 3).2=_
 rw [ptU_W]
 kernel_rfl
theorem heav_W:heavF TW 5 9=(some (.list [(2,0,7),(1,1,5),(0,3,5)]),0):=by
 show listF (heavyP (ptU CW lsW) 5 9 2).1 (heavyP (ptU CW lsW) 5 9 2).2=_
 rw [ptU_W]
 kernel_rfl
theorem inn_W:innF2 SW TW TW=((some (.wide 29),0),SW):=by
 unfold innF2
 kernel_rfl
theorem find_W:SW.l.find? (fun x=>decide ((x.1:Int)=1))=some (1,TW):=by kernel_rfl
theorem lineIs_of {S:St} {s:ByteArray} {c:Cmd} {R:(Option Rep × Int) × St} {x:Rep} (hs:s.size≤100000000) (hp:parseS s=(some c,0,0)) (hd:DoIs S c R) (hR:R.1=(some x,0)) (ht:TextIs x):LineIs S s (some (repT x),R.2):=by
 rintro w N p m l last hA hS hN hT hl
 obtain ⟨⟨r,e⟩,S'⟩:=R
 cases hR
 have:=ALine_cmd hA hN hT s hs hp (R:=((some x,0),S')) (fun _=>⟨_,rfl⟩) (by unfold I64; dsimp only; omega) (fun w1 v hx hv=>hd w1 N p m l last _ v (hA.ext hx) hS hN (hT.ext hx) hl hv) (fun y base w1 v hy hr hT1=>by
  cases hy
  exact ht base w1 v hr hT1)
 unfold ansT at this
 rw [if_pos rfl] at this
 exact this
theorem TextIs.num {n:Int} (h:I64 n):TextIs (.number n):=by
 rintro base w v rfl hT
 exact AText_num n h w hT
theorem TextIs.key {k:Int} (h:U64 k):TextIs (.key k):=by
 rintro base w v rfl hT
 exact AText_key k h w hT
theorem TextIs.wide {x:Int} (h:W128 x):TextIs (.wide x):=by
 rintro base w v rfl hT
 exact AText_wide x h w
theorem TextIs.list {D:List Fd} (h1:D.length≤100000) (h2:∀ f∈D,FdOk f):TextIs (.list D):=by
 rintro base w v ⟨s,rfl,hr⟩ hT
 exact AText_list D h1 h2 base s w hT hr
theorem says3:parseS ⟨w3.toArray⟩=(some (.query ⟨#[114,97,110,103,101]⟩ 1 [1,2]),0,0):=by kernel_rfl
theorem says4:parseS ⟨w4.toArray⟩=(some (.query ⟨#[113,117,97,110,116,105,108,101]⟩ 1 [3]),0,0):=by kernel_rfl
theorem says5:parseS ⟨w5.toArray⟩=(some (.query ⟨#[104,101,97,118,121]⟩ 1 [5,9]),0,0):=by kernel_rfl
theorem says6:parseS ⟨w6.toArray⟩=(some (.pair ⟨#[105,110,110,101,114]⟩ 1 1),0,0):=by kernel_rfl
theorem i64s (n:Nat) (h:n≤1000):I64 (n:Int):=by unfold I64; omega
theorem ask_W (f:AT→Option Rep × Int):askF SW 1 f=(f TW,SW):=by
 unfold askF
 rw [find_W]
theorem pair_W (f:Nat→AT→AT→(Option Rep × Int) × St):pairF SW 1 1 f=f 1 TW TW:=by
 unfold pairF
 rw [find_W]
theorem line3:LineIs SW ⟨w3.toArray⟩ (some (repT (.number 2)),SW):=by
 have h:=DoIs.range SW 1 1 2 (i64s 1 (by decide)) (i64s 1 (by decide)) (i64s 2 (by decide))
 rw [ask_W,range_W] at h
 exact lineIs_of (by decide) says3 h rfl (TextIs.num (i64s 2 (by decide)))
theorem line4:LineIs SW ⟨w4.toArray⟩ (some (repT (.key 3)),SW):=by
 have h:=DoIs.quan SW 1 3 (i64s 1 (by decide)) (i64s 3 (by decide))
 rw [ask_W,quan_W] at h
 exact lineIs_of (by decide) says4 h rfl (TextIs.key (by unfold U64; omega))
theorem line5:LineIs SW ⟨w5.toArray⟩ (some (repT (.list [(2,0,7),(1,1,5),(0,3,5)])),SW):=by
 have h:=DoIs.heavy SW 1 5 9 (i64s 1 (by decide)) (i64s 5 (by decide)) (i64s 9 (by decide))
 rw [ask_W,heav_W] at h
 exact lineIs_of (by decide) says5 h rfl (TextIs.list (by decide) (by
  intro f hf
  simp only [List.mem_cons,List.mem_nil_iff,or_false] at hf
  rcases hf with rfl | rfl | rfl <;> (unfold FdOk U64 I64; dsimp only; omega)))
theorem line6:LineIs SW ⟨w6.toArray⟩ (some (repT (.wide 29)),SW):=by
 have h:=DoIs.inner SW 1 1 (i64s 1 (by decide)) (i64s 1 (by decide))
 rw [pair_W,inn_W] at h
 exact lineIs_of (by decide) says6 h rfl (TextIs.wide (by unfold W128; omega))
end Go.Proofs.YtmalncfcgcebhaaGreatDoor
namespace Go.Proofs.YtmalncfcgcebhaaGreatDoor
set_option linter.unusedVariables false
open Go.Proofs Go.RowKit
def lineB (verb:List UInt8) (ns:List Int):ByteArray:=⟨(joinW (lineW verb ns)).toArray⟩
theorem lineB_data (verb:List UInt8) (ns:List Int):(lineB verb ns).data.toList=joinW (lineW verb ns):=rfl
theorem join_itoa {ns:List Int} (hn:∀ n∈ns,I64 n) (hl:ns.length≤10):(joinW (ns.map Lib.itoa)).length≤30*ns.length:=by
 clear hl
 induction ns with
 | nil=>simp [joinW]
 | cons a l ih =>
   have h1:=Lib.itoa_length_le a (hn a (by simp)).1 (hn a (by simp)).2
   have h2:=ih fun n h=>hn n (by simp [h])
   cases l with
   | nil=>simp [joinW]; omega
   | cons b l =>
     rw [List.map_cons,joinW_cons _ (by simp)]
     simp only [List.length_append,List.length_cons] at *
     omega
theorem lineB_size {verb:List UInt8} {ns:List Int} (hn:∀ n∈ns,I64 n) (hv:verb.length≤20) (hl:ns.length≤10):(lineB verb ns).size≤1000:=by
 rw [Lib.size_eq,lineB_data]
 unfold lineW
 have h:=join_itoa hn hl
 cases ns with
 | nil=>simp [joinW]; omega
 | cons a l =>
   rw [joinW_cons _ (by simp)]
   simp only [List.length_append,List.length_cons] at *
   omega
theorem lineOk {S:St} {s:ByteArray} {c:Cmd} {R:(Option Rep × Int) × St} (hs:s.size≤100000000) (hp:parseS s=(some c,0,0)) (h:DoOk S c R):LineIs S s (some (ansT R.1),R.2):=by
 rintro w N p m l last hA hS hN hT hl
 exact ALine_cmd hA hN hT s hs hp h.yes h.ie (fun w1 v hx hv=>h.is w1 N p m l last _ v (hA.ext hx) hS hN (hT.ext hx) hl hv) fun y base w1 v hy hr hT1=>h.tx ⟨w,N,p,m,l,last,hA,hS⟩ y hy base w1 v hr hT1
theorem lineS {S:St} {verb:List UInt8} {ns:List Int} {c:Cmd} {R:(Option Rep × Int) × St} (hn:∀ n∈ns,I64 n) (hv:WordOk verb) (ha:∀ c∈verb,c.toNat < 128) (hv2:verb.length≤20) (hl:ns.length≤10)
 (hc:∀ E,cmdR (wpl 0 (lineW verb ns)) E=(some c,ns.length+1,none)) (h:DoOk S c R):LineIs S (lineB verb ns) (some (ansT R.1),R.2):=by
 have hz:=lineB_size hn hv2 hl
 exact lineOk (by omega) (line_says (lineB_data verb ns) hv ha (by omega) (hc _)) h
abbrev vAdd:List UInt8:=[97,100,100]
abbrev vMerge:List UInt8:=[109,101,114,103,101]
abbrev vSub:List UInt8:=[115,117,98,116,114,97,99,116]
abbrev vPoint:List UInt8:=[112,111,105,110,116]
abbrev vHeavy:List UInt8:=[104,101,97,118,121]
abbrev vCreate:List UInt8:=[99,114,101,97,116,101]
theorem num_at (verb:List UInt8) (ns:List Int) (hn:∀ n∈ns,I64 n) (E i:Nat) (hi:i < ns.length):numR (wpl 0 (lineW verb ns)) E (i+1) none=(ns.getD i 0,i+2,none):=by
 refine numR_at (by rw [wpl_len]; simp [lineW]; omega) ?_ (hn _ (getD_mem hi))
 rw [wpl_get]
 simp [lineW,hi]
theorem named_itoa (n:Int):namedOf ⟨(Lib.itoa n).toArray⟩=false:=by
 unfold namedOf
 have h:=(itoa_word n).hd
 have:decide ((⟨(Lib.itoa n).toArray⟩:ByteArray).data.toList.getD 0 0=34)=false:=decide_eq_false h
 rw [this]
 simp
theorem cmd_add {a b c:Int} (ha:I64 a) (hb:I64 b) (hc:I64 c) (E:Nat):cmdR (wpl 0 (lineW vAdd [a,b,c])) E=(some (.add a false ⟨#[]⟩ (b % 18446744073709551616) c),4,none):=by
 have hn:∀ n∈[a,b,c],I64 n:=by
  intro n hn
  simp only [List.mem_cons,List.mem_nil_iff,or_false] at hn
  rcases hn with rfl | rfl | rfl <;> assumption
 have n1:=num_at vAdd [a,b,c] hn E 0 (by simp)
 have n2:=num_at vAdd [a,b,c] hn E 1 (by simp)
 have n3:=num_at vAdd [a,b,c] hn E 2 (by simp)
 have hl:2 < (wpl 0 (lineW vAdd [a,b,c])).length:=by rw [wpl_len]; simp [lineW]
 have e2:=next_yes (E:=E) hl
 have hw:(wpl 0 (lineW vAdd [a,b,c]))[2].1=⟨(Lib.itoa b).toArray⟩:=rfl
 have hnm:namedOf (wpl 0 (lineW vAdd [a,b,c]))[2].1=false:=by rw [hw]; exact named_itoa b
 have hA:addR (wpl 0 (lineW vAdd [a,b,c])) E 1 none=((a,false,⟨#[]⟩,b % 18446744073709551616,c),4,none):=by
  unfold addR
  rw [n1]
  dsimp only
  rw [e2.1,e2.2,hnm,if_neg (by decide),n2]
  dsimp only
  rw [n3]
  rfl
 unfold cmdR
 rw [line_v0]
 dsimp only
 rw [if_neg (by decide),if_neg (by decide),if_pos rfl,hA]
theorem cmd_merge {a b:Int} (ha:I64 a) (hb:I64 b) (E:Nat):cmdR (wpl 0 (lineW vMerge [a,b])) E=(some (.pair ⟨#[109,101,114,103,101]⟩ a b),3,none):=by
 have hn:∀ n∈[a,b],I64 n:=by
  intro n hn
  simp only [List.mem_cons,List.mem_nil_iff,or_false] at hn
  rcases hn with rfl | rfl <;> assumption
 have h:=nums_at vMerge [a,b] hn E
 unfold cmdR
 rw [line_v0]
 dsimp only
 rw [if_neg (by decide),if_neg (by decide),if_neg (by decide),if_neg (by decide),if_neg (by decide),if_neg (by decide),if_neg (by decide),if_neg (by decide),if_neg (by decide),if_neg (by decide),if_neg (by decide),if_neg (by decide),if_pos rfl,(h 0 (by simp)).2 (by simp),(h 1 (by simp)).2 (by simp),(h 2 (by simp)).1]
 rfl
theorem cmd_sub {a b:Int} (ha:I64 a) (hb:I64 b) (E:Nat):cmdR (wpl 0 (lineW vSub [a,b])) E=(some (.pair ⟨#[115,117,98,116,114,97,99,116]⟩ a b),3,none):=by
 have hn:∀ n∈[a,b],I64 n:=by
  intro n hn
  simp only [List.mem_cons,List.mem_nil_iff,or_false] at hn
  rcases hn with rfl | rfl <;> assumption
 have h:=nums_at vSub [a,b] hn E
 unfold cmdR
 rw [line_v0]
 dsimp only
 rw [if_neg (by decide),if_neg (by decide),if_neg (by decide),if_neg (by decide),if_neg (by decide),if_neg (by decide),if_neg (by decide),if_neg (by decide),if_neg (by decide),if_neg (by decide),if_neg (by decide),if_neg (by decide),if_neg (by decide),if_pos rfl,(h 0 (by simp)).2 (by simp),(h 1 (by simp)).2 (by simp),(h 2 (by simp)).1]
 rfl
theorem i3 {a b c:Int} (ha:I64 a) (hb:I64 b) (hc:I64 c):∀ n∈[a,b,c],I64 n:=by
 intro n hn
 simp only [List.mem_cons,List.mem_nil_iff,or_false] at hn
 rcases hn with rfl | rfl | rfl <;> assumption
theorem i2 {a b:Int} (ha:I64 a) (hb:I64 b):∀ n∈[a,b],I64 n:=by
 intro n hn
 simp only [List.mem_cons,List.mem_nil_iff,or_false] at hn
 rcases hn with rfl | rfl <;> assumption
theorem cmd_point {a b c:Int} (ha:I64 a) (hb:I64 b) (hc:I64 c) (E:Nat):cmdR (wpl 0 (lineW vPoint [a,b,c])) E=(some (.query ⟨#[112,111,105,110,116]⟩ a [b,c]),4,none):=by
 have h:=nums_at vPoint [a,b,c] (i3 ha hb hc) E
 unfold cmdR
 rw [line_v0]
 dsimp only
 rw [if_neg (by decide),if_neg (by decide),if_neg (by decide),if_neg (by decide),if_neg (by decide),if_neg (by decide),if_neg (by decide),if_neg (by decide),if_pos rfl,(h 0 (by simp)).2 (by simp),(h 1 (by simp)).2 (by simp),(h 2 (by simp)).2 (by simp),(h 3 (by simp)).1]
 rfl
theorem cmd_heavy {a b c:Int} (ha:I64 a) (hb:I64 b) (hc:I64 c) (E:Nat):cmdR (wpl 0 (lineW vHeavy [a,b,c])) E=(some (.query ⟨#[104,101,97,118,121]⟩ a [b,c]),4,none):=by
 have h:=nums_at vHeavy [a,b,c] (i3 ha hb hc) E
 unfold cmdR
 rw [line_v0]
 dsimp only
 rw [if_neg (by decide),if_neg (by decide),if_neg (by decide),if_neg (by decide),if_neg (by decide),if_neg (by decide),if_neg (by decide),if_neg (by decide),if_neg (by decide),if_neg (by decide),if_pos rfl,(h 0 (by simp)).2 (by simp),(h 1 (by simp)).2 (by simp),(h 2 (by simp)).2 (by simp),(h 3 (by simp)).1]
 rfl
section
variable {C:Cfg} {g:Nat→Nat→List Int}
theorem topSt_all (C:Cfg) (g:Nat→Nat→List Int):AllSt (topSt C g):=by
 intro x hx
 simp only [topSt,List.mem_cons,List.mem_nil_iff,or_false] at hx
 rcases hx with rfl | rfl | rfl <;> exact ⟨_,_,_,rfl⟩
theorem hI {h:Nat} (hh:h < 3):I64 ((h+1:Nat):Int):=by unfold I64; omega
theorem top_add {h:Nat} (hh:h < 3) {key d:Int} (hk0:0≤key) (hk:key < 64) (hd:I64 d) (he:errK C 6 (g h) key d=0) :
 LineIs (topSt C g) (lineB vAdd [((h+1:Nat):Int),key,d]) (some (repT .done),topSt C (setG g h (updK C (g h) key d))):=by
 have hkI:I64 key:=by unfold I64; omega
 have hm:key % 18446744073709551616=key:=by omega
 have h1:=DoOk.add (topSt C g) (topSt_all C g) ((h+1:Nat):Int) false ⟨#[]⟩ key d (hI hh) ⟨hk0,by omega⟩ hd
 have h2:=lineS (c:=.add ((h+1:Nat):Int) false ⟨#[]⟩ key d) (i3 (hI hh) hkI hd) (verb:=vAdd) ⟨by decide,by decide,by decide⟩ (by decide) (by decide) (by simp) (fun E=>by rw [cmd_add (hI hh) hkI hd,hm]; rfl) h1
 have e:addF (topSt C g) ((h+1:Nat):Int) false key d=((some .done,0),topSt C (setG g h (updK C (g h) key d))):=by
  unfold addF
  rw [top_find C g hh]
  dsimp only
  have e2:addT (.st C 6 (g h)) (addK (AT.st C 6 (g h)).C false key) d=(0,.st C 6 (updK C (g h) key d)):=by
   show (errK C 6 (g h) key d,_)=_
   rw [he]
   rfl
  rw [e2,if_pos rfl,top_set C g hh]
  rfl
 rw [e] at h2
 exact h2
theorem top_pair {a b:Nat} (ha:a < 3) (hb:b < 3) (f:Nat→AT→AT→(Option Rep × Int) × St):pairF (topSt C g) ((a+1:Nat):Int) ((b+1:Nat):Int) f=f (a+1) (.st C 6 (g a)) (.st C 6 (g b)):=by
 unfold pairF
 rw [top_find C g ha,top_find C g hb]
theorem top_merge {a b:Nat} (ha:a < 3) (hb:b < 3) (he:mrgE C 6 (g a) C (g b)=0) :
 LineIs (topSt C g) (lineB vMerge [((a+1:Nat):Int),((b+1:Nat):Int)]) (some (repT .done),topSt C (setG g a fun n=>plusL (g a n) (g b n))):=by
 have h2:=lineS (i2 (hI ha) (hI hb)) (verb:=vMerge) ⟨by decide,by decide,by decide⟩ (by decide) (by decide) (by simp) (fun E=>by rw [cmd_merge (hI ha) (hI hb)]; rfl) (DoOk.merge (topSt C g) _ _ (hI ha) (hI hb))
 rw [top_pair ha hb] at h2
 have e:jointF (topSt C g) (a+1) (.st C 6 (g a)) (.st C 6 (g b)) mrgE plusL=((some .done,0),topSt C (setG g a fun n=>plusL (g a n) (g b n))):=by
  show (doneF (mrgE C 6 (g a) C (g b)),if mrgE C 6 (g a) C (g b)=0 then (⟨setL (topSt C g).l (a+1) (.st C 6 fun n=>plusL (g a n) (g b n)),(topSt C g).last⟩:St) else topSt C g)=_
  rw [he,if_pos rfl,top_set C g ha]
  rfl
 rw [e] at h2
 exact h2
theorem top_sub {a b:Nat} (ha:a < 3) (hb:b < 3) (he:subE C 6 (g a) C (g b)=0) :
 LineIs (topSt C g) (lineB vSub [((a+1:Nat):Int),((b+1:Nat):Int)]) (some (repT .done),topSt C (setG g a fun n=>minusL (g a n) (g b n))):=by
 have h2:=lineS (i2 (hI ha) (hI hb)) (verb:=vSub) ⟨by decide,by decide,by decide⟩ (by decide) (by decide) (by simp) (fun E=>by rw [cmd_sub (hI ha) (hI hb)]; rfl) (DoOk.subtract (topSt C g) _ _ (hI ha) (hI hb))
 rw [top_pair ha hb] at h2
 have e:jointF (topSt C g) (a+1) (.st C 6 (g a)) (.st C 6 (g b)) subE minusL=((some .done,0),topSt C (setG g a fun n=>minusL (g a n) (g b n))):=by
  show (doneF (subE C 6 (g a) C (g b)),if subE C 6 (g a) C (g b)=0 then (⟨setL (topSt C g).l (a+1) (.st C 6 fun n=>minusL (g a n) (g b n)),(topSt C g).last⟩:St) else topSt C g)=_
  rw [he,if_pos rfl,top_set C g ha]
  rfl
 rw [e] at h2
 exact h2
theorem top_subno {a b:Nat} (ha:a < 3) (hb:b < 3) (he:subE C 6 (g a) C (g b)=3) :
 LineIs (topSt C g) (lineB vSub [((a+1:Nat):Int),((b+1:Nat):Int)]) (some (errT 3),topSt C g):=by
 have h2:=lineS (i2 (hI ha) (hI hb)) (verb:=vSub) ⟨by decide,by decide,by decide⟩ (by decide) (by decide) (by simp) (fun E=>by rw [cmd_sub (hI ha) (hI hb)]; rfl) (DoOk.subtract (topSt C g) _ _ (hI ha) (hI hb))
 rw [top_pair ha hb] at h2
 have e:jointF (topSt C g) (a+1) (.st C 6 (g a)) (.st C 6 (g b)) subE minusL=((none,3),topSt C g):=by
  show (doneF (subE C 6 (g a) C (g b)),if subE C 6 (g a) C (g b)=0 then (⟨setL (topSt C g).l (a+1) (.st C 6 fun n=>minusL (g a n) (g b n)),(topSt C g).last⟩:St) else topSt C g)=_
  rw [he,if_neg (by decide)]
  rfl
 rw [e] at h2
 exact h2
theorem top_askF {h:Nat} (hh:h < 3) (f:AT→Option Rep × Int):askF (topSt C g) ((h+1:Nat):Int) f=(f (.st C 6 (g h)),topSt C g):=by
 unfold askF
 rw [top_find C g hh]
theorem top_point {h:Nat} (hh:h < 3) {lv:Nat} (hlv:lv≤6) {i:Int} (h0:0≤i) (h1:i < keys C lv) (hi:i < 64) :
 LineIs (topSt C g) (lineB vPoint [((h+1:Nat):Int),(lv:Int),i]) (some (repT (.number (ptU C (g h) lv i))),topSt C g):=by
 have hl:I64 (lv:Int):=by unfold I64; omega
 have hi':I64 i:=by unfold I64; omega
 have h2:=lineS (i3 (hI hh) hl hi') (verb:=vPoint) ⟨by decide,by decide,by decide⟩ (by decide) (by decide) (by simp) (fun E=>by rw [cmd_point (hI hh) hl hi']; rfl) (DoOk.point (topSt C g) _ (lv:Int) i (hI hh) hl hi')
 rw [top_askF hh] at h2
 have e:pointF (.st C 6 (g h)) (lv:Int) i=(some (.number (ptU C (g h) lv i)),0):=by
  have hu:uu i=i:=by unfold uu; omega
  show numF (pointR C 6 (g h) lv (uu i)).1 (pointR C 6 (g h) lv (uu i)).2=_
  have:pointR C 6 (g h) lv (uu i)=(ptU C (g h) lv i,0):=by
   unfold pointR
   rw [hu,if_neg (by omega),if_pos h1,Int.toNat_natCast]
  rw [this]
  rfl
 rw [e] at h2
 exact h2
theorem top_heavy {h:Nat} (hh:h < 3) {least budget:Int} (hl:I64 least) (hb:I64 budget) :
 LineIs (topSt C g) (lineB vHeavy [((h+1:Nat):Int),least,budget]) (some (ansT (listF (heavyP (ptU C (g h)) least budget 6).1 (heavyP (ptU C (g h)) least budget 6).2)),topSt C g):=by
 have h2:=lineS (i3 (hI hh) hl hb) (verb:=vHeavy) ⟨by decide,by decide,by decide⟩ (by decide) (by decide) (by simp) (fun E=>by rw [cmd_heavy (hI hh) hl hb]; rfl) (DoOk.heavy (topSt C g) _ least budget (hI hh) hl hb)
 rw [top_askF hh] at h2
 exact h2
end
def preSt (C:Cfg) (k:Nat):St:=⟨(List.range k).map fun i=>(i+1,AT.st C 6 (zerosK C)),k⟩
theorem okB_of {C:Cfg} (h:C.Ok):okB C=true:=by
 have:=h.b1
 have:=h.b2
 have:=h.r1
 have:=h.r2
 have:=h.w1
 have:=h.w2
 have:=h.m1
 have:=h.m2
 unfold okB
 exact decide_eq_true (by omega)
theorem top_create {C:Cfg} (hok:C.Ok) (hb:C.bits=6) {k:Nat} (hk:k < 3) {n:Int} (hn:I64 n) (hs:n % 18446744073709551616=C.seed) :
 LineIs (preSt C k) (lineB vCreate [6,C.rows,C.width,C.mode,n]) (some (repT (.handle ((k+1:Nat):Int))),preSt C (k+1)):=by
 have a1:=hok.r1
 have a2:=hok.r2
 have a3:=hok.w1
 have a4:=hok.w2
 have a5:=hok.m1
 have a6:=hok.m2
 have hns:∀ x∈[6,C.rows,C.width,C.mode,n],I64 x:=by
  intro x hx
  simp only [List.mem_cons,List.mem_nil_iff,or_false] at hx
  rcases hx with rfl | rfl | rfl | rfl | rfl
  · unfold I64; omega
  · unfold I64; omega
  · unfold I64; omega
  · unfold I64; omega
  · exact hn
 have h1:=DoOk.create (preSt C k) ⟨6,C.rows,C.width,C.mode,C.seed⟩ hok.s (show (preSt C k).last < 1000000 by show k < _; omega)
 have h2:=lineS (S:=preSt C k) hns (verb:=vCreate) ⟨by decide,by decide,by decide⟩ (by decide) (by decide) (by simp) (fun E=>by
  rw [show cmdR (wpl 0 (lineW vCreate [6,C.rows,C.width,C.mode,n])) E=_ from cmd_create [6,C.rows,C.width,C.mode,n] rfl hns E]
  show (some (Cmd.create 6 C.rows C.width C.mode (n % 18446744073709551616)),6,none)=_
  rw [hs]
  rfl) h1
 have hC:(⟨6,C.rows,C.width,C.mode,C.seed⟩:Cfg)=C:=by rw [← hb]
 rw [hC] at h2
 have e:createF (preSt C k) C=((some (.handle ((k+1:Nat):Int)),0),preSt C (k+1)):=by
  unfold createF madeF
  rw [if_pos (okB_of hok),if_neg (by simp [preSt]; omega),hb]
  show (_,(⟨_++[(k+1,AT.st C 6 (zerosK C))],k+1⟩:St))=_
  unfold preSt
  rw [List.range_succ,List.map_append]
  rfl
 rw [e] at h2
 exact h2
theorem pre_top (C:Cfg):preSt C 3=topSt C fun _=>zerosK C:=rfl
end Go.Proofs.YtmalncfcgcebhaaGreatDoor
namespace Go.Proofs.YtmalncfcgcebhaaGreatDoor
set_option linter.unusedVariables false
open Go.Proofs Go.RowKit
def HoldS (C:Cfg) (T:Int) (g:Nat→Nat→List Int) (f:Nat→Nat→Int):Prop:=∃ ps:Nat→List (Int × Int),∀ h,h < 3→TInv C (ps h) T (g h)∧FOf (f h) (ps h)
theorem HoldS.f_bd {C:Cfg} {T:Int} {g:Nat→Nat→List Int} {f:Nat→Nat→Int} (H:HoldS C T g f) {h i:Nat} (hh:h < 3) (hi:i < 64):-T≤f h i∧f h i≤T:=by
 obtain ⟨ps,hp⟩:=H
 obtain ⟨h1,h2⟩:=hp h hh
 rw [h2 i hi]
 have:=sumIf_abs (fun k=>k == (i:Int)) (ps h)
 have:=h1.ab
 omega
def addFn (f:Nat→Nat→Int) (h k:Nat) (d:Int):Nat→Nat→Int:=fun h' i=>if h'=h∧i=k then f h' i+d else f h' i
theorem HoldS.add {C:Cfg} {T:Int} {g:Nat→Nat→List Int} {f:Nat→Nat→Int} (H:HoldS C T g f) (hok:C.Ok) (hb:C.bits=6) {h k:Nat} (hh:h < 3) (hk:k < 64) {d:Int} (hd:-T≤d∧d≤T) (hm:C.mode=2→0≤d) (hT:T≤1000000000000000000) :
 HoldS C (T+T) (setG g h (updK C (g h) (k:Int) d)) (addFn f h k d)∧errK C 6 (g h) (k:Int) d=0:=by
 obtain ⟨ps,hp⟩:=H
 obtain ⟨h1,h2⟩:=hp h hh
 refine ⟨⟨fun h'=>if h'=h then ps h++[((k:Int),d)] else ps h',fun h' hh'=>?_⟩,h1.add_ok hok hb (by omega) (by omega) hd hm (by omega)⟩
 have t0:=h1.t0
 by_cases e:h'=h
 · subst e
   unfold setG
   dsimp only
   rw [if_pos rfl,if_pos rfl]
   refine ⟨h1.upd hok hb (by omega) (by omega) hd hm,fun i hi=>?_⟩
   rw [sumIf_snoc]
   unfold addFn
   by_cases hik:i=k
   · subst hik
     rw [if_pos ⟨rfl,rfl⟩,h2 i hi]
     simp only [BEq.rfl,cond_true]
   · rw [if_neg (fun h=>hik h.2),h2 i hi]
     have:((k:Int) == (i:Int))=false:=by simp; omega
     simp only [this,cond_false,Int.add_zero]
 · unfold setG
   simp only [if_neg e]
   obtain ⟨h3,h4⟩:=hp h' hh'
   refine ⟨h3.mono (by omega),fun i hi=>?_⟩
   unfold addFn
   rw [if_neg (fun h=>e h.1)]
   exact h4 i hi
def plusFn (f:Nat→Nat→Int) (h o:Nat):Nat→Nat→Int:=fun h' i=>if h'=h then f h i+f o i else f h' i
def minusFn (f:Nat→Nat→Int) (h o:Nat):Nat→Nat→Int:=fun h' i=>if h'=h then f h i - f o i else f h' i
theorem HoldS.plus {C:Cfg} {T:Int} {g:Nat→Nat→List Int} {f:Nat→Nat→Int} (H:HoldS C T g f) (hok:C.Ok) {h o:Nat} (hh:h < 3) (ho:o < 3) (hT:T≤1000000000000000000) :
 HoldS C (T+T) (setG g h fun n=>plusL (g h n) (g o n)) (plusFn f h o)∧mrgE C 6 (g h) C (g o)=0:=by
 obtain ⟨ps,hp⟩:=H
 obtain ⟨h1,h2⟩:=hp h hh
 obtain ⟨o1,o2⟩:=hp o ho
 refine ⟨⟨fun h'=>if h'=h then ps h++ps o else ps h',fun h' hh'=>?_⟩,h1.plus_ok hok o1 (by omega)⟩
 have t0:=h1.t0
 by_cases e:h'=h
 · subst e
   unfold setG
   dsimp only
   rw [if_pos rfl,if_pos rfl]
   refine ⟨h1.plus hok o1,fun i hi=>?_⟩
   rw [sumIf_append]
   unfold plusFn
   rw [if_pos rfl,h2 i hi,o2 i hi]
 · unfold setG
   simp only [if_neg e]
   obtain ⟨h3,h4⟩:=hp h' hh'
   refine ⟨h3.mono (by omega),fun i hi=>?_⟩
   unfold plusFn
   rw [if_neg e]
   exact h4 i hi
theorem HoldS.minus {C:Cfg} {T:Int} {g:Nat→Nat→List Int} {f:Nat→Nat→Int} (H:HoldS C T g f) (hok:C.Ok) (hm:C.mode≠2) {h o:Nat} (hh:h < 3) (ho:o < 3) (hT:T≤1000000000000000000) :
 HoldS C (T+T) (setG g h fun n=>minusL (g h n) (g o n)) (minusFn f h o)∧subE C 6 (g h) C (g o)=0:=by
 obtain ⟨ps,hp⟩:=H
 obtain ⟨h1,h2⟩:=hp h hh
 obtain ⟨o1,o2⟩:=hp o ho
 refine ⟨⟨fun h'=>if h'=h then ps h++negP (ps o) else ps h',fun h' hh'=>?_⟩,h1.minus_ok hok hm o1 (by omega)⟩
 have t0:=h1.t0
 by_cases e:h'=h
 · subst e
   unfold setG
   dsimp only
   rw [if_pos rfl,if_pos rfl]
   refine ⟨h1.minus hok hm o1,fun i hi=>?_⟩
   rw [sumIf_append,sumIf_negP]
   unfold minusFn
   rw [if_pos rfl,h2 i hi,o2 i hi]
   omega
 · unfold setG
   simp only [if_neg e]
   obtain ⟨h3,h4⟩:=hp h' hh'
   refine ⟨h3.mono (by omega),fun i hi=>?_⟩
   unfold minusFn
   rw [if_neg e]
   exact h4 i hi
theorem HoldS.mono {C:Cfg} {T U:Int} {g:Nat→Nat→List Int} {f:Nat→Nat→Int} (H:HoldS C T g f) (h:T≤U):HoldS C U g f:=by
 obtain ⟨ps,hp⟩:=H
 exact ⟨ps,fun k hk=>⟨(hp k hk).1.mono h,(hp k hk).2⟩⟩
theorem HoldS.zero (C:Cfg) (T:Int) (hT:0≤T):HoldS C T (fun _=>zerosK C) (fun _ _=>0) :=
 ⟨fun _=>[],fun h _=>⟨TInv.zero T hT,fun i _=>rfl⟩⟩
structure PlAt (w:World) (N p a m:Nat) (l:List (Nat × Th)) (C:Cfg) (T:Int) (g:Nat→Nat→List Int) (f:Nat→Nat→Int):Prop where
 tw:TWAt w p a C f
 ag:AgAt w N a m l 3
 st:stOf l 3=topSt C g
 np:¬ AgF a m l p
 ok:C.Ok
 hb:C.bits=6
 hd:HoldS C T g f
 tb:Tabs w
 lo:10≤N
 lp:N≤p
theorem TWAt.keep {w w':World} {p a:Nat} {C:Cfg} {f:Nat→Nat→Int} (h:TWAt w p a C f) (hk:w'.heap[p]?=w.heap[p]?):TWAt w' p a C f:=by
 obtain ⟨cur,h1,h2⟩:=h.ex
 exact ⟨⟨cur,hk.trans h1,h2⟩,h.bd⟩
theorem PlAt.ext {w w':World} {N p a m:Nat} {l:List (Nat × Th)} {C:Cfg} {T:Int} {g:Nat→Nat→List Int} {f:Nat→Nat→Int} (h:PlAt w N p a m l C T g f) (hx:Ext w w'):PlAt w' N p a m l C T g f :=
 ⟨h.tw.keep (hx.block p h.tw.lt),h.ag.ext hx,h.st,h.np,h.ok,h.hb,h.hd,h.tb.ext hx,h.lo,h.lp⟩
structure PlPost (w:World) (N p a m:Nat) (l:List (Nat × Th)) (C:Cfg) (T:Int) (g:Nat→Nat→List Int) (f:Nat→Nat→Int) (l':List (Nat × Th)) (w':World):Prop where
 at_:PlAt w' N p a m l' C T g f
 md:Mod (AgF a m l) w w'
 fr:∀ k,AgF a m l' k→AgF a m l k∨w.heap.size≤k
theorem PlAt.ask {w:World} {N p a m:Nat} {l:List (Nat × Th)} {C:Cfg} {T:Int} {g:Nat→Nat→List Int} {f:Nat→Nat→Int} (h:PlAt w N p a m l C T g f) {s:ByteArray} {r:List UInt8} (hl:LineIs (topSt C g) s (some r,topSt C g)) :
 Calls Tryz.prog 15 #[.pointer (some ⟨a,0,none⟩),.string s] w fun e w'=>e=.returned (.tuple #[strV r,.bool true])∧∃ l',PlPost w N p a m l C T g f l' w':=by
 refine (hl w N a m l 3 h.ag h.st h.lo h.tb (by omega)).mono ?_
 rintro e w' ⟨⟨l',last',rfl,h1,h2,h3⟩,h4⟩
 have hla:last'=3:=by have:=congrArg St.last h2; exact this
 subst hla
 refine ⟨rfl,l',⟨h.tw.keep (h4.block p h.tw.lt h.np),h1,h2, ?_,h.ok,h.hb,h.hd,h.ag.tabs h.lo h.tb h4,h.lo,h.lp⟩,h4,h3⟩
 intro hp
 rcases h3 p hp with hp | hp
 · exact h.np hp
 · have:=h.tw.lt; omega
theorem PlAt.line {w:World} {N p a m:Nat} {l:List (Nat × Th)} {C:Cfg} {T:Int} {g:Nat→Nat→List Int} {f:Nat→Nat→Int} (h:PlAt w N p a m l C T g f) {s:ByteArray} {r:List UInt8} {g':Nat→Nat→List Int} (hl:LineIs (topSt C g) s (some r,topSt C g')) :
 Calls Tryz.prog 15 #[.pointer (some ⟨a,0,none⟩),.string s] w fun e w'=>e=.returned (.tuple #[strV r,.bool true])∧∃ l',AgAt w' N a m l' 3∧stOf l' 3=topSt C g'∧¬ AgF a m l' p∧TWAt w' p a C f∧Tabs w'∧Mod (AgF a m l) w w'∧∀ k,AgF a m l' k→AgF a m l k∨w.heap.size≤k:=by
 refine (hl w N a m l 3 h.ag h.st h.lo h.tb (by omega)).mono ?_
 rintro e w' ⟨⟨l',last',rfl,h1,h2,h3⟩,h4⟩
 have hla:last'=3:=by have:=congrArg St.last h2; exact this
 subst hla
 refine ⟨rfl,l',h1,h2, ?_,h.tw.keep (h4.block p h.tw.lt h.np),h.ag.tabs h.lo h.tb h4,h4,h3⟩
 intro hp
 rcases h3 p hp with hp | hp
 · exact h.np hp
 · have:=h.tw.lt; omega
theorem TWAt.set {w:World} {p a:Nat} {C:Cfg} {f:Nat→Nat→Int} (H:TWAt w p a C f) {h i:Nat} (hh:h < 3) (hi:i < 64) {v:Int} (hv:-1125899906842624≤v∧v≤1125899906842624):TWAt (w.setCell ⟨p,6+h*64+i,none⟩ (.int .i64 v)) p a C (fun h' j=>if h'=h∧j=i then v else f h' j):=by
 obtain ⟨cur,h1,a0,a1,a2,a3,a4,a5,h2⟩:=H.ex
 have hsz:6+h*64+i < cur.size:=by
  have:=h2 h i hh hi
  rcases Nat.lt_or_ge (6+h*64+i) cur.size with h' | h'
  · exact h'
  · rw [Array.getElem?_eq_none h'] at this; cases this
 have ne:∀ k,k < 6→(cur.setIfInBounds (6+h*64+i) (.int .i64 v))[k]?=cur[k]?:=fun k hk=>Array.getElem?_setIfInBounds_ne (by omega)
 refine ⟨⟨_,setCell_same h1 _ _,(ne 0 (by decide)).trans a0,(ne 1 (by decide)).trans a1,(ne 2 (by decide)).trans a2,(ne 3 (by decide)).trans a3,(ne 4 (by decide)).trans a4,(ne 5 (by decide)).trans a5,fun h' j hh' hj=>?_⟩,fun h' j hh' hj=>?_⟩
 · by_cases e:h'=h∧j=i
   · obtain ⟨rfl,rfl⟩:=e
     rw [if_pos ⟨rfl,rfl⟩,Array.getElem?_setIfInBounds_self_of_lt hsz]
   · rw [if_neg e,Array.getElem?_setIfInBounds_ne (by omega)]
     exact h2 h' j hh' hj
 · by_cases e:h'=h∧j=i
   · rw [if_pos e]; exact hv
   · rw [if_neg e]; exact H.bd h' j hh' hj
theorem TWAt.frz {w:World} {p a:Nat} {C:Cfg} {f:Nat→Nat→Int} (H:TWAt w p a C f) (k:Nat):w.frozen? ⟨p,k,none⟩=false:=by
 obtain ⟨cur,h1,_⟩:=H.ex
 exact frozen_of h1 k
end Go.Proofs.YtmalncfcgcebhaaGreatDoor
