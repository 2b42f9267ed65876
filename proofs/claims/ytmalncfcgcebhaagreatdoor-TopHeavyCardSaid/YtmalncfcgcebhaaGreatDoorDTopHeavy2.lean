/- Part. No condition. -/
import Derived.Test.YtmalncfcgcebhaaGreatDoorDTopHeavy1
import Derived.Deep.LoopGhost
namespace Go.Proofs.YtmalncfcgcebhaaGreatDoor
open Go.RowKit
def IsKth (l:List Int) (k:Nat) (x:Int):Prop:=(lessL x l).length≤k∧k < (lessL x l).length+sameN x l
theorem own_len {w:World} {base:Nat} {e:TypeId} {v:Value} {n:Nat} {xs:List Value} (h:w.ownsRow base e 1 v n xs):∃ p c,v=.slice p n c:=by
 rcases h.2 with ⟨rfl,rfl⟩ | ⟨g,cap,cur,rfl,_⟩
 · exact ⟨_,_,rfl⟩
 · exact ⟨_,_,rfl⟩
theorem filter_filter_len (p q:Int→Bool) (l:List Int) (h:∀ x∈l,p x=true→q x=true):(List.filter p (List.filter q l)).length=(List.filter p l).length:=by
 rw [List.filter_filter]
 congr 1
 apply List.filter_congr
 intro x hx
 cases hp:p x with
 | false=>simp
 | true=>simp [h x hx hp]
theorem sameN_pos {x:Int} {l:List Int} (h:0 < sameN x l):x∈l:=by
 unfold sameN at h
 obtain ⟨y,hy⟩:=List.exists_mem_of_length_pos h
 simp only [List.mem_filter,decide_eq_true_eq] at hy
 rw [← hy.2]; exact hy.1
theorem kth_less {l:List Int} {k:Nat} {y x:Int} (h:IsKth (lessL y l) k x):IsKth l k x:=by
 have hx:x∈lessL y l:=sameN_pos (by have:=h.1; have:=h.2; omega)
 have hxy:x < y:=by unfold lessL at hx; simpa using (List.mem_filter.1 hx).2
 have e1:(lessL x (lessL y l)).length=(lessL x l).length:=filter_filter_len _ _ _ (fun z _ hz=>decide_eq_true (Int.lt_trans (of_decide_eq_true hz) hxy))
 have e2:sameN x (lessL y l)=sameN x l:=filter_filter_len _ _ _ (fun z _ hz=>decide_eq_true (by have:=of_decide_eq_true hz; omega))
 unfold IsKth at *
 rw [e1,e2] at h
 exact h
theorem less_cons (x z:Int) (l:List Int):(lessL x (z :: l)).length=(lessL x l).length+(if z < x then 1 else 0):=by
 unfold lessL; rw [List.filter_cons]; by_cases h:z < x <;> simp [h]
theorem same_cons (x z:Int) (l:List Int):sameN x (z :: l)=sameN x l+(if z=x then 1 else 0):=by
 unfold sameN; rw [List.filter_cons]; by_cases h:z=x <;> simp [h]
theorem more_cons (x z:Int) (l:List Int):moreL x (z :: l)=if x < z then z :: moreL x l else moreL x l:=by
 unfold moreL; rw [List.filter_cons]; by_cases h:x < z <;> simp [h]
theorem less_split (x y:Int) (h:y < x) (l:List Int):(lessL x l).length=(lessL y l).length+sameN y l+(lessL x (moreL y l)).length:=by
 induction l with
 | nil=>rfl
 | cons z l ih =>
   rw [less_cons,less_cons,same_cons,more_cons]
   by_cases h3:y < z
   · rw [if_pos h3,less_cons,if_neg (show ¬ z < y by omega),if_neg (show ¬ z=y by omega)]; omega
   · rw [if_neg h3]
     by_cases h2:z=y
     · rw [if_pos h2,if_pos (show z < x by omega),if_neg (show ¬ z < y by omega)]; omega
     · rw [if_neg h2,if_pos (show z < x by omega),if_pos (show z < y by omega)]; omega
theorem kth_more {l:List Int} {k:Nat} {y x:Int} (hk:(lessL y l).length+sameN y l≤k) (h:IsKth (moreL y l) (k - ((lessL y l).length+sameN y l)) x):IsKth l k x:=by
 have hx:x∈moreL y l:=sameN_pos (by have:=h.1; have:=h.2; omega)
 have hxy:y < x:=by unfold moreL at hx; simpa using (List.mem_filter.1 hx).2
 have e1:=less_split x y hxy l
 have e2:sameN x (moreL y l)=sameN x l:=filter_filter_len _ _ _ (fun z _ hz=>decide_eq_true (by have:=of_decide_eq_true hz; omega))
 unfold IsKth at *
 rw [e2] at h
 omega
theorem same_mem {y:Int} {l:List Int} (h:y∈l):0 < sameN y l:=by
 unfold sameN
 exact List.length_pos_of_mem (List.mem_filter.2 ⟨h,by simp⟩)
theorem less_le_less {l:List Int} {x y:Int} (h:x < y):(lessL x l).length+sameN x l≤(lessL y l).length:=by
 induction l with
 | nil=>simp [lessL,sameN]
 | cons z l ih =>
   rw [less_cons,same_cons,less_cons]
   by_cases h1:z < x
   · rw [if_pos h1,if_neg (by omega),if_pos (by omega)]; omega
   · by_cases h2:z=x
     · rw [if_neg h1,if_pos h2,if_pos (by omega)]; omega
     · rw [if_neg h1,if_neg h2]; omega
theorem kth_unique {l:List Int} {k:Nat} {x y:Int} (hx:IsKth l k x) (hy:IsKth l k y):x=y:=by
 rcases Int.lt_trichotomy x y with h | h | h
 · have:=less_le_less (l:=l) h; have:=hx.2; have:=hy.1; omega
 · exact h
 · have:=less_le_less (l:=l) h; have:=hy.2; have:=hx.1; omega
def KthPost (w:World) (l:List Int) (k:Nat) (e:Ending) (w':World):Prop:=∃ x,e=.returned (.tuple #[.int .i64 x,.bool true])∧IsKth l k x∧Ext w w'
set_option maxRecDepth 20000 in
set_option maxHeartbeats 2000000 in
theorem Kth_c (v:Value) (k0:Nat) (l:List Int) (w:World) (hv:IntsAt w v l) (hk0:k0 < l.length) (hl:l.length≤1000000) :
 Calls Tryz.prog 338 #[v,.int .i64 k0] w (KthPost w l k0):=by
 have hsl:∃ g off cap,v=.slice (some ⟨g,off,none⟩) l.length cap:=by
  rcases hv with ⟨_,rfl⟩ | ⟨g,off,cap,h1,_⟩
  · simp at hk0
  · exact ⟨g,off,cap,h1⟩
 obtain ⟨g0,off0,cap0,rfl⟩:=hsl
 have hsl:=hl
 have d0:decide (l.length≤k0)=false:=by simp; omega
 have d1:decide ((k0:Int) < 0)=false:=by simp
 generalize hn:l.length=n at *
 have HN:=Lib.hid hn
 have HV:=Lib.hid hv
 clear hv hn
 go_enter Tryz.func338,Tryz.ntmps338
 go_wp2
 go_step3
 go_wp2
 go_step3
 go_wp2
 go_loopg [1] n (fun g u wr=>∃ (k:Nat) (ls:List Int) (vs:Value),u=.int .i64 k∧k < ls.length∧ls.length≤g∧ls.length≤1000000∧IntsAt wr vs ls∧wr.heap[w.heap.size]?=some (.cells #[vs] 438 (0,0))∧Ext w wr∧w.heap.size < wr.heap.size∧∀ x,IsKth ls k x→IsKth l k0 x)
 case atStart =>
  refine ⟨k0,l,_,rfl,by rw [HN.out]; exact hk0,by rw [HN.out]; exact Nat.le_refl _,by rw [HN.out]; exact hl,HV.out.ext (Ext.alloc' _ _),heap_at _ _ rfl,Ext.alloc' _ _,by rw [size_alloc]; omega,fun _ h=>h⟩
 case round =>
  obtain ⟨k,ls,vs,rfl,hk,hg,hls,hi,hb,hx,hsz,himp⟩:=hrel
  obtain ⟨gs,os,cs,rfl,hgs,hcs⟩:∃ g off cap,vs=.slice (some ⟨g,off,none⟩) ls.length cap∧g < wr.heap.size∧∀ k,k < ls.length→wr.cell? ⟨g,off+k,none⟩=some (.int .i64 (ls.getD k 0)):=by
   rcases hi with ⟨_,rfl⟩ | h
   · simp at hk
   · exact h
  have hmid:ls.length / 2 < ls.length:=by omega
  have c1:=hcs _ hmid
  have hym:ls.getD (ls.length / 2) 0∈ls:=getD_mem hmid
  generalize ls.getD (ls.length / 2) 0=y at c1 hym
  have c2:=cell_of hb 0
  simp at c2
  have HB:=Lib.hid hb
  have HI:=Lib.hid hi
  have HM:=Lib.hid himp
  have hls0:0 < ls.length:=by omega
  generalize hm:ls.length=m at *
  have HMM:=Lib.hid hm
  clear hm hb hi himp hcs
  go_wp2_with fail
  refine (part_c _ y ls _ HI.out (by rw [HMM.out]; exact hls0) (by rw [HMM.out]; exact hls)).mono ?_
  rintro e w1 ⟨v1,v2,rfl,o1,o2,hx1⟩
  have hpl:=parts_len y ls
  have hsp:=same_mem hym
  obtain ⟨p1,k1,rfl⟩:=own_len o1
  obtain ⟨p2,k2,rfl⟩:=own_len o2
  have L1:=fun (u:Value) (x1 x2:Obj)=>IntsAt.of_row (((ownsRow_setCell_below o1 (a:=⟨w.heap.size,0,none⟩) (by exact hsz) u).alloc x1).alloc x2)
  have L2:=fun (u:Value) (x1 x2:Obj)=>IntsAt.of_row (((ownsRow_setCell_below o2 (a:=⟨w.heap.size,0,none⟩) (by exact hsz) u).alloc x1).alloc x2)
  have T1:k < (lessL y ls).length→∀ x,IsKth (lessL y ls) k x→IsKth l k0 x:=fun _ x hx=>HM.out x (kth_less hx)
  have T2:(lessL y ls).length≤k→k < (lessL y ls).length+sameN y ls→IsKth l k0 y:=fun h1 h2=>HM.out y ⟨h1,h2⟩
  have T3:(lessL y ls).length+sameN y ls≤k→∀ x,IsKth (moreL y ls) (k - ((lessL y ls).length+sameN y ls)) x→IsKth l k0 x:=fun h x hx=>HM.out x (kth_more h hx)
  have X1:=Lib.hid T1
  have X2:=Lib.hid T2
  have X3:=Lib.hid T3
  have Y1:=Lib.hid L1
  have Y2:=Lib.hid L2
  clear T1 T2 T3 L1 L2 o1 o2
  generalize ha:lessL y ls=la at *
  generalize hb:moreL y ls=lb at *
  generalize hs:sameN y ls=sn at *
  generalize hal:la.length=a at *
  generalize hbl:lb.length=b at *
  rw [HMM.out] at hpl
  have Z:=Lib.hid hpl
  have za:a+sn+b≤m:=by omega
  have zb:m≤a+sn+b:=by omega
  have hsz1:=hx1.size
  have hb1:=hx1.keep HB.out
  have q1:=cell_of hb1 0
  simp at q1
  have q2:=frozen_of hb1 0
  have HB1:=Lib.hid hb1
  have HA:=Lib.hid hal
  have HBL:=Lib.hid hbl
  have hw1:Ext w w1:=hx.trans' hx1
  have hlt1:w.heap.size < w1.heap.size:=by omega
  have hlt2:w.heap.size < w1.heap.size+1:=by omega
  have ka:a≤1000000:=by omega
  have kb:sn≤1000000:=by omega
  clear hpl hb1 c2 c1 ha hb hs hal hbl hx1
  by_cases d1:k < a
  · go_wp2
    go_roundg a
    case measure=>omega
    case rel =>
     refine ⟨k,la,.slice p1 a k1,rfl,by rw [HA.out]; exact d1,by rw [HA.out]; exact Nat.le_refl _,by rw [HA.out]; exact ka,Y1.out _ _ _, ?_, ?_, ?_,X1.out d1⟩
     · rw [heap_old _ _ (by simp only [size_alloc,size_setCell]; omega),heap_old _ _ (by simp only [size_setCell]; omega),setCell_same HB1.out]; rfl
     · exact ((hw1.setR (Nat.le_refl _) _).allocR _).allocR _
     · simp only [size_alloc,size_setCell]; omega
  · by_cases d2:k < a+sn
    · go_wp2
      rw [Exit.noGoto_ret]
      go_ret2
      refine ⟨y,rfl,X2.out (by omega) d2,by (repeat' (first | exact Ext.refl _ | assumption | apply Ext.allocR | apply Ext.drewR | apply Ext.drewNR | (refine Ext.trans' ?_ (by assumption))))⟩
    · go_wp2
      go_roundg b
      case measure=>omega
      case rel =>
       refine ⟨k - (a+sn),lb,.slice p2 b k2, ?_,by rw [HBL.out]; omega,by rw [HBL.out]; exact Nat.le_refl _,by rw [HBL.out]; omega,Y2.out _ _ _, ?_, ?_, ?_,X3.out (by omega)⟩
       · congr 1; omega
       · rw [heap_old _ _ (by simp only [size_alloc,size_setCell]; omega),heap_old _ _ (by simp only [size_setCell]; omega),setCell_same HB1.out]; rfl
       · exact ((hw1.setR (Nat.le_refl _) _).allocR _).allocR _
       · simp only [size_alloc,size_setCell]; omega
end Go.Proofs.YtmalncfcgcebhaaGreatDoor
namespace Go.Proofs.YtmalncfcgcebhaaGreatDoor
open Go.RowKit
structure Meets (R W:Nat) (cs:List Int):Prop where
 len:cs.length=R
 lo:∀ k,k < R→0≤cs.getD k 0
 hi:∀ k,k < R→cs.getD k 0 < W
def at_ (W:Nat) (cs:List Int) (k:Nat):Nat:=k*W+(cs.getD k 0).toNat
def readL (W:Nat) (l cs:List Int):List Int:=(List.range cs.length).map fun k=>l.getD (at_ W cs k) 0
theorem readL_len (W:Nat) (l cs:List Int):(readL W l cs).length=cs.length:=by simp [readL]
theorem readL_get {W:Nat} {l cs:List Int} {k:Nat} (h:k < cs.length):(readL W l cs).getD k 0=l.getD (at_ W cs k) 0:=by
 simp [readL,h]
theorem IntsAt.slice {w:World} {v:Value} {xs:List Int} (h:IntsAt w v xs) (hx:0 < xs.length):∃ g off cap,v=.slice (some ⟨g,off,none⟩) xs.length cap∧g < w.heap.size∧∀ k,k < xs.length→w.cell? ⟨g,off+k,none⟩=some (.int .i64 (xs.getD k 0)):=by
 rcases h with ⟨_,rfl⟩ | h
 · simp at hx
 · exact h
set_option maxRecDepth 20000 in
set_option maxHeartbeats 2000000 in
theorem meet_c (b c R W:Nat) (l cs:List Int) (v:Value) (w:World) (h:GAt w b c R W l) (hv:IntsAt w v cs) (hm:Meets R W cs) :
 Calls Tryz.prog 332 #[.pointer (some ⟨b,0,none⟩),v] w fun e w'=>e=.returned (.bool true)∧w=w':=by
 have r1:=h.r1
 have r2:=h.r2
 obtain ⟨g,off,cap,rfl,hg,hc⟩:=hv.slice (by rw [hm.len]; omega)
 rw [hm.len] at *
 have HC:=Lib.hid hc
 have g1:decide ((R:Int) < 1)=false:=by simp; omega
 clear hc
 go_enter Tryz.func332,Tryz.ntmps332
 go_wp2_with (go_at_call 337; refine (Rows_c b c R W l _ h).mono ?_; rintro e w' ⟨rfl,rfl⟩)
 go_loop [23] (fun u=>∃ k:Nat,k≤R∧u=.int .i64 k) (fun u=>R - (intOf u).toNat)
 case atStart=>exact ⟨0,Nat.zero_le _,rfl⟩
 case round =>
  obtain ⟨k,hk,rfl⟩:=hrel
  by_cases hlt:k < R
  · have d:=HC.out k hlt
    have l1:=hm.lo k hlt
    have l2:=hm.hi k hlt
    generalize cs.getD k 0=y at d l1 l2
    have g2:decide (y < 0)=false:=by simp; omega
    have g3:decide ((W:Int)≤y)=false:=by simp; omega
    go_wp2_with (go_at_call 319; refine (Width_c b c R W l _ h).mono ?_; rintro e w' ⟨rfl,rfl⟩)
    go_round
    case rel=>exact ⟨k+1,by omega,by go_num⟩
    case measure=>simp [intOf]; omega
  · go_wp2
    go_ret
    exact ⟨rfl,rfl⟩
def ReadPost (w:World) (W:Nat) (l cs:List Int) (e:Ending) (w':World):Prop :=
 ∃ v,e=.returned (.tuple #[v,.int .i64 0])∧w'.ownsRow w.heap.size 2 1 v cs.length (ints (readL W l cs))∧Ext w w'
set_option maxRecDepth 20000 in
set_option maxHeartbeats 2000000 in
theorem Read_c (b c R W:Nat) (l cs:List Int) (v:Value) (w:World) (h:GAt w b c R W l) (hv:IntsAt w v cs) (hm:Meets R W cs) :
 Calls Tryz.prog 327 #[.pointer (some ⟨b,0,none⟩),v] w (ReadPost w W l cs):=by
 have r1:=h.r1
 have r2:=h.r2
 obtain ⟨g,off,cap,rfl,hg,hc⟩:=hv.slice (by rw [hm.len]; omega)
 have HL:=Lib.hid hm.len
 rw [hm.len] at hc hv ⊢
 have HV:=Lib.hid hv
 have HC:=Lib.hid hc
 obtain ⟨ii,hi,hz0,hz1,hz2⟩:=info_parts info_i64
 have hmk:=fun (x:World)=>run_make_ints 47 2 ii Tryz.underlying47 hi hz0 hz1 hz2 R (by omega) (fun k=>l.getD (at_ W cs k) 0) x
 clear hc hi hz0 hz1 hz2 hv
 go_enter Tryz.func327,Tryz.ntmps327
 go_wp2_with (go_at_call 332; refine (meet_c b c R W l cs _ _ h HV.out hm).mono ?_; rintro e w' ⟨rfl,rfl⟩)
 clear hmk
 go_loopw [18] (fun u wr=>∃ k:Nat,k≤R∧u=.int .i64 k∧Ext w wr∧w.heap.size < wr.heap.size∧wr.heap[w.heap.size]?=some (.cells (fillA (fun k=>l.getD (at_ W cs k) 0) k R) 2 (0,0))) (fun u _=>R - (intOf u).toNat)
 case atStart=>exact ⟨0,Nat.zero_le _,rfl,Ext.alloc' _ _,by rw [size_alloc]; omega,heap_at _ _ rfl⟩
 case round =>
  obtain ⟨k,hk,rfl,hx,hsz,hg2⟩:=hrel
  by_cases hlt:k < R
  · have d:=((bcell hx).1 g (off+k) hg).trans (HC.out k hlt)
    have l1:=hm.lo k hlt
    have l2:=hm.hi k hlt
    have hat:at_ W cs k=k*W+(cs.getD k 0).toNat:=rfl
    have HA:=Lib.hid hat
    clear hat
    generalize cs.getD k 0=y at d l1 l2 HA
    obtain ⟨y,rfl⟩:=Int.eq_ofNat_of_zero_le l1
    obtain ⟨v0,d0⟩:∃ v0,wr.cell? ⟨w.heap.size,k,none⟩=some v0:=⟨_,(cell_of hg2 k).trans (fillA_at _ _ _ _ hlt)⟩
    have d1:=frozen_of hg2 k
    have HG:=Lib.hid hg2
    clear hg2
    go_wp2_with (go_at_call 320; refine (At_c b c R W l _ (h.ext hx) k y hlt (by omega)).mono ?_; rintro e w' ⟨rfl,rfl⟩)
    go_roundw
    case rel =>
     refine ⟨k+1,by omega,by go_num,hx.setR (Nat.le_refl _) _,by rw [size_setCell]; exact hsz, ?_⟩
     have e1:at_ W cs k=k*W+y:=HA.out
     rw [setCell_same HG.out,← fillA_set,e1]
     rfl
    case measure=>simp [intOf]; omega
  · have HG:=Lib.hid hg2
    clear hg2
    go_wp2
    go_ret2
    obtain rfl:k=R:=by omega
    refine ⟨_,rfl, ?_,hx⟩
    rw [HL.out]
    exact ownsRow_of HG.out (Nat.le_refl _) (Nat.le_refl _) (by unfold maxLen; omega) (fillA_size _ _ _) (by rw [fillA_done]; unfold readL; rw [HL.out]; exact List.take_of_length_le (by simp [ints]))
end Go.Proofs.YtmalncfcgcebhaaGreatDoor
namespace Go.Proofs.YtmalncfcgcebhaaGreatDoor
open Go.RowKit
def putK (W:Nat) (cs:List Int) (f:Nat→Int):Nat→List Int→List Int
 | 0,l=>l
 | k+1,l=>(putK W cs f k l).set (at_ W cs k) (f k)
theorem putK_len (W:Nat) (cs:List Int) (f:Nat→Int) (k:Nat) (l:List Int):(putK W cs f k l).length=l.length:=by
 induction k with
 | zero=>rfl
 | succ k ih=>rw [putK,List.length_set,ih]
def mixL (f g:Nat→Int) (k n:Nat):List Int:=(List.range n).map fun j=>if j < k then f j else g j
theorem mixL_len (f g:Nat→Int) (k n:Nat):(mixL f g k n).length=n:=by simp [mixL]
theorem mixL_get (f g:Nat→Int) {k n j:Nat} (h:j < n):(mixL f g k n).getD j 0=if j < k then f j else g j:=by simp [mixL,h]
theorem mixL_set (f g:Nat→Int) {k n:Nat}:(mixL f g k n).set k (f k)=mixL f g (k+1) n:=by
 apply List.ext_getElem
 · simp [mixL]
 · intro j h1 h2
   simp only [mixL,List.length_set,List.length_map,List.length_range] at h1
   rw [List.getElem_set]
   simp only [mixL,List.getElem_map,List.getElem_range]
   by_cases e:k=j
   · subst e; simp
   · rw [if_neg e]
     by_cases h:j < k
     · rw [if_pos h,if_pos (by omega)]
     · rw [if_neg h,if_neg (by omega)]
theorem mixL_zero (f g:Nat→Int) (n:Nat):mixL f g 0 n=(List.range n).map g:=by simp [mixL]
theorem mcell {S:Nat→Prop} {w w':World} (h:Mod S w w') {b:Nat} (hb:b < w.heap.size) (hs:¬ S b) (o:Nat):w'.cell? ⟨b,o,none⟩=w.cell? ⟨b,o,none⟩ :=
 World.cell?_of_block (a:=⟨b,o,none⟩) (h.block b hb hs)
def fitsAll (W:Nat) (cs l:List Int) (d:Int) (R:Nat):Prop:=∀ k,k < R→I64 (l.getD (at_ W cs k) 0+d)
def ChangePost (w:World) (b c R W:Nat) (cs l:List Int) (d:Int) (e:Ending) (w':World):Prop :=
 (fitsAll W cs l d R∧e=.returned (.int .i64 0)∧GAt w' b c R W (putK W cs (fun k=>l.getD (at_ W cs k) 0+d) R l)∧Mod (fun k=>k=c) w w') ∨
 (¬ fitsAll W cs l d R∧e=.returned (.int .i64 4)∧Ext w w')
theorem getD_i64 {l:List Int} (h:∀ x∈l,I64 x) (k:Nat):I64 (l.getD k 0):=by
 rcases Nat.lt_or_ge k l.length with h' | h'
 · exact h _ (getD_mem h')
 · rw [show l.getD k 0=0 by simp [h']]; unfold I64; omega
set_option maxRecDepth 20000 in
set_option maxHeartbeats 2000000 in
theorem Change_c (b c R W:Nat) (l cs:List Int) (v:Value) (d:Int) (w:World) (h:GAt w b c R W l) (hI:∀ x∈l,I64 x) (hd:I64 d) (hv:IntsAt w v cs) (hm:Meets R W cs)
 (hne:∀ g off n cap,v=.slice (some ⟨g,off,none⟩) n cap→g≠c) :
 Calls Tryz.prog 331 #[.pointer (some ⟨b,0,none⟩),v,.int .i64 d] w (ChangePost w b c R W cs l d):=by
 have r1:=h.r1
 have r2:=h.r2
 obtain ⟨g,off,cap,rfl,hg,hc⟩:=hv.slice (by rw [hm.len]; omega)
 have hgc:=hne _ _ _ _ rfl
 rw [hm.len] at hc hv ⊢
 have HV:=Lib.hid hv
 have HC:=Lib.hid hc
 clear hc hv hne
 go_enter Tryz.func331,Tryz.ntmps331
 go_wp2_with fail
 refine (Read_c b c R W l cs _ _ h HV.out hm).mono ?_
 rintro e w1 ⟨v1,rfl,ho,hx1⟩
 obtain ⟨g1,cap1,rfl,hg1,hca⟩:=CAt.of_row ho (by rw [hm.len]; omega)
 rw [readL_len,hm.len]
 have hca0:CAt w1 g1 cap1 (mixL (fun k=>l.getD (at_ W cs k) 0+d) (fun k=>l.getD (at_ W cs k) 0) 0 R):=by
  rw [mixL_zero]; have:=hca; unfold readL at this; rw [hm.len] at this; exact this
 have hlt1:=hca.lt
 have hle:=hca.le
 rw [readL_len,hm.len] at hle
 have hmx:=hca.mx
 unfold maxLen at hmx
 clear hca ho
 have hgl:=h.ltc
 go_wp2
 go_loopw [26] (fun u wr=>∃ k:Nat,k≤R∧u=.int .i64 k∧Ext w wr∧w1.heap.size≤wr.heap.size∧CAt wr g1 cap1 (mixL (fun k=>l.getD (at_ W cs k) 0+d) (fun k=>l.getD (at_ W cs k) 0) k R)∧∀ j,j < k→I64 (l.getD (at_ W cs j) 0+d)) (fun u _=>R - (intOf u).toNat)
 case atStart=>exact ⟨0,Nat.zero_le _,rfl,hx1,Nat.le_refl _,hca0,fun j hj=>absurd hj (Nat.not_lt_zero _)⟩
 case round =>
  obtain ⟨k,hk,rfl,hx,hsz,hC,hall⟩:=hrel
  have HALL:=Lib.hid hall
  clear hall hca0
  by_cases hlt:k < R
  · have d0:=hC.cell (i:=k) (by rw [mixL_len]; exact hlt)
    rw [mixL_get _ _ hlt,if_neg (Nat.lt_irrefl _)] at d0
    have hyI:=getD_i64 hI (at_ W cs k)
    obtain ⟨y,hy⟩:∃ y,l.getD (at_ W cs k) 0=y:=⟨_,rfl⟩
    rw [hy] at d0 hyI
    have HY:=Lib.hid hy
    clear hy
    by_cases hfit:I64 (y+d)
    · have fb:=fitB_yes hfit
      have fn:=fitN_yes hfit
      go_wp2_with fail
      refine (Plus_c y d hyI hd _).mono ?_
      rintro e w2 ⟨rfl,hb2⟩
      have hC2:=hC.keep (hb2.block g1 hC.lt)
      have e0:=hC2.cell (i:=k) (by rw [mixL_len]; exact hlt)
      rw [mixL_get _ _ hlt,if_neg (Nat.lt_irrefl _),HY.out] at e0
      have e1:=hC2.frozen k
      have hset:=hC2.set (i:=k) (by rw [mixL_len]; exact hlt) (y+d)
      have hsz2:=hb2.size
      go_wp2
      go_roundw
      case rel =>
       refine ⟨k+1,by omega,by go_num,(hx.trans' hb2).setR hg1 _,by rw [size_setCell]; omega, ?_,fun j hj=>?_⟩
       · have:=mixL_set (fun k=>l.getD (at_ W cs k) 0+d) (fun k=>l.getD (at_ W cs k) 0) (k:=k) (n:=R)
         rw [← this]
         show CAt _ _ _ (List.set _ k (l.getD (at_ W cs k) 0+d))
         rw [HY.out]
         exact hset
       · rcases Nat.lt_or_eq_of_le (Nat.le_of_lt_succ hj) with h' | rfl
         · exact HALL.out j h'
         · rw [HY.out]; exact hfit
      case measure=>simp [intOf]; omega
    · have fb:=fitB_no hfit
      go_wp2_with fail
      refine (Plus_c y d hyI hd _).mono ?_
      rintro e w2 ⟨rfl,hb2⟩
      go_wp2
      go_ret
      exact .inr ⟨fun ha=>hfit (by rw [← HY.out]; exact ha k hlt),rfl,hx.trans' hb2⟩
  · have hkR:R≤k:=by omega
    obtain rfl:k=R:=by omega
    have hM:Mod (fun j=>j=c) w wr:=hx.mod _
    have hG:GAt wr b c k W (putK W cs (fun k=>l.getD (at_ W cs k) 0+d) 0 l):=h.ext hx
    have hcw:CAt wr g1 cap1 (mixL (fun k=>l.getD (at_ W cs k) 0+d) (fun k=>l.getD (at_ W cs k) 0) k k):=hC
    clear hC
    go_wp2
    go_loopw [46] (fun u w2=>∃ j:Nat,j≤k∧u=.int .i64 j∧Mod (fun i=>i=c) w w2∧CAt w2 g1 cap1 (mixL (fun k=>l.getD (at_ W cs k) 0+d) (fun k=>l.getD (at_ W cs k) 0) k k)∧GAt w2 b c k W (putK W cs (fun k=>l.getD (at_ W cs k) 0+d) j l)) (fun u _=>k - (intOf u).toNat)
    case atStart=>exact ⟨0,Nat.zero_le _,rfl,hM,hcw,hG⟩
    case round =>
     clear hM hcw hG hx
     obtain ⟨j,hj,rfl,hM,hcw,hG⟩:=hrel
     by_cases hlt2:j < k
     · have d0:=hcw.cell (i:=j) (by rw [mixL_len]; exact hlt2)
       rw [mixL_get _ _ hlt2,if_pos hlt2] at d0
       have dc:=(mcell hM hg hgc (off+j)).trans (HC.out j hlt2)
       have l1:=hm.lo j hlt2
       have l2:=hm.hi j hlt2
       have hat:at_ W cs j=j*W+(cs.getD j 0).toNat:=rfl
       obtain ⟨z,hz⟩:∃ z,l.getD (at_ W cs j) 0+d=z:=⟨_,rfl⟩
       simp only [hz] at d0
       have HA:=Lib.hid hat
       have HZ:=Lib.hid hz
       clear hat hz
       generalize cs.getD j 0=y at dc l1 l2 HA
       obtain ⟨y,rfl⟩:=Int.eq_ofNat_of_zero_le l1
       have hyW:y < W:=by omega
       go_wp2_with fail
       refine (Put_c b c k W _ _ hG j y hlt2 hyW z).mono ?_
       rintro e w' ⟨rfl,rfl⟩
       go_wp2
       go_roundw
       case rel =>
        have hlen:j*W+y < (putK W cs (fun k=>l.getD (at_ W cs k) 0+d) j l).length:=by rw [hG.len]; exact idx_lt hlt2 hyW
        refine ⟨j+1,by omega,by go_num,hM.trans (mod_set _ _ _ _),hcw.keep (setCell_other _ _ (by omega)), ?_⟩
        have e1:at_ W cs j=j*W+y:=HA.out
        show GAt _ b c k W ((putK W cs _ j l).set (at_ W cs j) (l.getD (at_ W cs j) 0+d))
        rw [HZ.out,e1]
        exact hG.set hlen z
       case measure=>simp [intOf]; omega
     · go_wp2
       go_ret
       obtain rfl:j=k:=by omega
       exact .inl ⟨HALL.out,rfl,hG,hM⟩
end Go.Proofs.YtmalncfcgcebhaaGreatDoor
namespace Go.Proofs.YtmalncfcgcebhaaGreatDoor
open Go.RowKit
set_option maxHeartbeats 1000000 in
theorem Min_c (v:Value) (l:List Int) (w:World) (hv:IntsAt w v l) (h0:0 < l.length) (hl:l.length≤1000000) :
 Calls Tryz.prog 333 #[v] w (KthPost w l 0):=by
 go_enter Tryz.func333,Tryz.ntmps333
 go_wp2_with fail
 refine (Kth_c v 0 l _ hv h0 hl).mono ?_
 rintro e w1 ⟨x,rfl,hk,hx⟩
 go_wp2
 go_ret2
 exact ⟨x,rfl,hk,hx⟩
set_option maxHeartbeats 1000000 in
theorem Median_c (v:Value) (l:List Int) (w:World) (hv:IntsAt w v l) (h0:0 < l.length) (hl:l.length≤1000000) :
 Calls Tryz.prog 335 #[v] w (KthPost w l ((l.length - 1) / 2)):=by
 have HV:=Lib.hid hv
 obtain ⟨g,off,cap,rfl,_⟩:=hv.slice h0
 have e1:(((l.length - 1) / 2:Nat):Int)=((l.length:Int) - 1) / 2:=by omega
 have E1:=Lib.hid e1
 clear e1 hv
 generalize hn:l.length=n at *
 have HN:=Lib.hid hn
 clear hn
 go_enter Tryz.func335,Tryz.ntmps335
 go_wp2_with fail
 rw [← E1.out]
 refine (Kth_c _ ((n - 1) / 2) l _ HV.out (by rw [HN.out]; omega) (by rw [HN.out]; exact hl)).mono ?_
 rintro e w1 ⟨x,rfl,hk,hx⟩
 go_wp2
 go_ret2
 exact ⟨x,rfl,hk,hx⟩
def TellPost (w:World) (W:Nat) (l cs:List Int) (k:Nat) (e:Ending) (w':World):Prop:=∃ x,e=.returned (.tuple #[.int .i64 x,.int .i64 0])∧IsKth (readL W l cs) k x∧Ext w w'
set_option maxRecDepth 20000 in
set_option maxHeartbeats 1000000 in
theorem of_min (b c R W:Nat) (l cs:List Int) (v:Value) (w:World) (h:GAt w b c R W l) (hv:IntsAt w v cs) (hm:Meets R W cs) :
 Calls Tryz.prog 334 #[.agg #[.func (.func 333) #[] #[]],.pointer (some ⟨b,0,none⟩),v] w (TellPost w W l cs 0):=by
 have r1:=h.r1
 have r2:=h.r2
 go_enter Tryz.func334,Tryz.ntmps334
 go_wp2_with fail
 refine (Read_c b c R W l cs _ _ (h.ext (Ext.alloc' _ _)) (hv.ext (Ext.alloc' _ _)) hm).mono ?_
 rintro e w1 ⟨v1,rfl,ho,hx1⟩
 obtain ⟨hc1,hc2⟩:=bcell hx1
 have hi:=IntsAt.of_row ho
 go_wp2_with fail
 refine (Min_c v1 _ _ hi (by rw [readL_len,hm.len]; omega) (by rw [readL_len,hm.len]; omega)).mono ?_
 rintro e w2 ⟨x,rfl,hk,hx⟩
 go_wp2
 go_ret2
 exact ⟨x,rfl,hk,by (repeat' (first | exact Ext.refl _ | assumption | apply Ext.allocR | apply Ext.drewR | apply Ext.drewNR | (refine Ext.trans' ?_ (by assumption))))⟩
set_option maxRecDepth 20000 in
set_option maxHeartbeats 1000000 in
theorem of_med (b c R W:Nat) (l cs:List Int) (v:Value) (w:World) (h:GAt w b c R W l) (hv:IntsAt w v cs) (hm:Meets R W cs) :
 Calls Tryz.prog 334 #[.agg #[.func (.func 335) #[] #[]],.pointer (some ⟨b,0,none⟩),v] w (TellPost w W l cs ((R - 1) / 2)):=by
 have r1:=h.r1
 have r2:=h.r2
 go_enter Tryz.func334,Tryz.ntmps334
 go_wp2_with fail
 refine (Read_c b c R W l cs _ _ (h.ext (Ext.alloc' _ _)) (hv.ext (Ext.alloc' _ _)) hm).mono ?_
 rintro e w1 ⟨v1,rfl,ho,hx1⟩
 obtain ⟨hc1,hc2⟩:=bcell hx1
 have hi:=IntsAt.of_row ho
 go_wp2_with fail
 refine (Median_c v1 _ _ hi (by rw [readL_len,hm.len]; omega) (by rw [readL_len,hm.len]; omega)).mono ?_
 rintro e w2 ⟨x,rfl,hk,hx⟩
 rw [readL_len,hm.len] at hk
 go_wp2
 go_ret2
 exact ⟨x,rfl,hk,by (repeat' (first | exact Ext.refl _ | assumption | apply Ext.allocR | apply Ext.drewR | apply Ext.drewNR | (refine Ext.trans' ?_ (by assumption))))⟩
set_option maxHeartbeats 1000000 in
theorem Middle_c (b c R W:Nat) (l cs:List Int) (v:Value) (w:World) (h:GAt w b c R W l) (hv:IntsAt w v cs) (hm:Meets R W cs) :
 Calls Tryz.prog 329 #[.pointer (some ⟨b,0,none⟩),v] w (TellPost w W l cs ((R - 1) / 2)):=by
 go_enter Tryz.func329,Tryz.ntmps329
 go_wp2_with fail
 refine (of_med b c R W l cs _ _ h hv hm).mono ?_
 rintro e w2 ⟨x,rfl,hk,hx⟩
 go_wp2
 go_ret2
 exact ⟨x,rfl,hk,hx⟩
set_option maxHeartbeats 1000000 in
theorem Least_c (b c R W:Nat) (l cs:List Int) (v:Value) (w:World) (h:GAt w b c R W l) (hv:IntsAt w v cs) (hm:Meets R W cs) :
 Calls Tryz.prog 328 #[.pointer (some ⟨b,0,none⟩),v] w (TellPost w W l cs 0):=by
 go_enter Tryz.func328,Tryz.ntmps328
 go_wp2_with fail
 refine (of_min b c R W l cs _ _ h hv hm).mono ?_
 rintro e w2 ⟨x,rfl,hk,hx⟩
 go_wp2
 go_ret2
 exact ⟨x,rfl,hk,hx⟩
end Go.Proofs.YtmalncfcgcebhaaGreatDoor
namespace Go.Proofs.YtmalncfcgcebhaaGreatDoor
open Go.RowKit
def RisePost (w:World) (b c R W:Nat) (l:List Int) (i:Nat) (n:Int) (e:Ending) (w':World):Prop :=
 e=.returned (.tuple #[])∧GAt w' b c R W (l.set i (max (l.getD i 0) n))∧Mod (fun k=>k=c) w w'
theorem set_self {l:List Int} {i:Nat}:l.set i (l.getD i 0)=l:=by
 apply List.ext_getElem
 · simp
 · intro j h1 h2
   rw [List.getElem_set]
   by_cases e:i=j
   · subst e; simp [h2]
   · rw [if_neg e]
set_option maxRecDepth 20000 in
set_option maxHeartbeats 1000000 in
theorem rise_c (b c R W:Nat) (l:List Int) (w:World) (h:GAt w b c R W l) (r k:Nat) (hr:r < R) (hk:k < W) (n:Int) (b1 b2:Nat)
 (k1:w.cell? ⟨b1,0,none⟩=some (.pointer (some ⟨b,0,none⟩))) (k2:w.cell? ⟨b2,0,none⟩=some (.int .i64 n)) (l1:b1 < w.heap.size) (l2:b2 < w.heap.size) :
 Calls Tryz.prog 336 #[.int .i64 r,.int .i64 k,.pointer (some ⟨b1,0,none⟩),.pointer (some ⟨b2,0,none⟩)] w (RisePost w b c R W l (r*W+k) n):=by
 have hi:r*W+k < l.length:=by rw [h.len]; exact idx_lt hr hk
 generalize hy:l.getD (r*W+k) 0=y
 have HY:=Lib.hid hy
 clear hy
 by_cases hlt:y < n
 · have hd:decide (y < n)=true:=by simp [hlt]
   go_enter Tryz.func336,Tryz.ntmps336
   go_wp2
   refine wp_region_after (by kernel_rfl) (by kernel_rfl) ?_
   repeat (go_big_quiet_step ((go_at_call 320; exact quiet_after_same (v:=.int .i64 y) ((At_c b c R W l _ (h.ext (After.h _)) r k hr hk).mono (fun e w' hh=>⟨by rw [hh.1,HY.out],hh.2⟩)))))
   refine wpQuiet_nil ?_
   rintro _ ⟨xx,rfl⟩
   obtain ⟨w1,hb1⟩:=xx
   try dsimp only
   have h1:=h.ext hb1
   obtain ⟨hc1,hc2⟩:=bcell hb1
   go_wp2_with fail
   refine (Put_c b c R W l _ h1 r k hr hk n).mono ?_
   rintro e w' ⟨rfl,rfl⟩
   go_wp2
   go_end0
   refine ⟨rfl, ?_,(hb1.mod _).trans (mod_set _ _ _ _)⟩
   rw [HY.out,show max y n=n by omega]
   exact h1.set hi n
 · have hd:decide (y < n)=false:=by simp; omega
   go_enter Tryz.func336,Tryz.ntmps336
   go_wp2
   refine wp_region_after (by kernel_rfl) (by kernel_rfl) ?_
   repeat (go_big_quiet_step ((go_at_call 320; exact quiet_after_same (v:=.int .i64 y) ((At_c b c R W l _ (h.ext (After.h _)) r k hr hk).mono (fun e w' hh=>⟨by rw [hh.1,HY.out],hh.2⟩)))))
   refine wpQuiet_nil ?_
   rintro _ ⟨xx,rfl⟩
   obtain ⟨w1,hb1⟩:=xx
   try dsimp only
   go_wp2
   go_end0
   refine ⟨rfl, ?_,hb1.mod _⟩
   rw [HY.out,show max y n=l.getD (r*W+k) 0 by rw [HY.out]; omega,set_self]
   exact h.ext hb1
def RaisePost (w:World) (b c R W:Nat) (cs l:List Int) (d:Int) (e:Ending) (w':World):Prop :=
 (d < 0∧e=.returned (.int .i64 3)∧Ext w w')∨∃ x,IsKth (readL W l cs) 0 x∧0≤d ∧
  ((I64 (x+d)∧e=.returned (.int .i64 0)∧GAt w' b c R W (putK W cs (fun k=>max (l.getD (at_ W cs k) 0) (x+d)) R l)∧Mod (fun k=>k=c) w w') ∨
   (¬ I64 (x+d)∧e=.returned (.int .i64 4)∧Ext w w'))
theorem putK_far {W:Nat} {cs:List Int} {f:Nat→Int} {R:Nat} (hm:Meets R W cs) (l:List Int) {j:Nat} (hj:j < R):∀ k,k≤j→(putK W cs f k l).getD (at_ W cs j) 0=l.getD (at_ W cs j) 0:=by
 intro k
 induction k with
 | zero=>intro _; rfl
 | succ k ih =>
   intro hk
   have h1:=hm.hi k (by omega)
   have h2:=hm.lo k (by omega)
   have h3:at_ W cs k < at_ W cs j:=by
    unfold at_
    have:k*W+W≤j*W:=by
     have:=Nat.mul_le_mul_right W (show k+1≤j by omega)
     rw [Nat.add_mul,Nat.one_mul] at this; exact this
    omega
   rw [putK]
   simp only [List.getD_eq_getElem?_getD]
   rw [List.getElem?_set_ne (by omega)]
   have:=ih (by omega)
   simpa only [List.getD_eq_getElem?_getD] using this
set_option maxRecDepth 20000 in
set_option maxHeartbeats 2000000 in
theorem Raise_c (b c R W:Nat) (l cs:List Int) (v:Value) (d:Int) (w:World) (h:GAt w b c R W l) (hI:∀ x∈l,I64 x) (hd:I64 d) (hv:IntsAt w v cs) (hm:Meets R W cs)
 (hne:∀ g off n cap,v=.slice (some ⟨g,off,none⟩) n cap→g≠c) :
 Calls Tryz.prog 330 #[.pointer (some ⟨b,0,none⟩),v,.int .i64 d] w (RaisePost w b c R W cs l d):=by
 have r1:=h.r1
 have r2:=h.r2
 obtain ⟨g,off,cap,rfl,hg,hc⟩:=hv.slice (by rw [hm.len]; omega)
 have hgc:=hne _ _ _ _ rfl
 rw [hm.len] at hc hv ⊢
 have HV:=Lib.hid hv
 have HC:=Lib.hid hc
 have hcl:=h.ltc
 clear hc hv hne
 by_cases hd0:d < 0
 · have hdb:decide (d < 0)=true:=by simp [hd0]
   go_enter Tryz.func330,Tryz.ntmps330
   go_wp2_with fail
   refine (Least_c b c R W l cs _ _ (h.ext (Ext.alloc' _ _)) (HV.out.ext (Ext.alloc' _ _)) hm).mono ?_
   rintro e w1 ⟨x,rfl,hk,hx⟩
   go_wp2
   go_ret
   exact .inl ⟨hd0,rfl,by (repeat' (first | exact Ext.refl _ | assumption | apply Ext.allocR | apply Ext.drewR | apply Ext.drewNR | (refine Ext.trans' ?_ (by assumption))))⟩
 · have hdb:decide (d < 0)=false:=by simp; omega
   have hdn:0≤d:=by omega
   go_enter Tryz.func330,Tryz.ntmps330
   go_wp2_with fail
   refine (Least_c b c R W l cs _ _ (h.ext (Ext.alloc' _ _)) (HV.out.ext (Ext.alloc' _ _)) hm).mono ?_
   rintro e w1 ⟨x,rfl,hk,hx⟩
   have hxI:I64 x:=by
    have hmem:x∈readL W l cs:=sameN_pos (by have:=hk.1; have:=hk.2; omega)
    simp only [readL,List.mem_map,List.mem_range] at hmem
    obtain ⟨j,_,rfl⟩:=hmem
    exact getD_i64 hI _
   by_cases hfit:I64 (x+d)
   · have fb:=fitB_yes hfit
     have fn:=fitN_yes hfit
     go_wp2_with fail
     refine (Plus_c x d hxI hd _).mono ?_
     rintro e w2 ⟨rfl,hx2⟩
     have k1:w1.cell? ⟨w.heap.size,0,none⟩=some (.pointer (some ⟨b,0,none⟩)):=by rw [(bcell hx).1 _ _ (by simp [go_sem])]; simp [go_sem]
     have hs1:w.heap.size < w1.heap.size:=by have:=hx.size; simp only [size_alloc] at this; omega
     have hs2:=hx2.size
     have k2:=((bcell hx2).1 w.heap.size 0 hs1).trans k1
     have hw2:Ext w w2:=by (repeat' (first | exact Ext.refl _ | assumption | apply Ext.allocR | apply Ext.drewR | apply Ext.drewNR | (refine Ext.trans' ?_ (by assumption))))
     clear k1
     go_wp2
     have hE:Ext w (w2.alloc (.cells #[.int .i64 (x+d)] 2)):=hw2.allocR _
     have hG0:GAt (w2.alloc (.cells #[.int .i64 (x+d)] 2)) b c R W (putK W cs (fun k=>max (l.getD (at_ W cs k) 0) (x+d)) 0 l):=h.ext hE
     have q1:(w2.alloc (.cells #[.int .i64 (x+d)] 2)).cell? ⟨w.heap.size,0,none⟩=some (.pointer (some ⟨b,0,none⟩)):=by
      rw [World.cell?_alloc_lt _ _ _ (by show w.heap.size < _; omega)]; exact k2
     have q2:(w2.alloc (.cells #[.int .i64 (x+d)] 2)).cell? ⟨w2.heap.size,0,none⟩=some (.int .i64 (x+d)):=(cell_of (heap_at _ _ rfl) 0).trans rfl
     have q3:w2.heap.size < (w2.alloc (.cells #[.int .i64 (x+d)] 2)).heap.size:=by rw [size_alloc]; omega
     have HK:=Lib.hid (And.intro q1 (And.intro q2 (And.intro hE (And.intro hG0 q3))))
     clear q1 q2 hE hG0 q3
     generalize w2.alloc (.cells #[.int .i64 (x+d)] 2)=wl at HK
     obtain ⟨q1,q2,hE,hG0,q3⟩:=HK.out
     have hM0:Mod (fun i=>i=c) wl wl:=Mod.refl _ _
     have hEs:=hE.size
     go_loopw [36] (fun u wr=>∃ k:Nat,k≤R∧u=.int .i64 k∧Mod (fun i=>i=c) wl wr∧GAt wr b c R W (putK W cs (fun k=>max (l.getD (at_ W cs k) 0) (x+d)) k l)) (fun u _=>R - (intOf u).toNat)
     case atStart=>exact ⟨0,Nat.zero_le _,rfl,hM0,hG0⟩
     case round =>
      clear hM0 hG0
      obtain ⟨k,hk2,rfl,hM,hG⟩:=hrel
      by_cases hlt:k < R
      · have dc:=((mcell hM (by omega) hgc (off+k)).trans ((bcell hE).1 g (off+k) hg)).trans (HC.out k hlt)
        have p1:=(mcell hM (b:=w.heap.size) (by omega) (by omega) 0).trans q1
        have p2:=(mcell hM (b:=w2.heap.size) (by omega) (by omega) 0).trans q2
        have hMs:=hM.size
        have l1:=hm.lo k hlt
        have l2:=hm.hi k hlt
        have hat:at_ W cs k=k*W+(cs.getD k 0).toNat:=rfl
        have HA:=Lib.hid hat
        clear hat q1 q2
        generalize cs.getD k 0=y at dc l1 l2 HA
        obtain ⟨y,rfl⟩:=Int.eq_ofNat_of_zero_le l1
        have hyW:y < W:=by omega
        go_wp2_with fail
        refine (rise_c b c R W _ _ hG k y hlt hyW (x+d) w.heap.size w2.heap.size p1 p2 (by omega) (by omega)).mono ?_
        rintro e w' ⟨rfl,hG2,hM2⟩
        go_wp2
        go_roundw
        case rel =>
         refine ⟨k+1,by omega,by go_num,hM.trans hM2, ?_⟩
         have e1:at_ W cs k=k*W+y:=HA.out
         have e2:=putK_far (f:=fun k=>max (l.getD (at_ W cs k) 0) (x+d)) hm l hlt k (Nat.le_refl _)
         show GAt _ b c R W ((putK W cs _ k l).set (at_ W cs k) (max (l.getD (at_ W cs k) 0) (x+d)))
         rw [← e2,e1]
         exact hG2
        case measure=>simp [intOf]; omega
      · go_wp2
        go_ret
        obtain rfl:k=R:=by omega
        exact .inr ⟨x,hk,hdn,.inl ⟨hfit,rfl,hG,(hE.mod _).trans hM⟩⟩
   · have fb:=fitB_no hfit
     go_wp2_with fail
     refine (Plus_c x d hxI hd _).mono ?_
     rintro e w2 ⟨rfl,hx2⟩
     go_wp2
     go_ret
     exact .inr ⟨x,hk,hdn,.inr ⟨hfit,rfl,by (repeat' (first | exact Ext.refl _ | assumption | apply Ext.allocR | apply Ext.drewR | apply Ext.drewNR | (refine Ext.trans' ?_ (by assumption))))⟩⟩
end Go.Proofs.YtmalncfcgcebhaaGreatDoor
namespace Go.Proofs.YtmalncfcgcebhaaGreatDoor
open Go.RowKit
def C1:Int:=13787848793156543929
def C2:Int:=10723151780598845931
def GD:Int:=11400714819323198485
def xsh (x d:Int):Int:=bits .xor .u64 x (x / d)
def wu (x:Int):Int:=IntKind.u64.wrap x
theorem wu_u (x:Int):U64 (wu x):=by unfold wu U64; rw [IntKind.wrap_u64]; omega
theorem xsh_u (x d:Int):U64 (xsh x d):=by
 unfold xsh
 exact wu_u _
def mixA (z:Int):Int:=wu (xsh z 1073741824*C1)
def mixB (z:Int):Int:=wu (xsh z 134217728*C2)
def mix (z:Int):Int:=xsh (mixB (mixA z)) 2147483648
theorem mix_u (z:Int):U64 (mix z):=xsh_u _ _
set_option maxHeartbeats 400000 in
theorem steps_c (w:World) :
 Calls Tryz.prog 190 #[] w fun e w'=>e=.returned (.agg #[.int .u64 30,.int .u64 C1,.int .u64 27,.int .u64 C2,.int .u64 31,.int .u64 1])∧Ext w w':=by
 go_enter Tryz.func190,Tryz.ntmps190
 go_wp2
 exact bodyPost_ret (v:=.agg #[.int .u64 30,.int .u64 C1,.int .u64 27,.int .u64 C2,.int .u64 31,.int .u64 1]) (by simp [results,Tryz.results190,go_sem,C1,C2]) rfl ⟨rfl,(Below.refl _ _).alloc (Nat.le_refl _) _⟩
set_option maxHeartbeats 400000 in
theorem Mix_c (z:Int) (h:U64 z) (w:World) :
 Calls Tryz.prog 152 #[.int .u64 z] w fun e w'=>e=.returned (.int .u64 (mix z))∧Ext w w':=by
 have i0:∀ w,Sem.run Tryz.prog (Instr.index 316 (.agg #[.int .u64 30,.int .u64 C1,.int .u64 27,.int .u64 C2,.int .u64 31,.int .u64 1]) (.int .i64 0)) w=.ok (.agg #[.int .u64 30,.int .u64 C1]) w:=fun w=>by kernel_rfl
 have i1:∀ w,Sem.run Tryz.prog (Instr.index 316 (.agg #[.int .u64 30,.int .u64 C1,.int .u64 27,.int .u64 C2,.int .u64 31,.int .u64 1]) (.int .i64 1)) w=.ok (.agg #[.int .u64 27,.int .u64 C2]) w:=fun w=>by kernel_rfl
 have i2:∀ w,Sem.run Tryz.prog (Instr.index 316 (.agg #[.int .u64 30,.int .u64 C1,.int .u64 27,.int .u64 C2,.int .u64 31,.int .u64 1]) (.int .i64 2)) w=.ok (.agg #[.int .u64 31,.int .u64 1]) w:=fun w=>by kernel_rfl
 obtain ⟨h0,h1⟩:=h
 have hx:=wu_u (xsh (mixB (mixA z)) 2147483648)
 have hxx:wu (xsh (mixB (mixA z)) 2147483648)=mix z:=IntWalk.u64_in _ (by have:=mix_u z; unfold U64 mix at this; omega)
 have HX:=Lib.hid hxx
 clear hxx hx
 go_enter Tryz.func152,Tryz.ntmps152
 go_wp2_with (go_at_call 190; refine (steps_c _).mono ?_; rintro e w1 ⟨rfl,hb⟩)
 have HB:=Lib.hid hb
 clear hb
 refine wp_loop_rounds 4 ?_
 rw [rounds_succ]
 go_wp2
 rw [rounds_succ]
 go_wp2
 rw [rounds_succ]
 go_wp2
 rw [rounds_succ]
 go_wp2
 go_ret
 refine ⟨?_, ?_⟩
 · rw [← HX.out]; rfl
 · have hb:=HB.out
   have hs:=hb.size
   go_grown
def drw (s i:Int):Int:=mix (wu (s+wu (wu (i+1)*GD)))
theorem drw_u (s i:Int):U64 (drw s i):=mix_u _
set_option maxHeartbeats 400000 in
theorem Draw_c (s i:Int) (hs:U64 s) (hi:0≤i) (hi':i < 10000) (w:World) :
 Calls Tryz.prog 107 #[.int .u64 s,.int .u64 i] w fun e w'=>e=.returned (.int .u64 (drw s i))∧Ext w w':=by
 obtain ⟨h0,h1⟩:=hs
 have e1:drw s i=mix (wu (s+wu ((i+1)*GD))):=by
  unfold drw; rw [show wu (i+1)=i+1 from IntWalk.u64_in _ (by omega)]
 have HE:=Lib.hid e1
 clear e1
 go_enter Tryz.func107,Tryz.ntmps107
 go_wp2_with (go_at_call 152; refine (Mix_c _ (wu_u _) _).mono ?_; rintro e w1 ⟨rfl,hb⟩)
 go_ret
 exact ⟨by rw [HE.out]; rfl,hb⟩
def prA (s l r:Int):Int:=1+drw s (2*(l*8+r)) % 2305843009213693950
def prB (s l r:Int):Int:=drw s (2*(l*8+r)+1) % 2305843009213693951
theorem prA_u (s l r:Int):U64 (prA s l r):=by unfold prA U64; omega
theorem prB_u (s l r:Int):U64 (prB s l r):=by unfold prB U64; omega
set_option maxHeartbeats 1000000 in
theorem Pair_c (s l r:Int) (hs:U64 s) (hl:0≤l) (hl':l≤59) (hr:0≤r) (hr':r < 8) (w:World) :
 Calls Tryz.prog 63 #[.int .u64 s,.int .i64 l,.int .i64 r] w fun e w'=>e=.returned (.tuple #[.int .u64 (prA s l r),.int .u64 (prB s l r)])∧Ext w w':=by
 have g1:decide (l < 0)=false:=by simp; omega
 have g2:decide (59 < l)=false:=by simp; omega
 have g3:decide (r < 0)=false:=by simp; omega
 have g4:decide (8≤r)=false:=by simp; omega
 have b1:=drw_u s (2*(l*8+r))
 have b2:=drw_u s (2*(l*8+r)+1)
 obtain ⟨b11,b12⟩:=b1
 obtain ⟨b21,b22⟩:=b2
 go_enter Tryz.func63,Tryz.ntmps63
 go_wp2_with fail
 refine (Draw_c _ _ hs (by omega) (by omega) _).mono ?_
 rintro e w1 ⟨rfl,hb1⟩
 go_wp2_with fail
 refine (Draw_c _ _ hs (by omega) (by omega) _).mono ?_
 rintro e w2 ⟨rfl,hb2⟩
 go_wp2
 go_ret2
 exact ⟨rfl,hb1.trans' hb2⟩
end Go.Proofs.YtmalncfcgcebhaaGreatDoor
namespace Go.Proofs.YtmalncfcgcebhaaGreatDoor
set_option linter.unusedVariables false
open Go.RowKit
def lineAt (a b x:Int):Int:=fadd (fmul a x) b
set_option maxHeartbeats 400000 in
theorem at_c (a b x:Int) (ha:U64 a) (hb:U64 b) (hx:U64 x) (w:World) :
 Calls Tryz.prog 108 #[.agg #[.int .u64 a,.int .u64 b],.int .u64 x] w fun e w'=>e=.returned (.int .u64 (lineAt a b x))∧Ext w w':=by
 go_enter Tryz.func108,Tryz.ntmps108
 go_wp2
 refine wp_region_after (by kernel_rfl) (by kernel_rfl) ?_
 repeat (go_big_quiet_step ((first | (go_at_call 154; exact quiet_after_same (Fmul_c _ _ ha hx _)) | (go_at_call 153; exact quiet_after_same (Fadd_c _ _ (fmul_u _ _) hb _)))))
 refine wpQuiet_nil ?_
 rintro _ ⟨xx,rfl⟩
 obtain ⟨w1,hb1⟩:=xx
 try dsimp only
 go_wp2
 go_ret
 refine ⟨rfl, ?_⟩
 (repeat' (first | exact Ext.refl _ | assumption | apply Ext.allocR | apply Ext.drewR | apply Ext.drewNR | (refine Ext.trans' ?_ (by assumption))))
def bkt (a b x wd:Int):Int:=lineAt a b x % wd
theorem bkt_bd (a b x wd:Int) (h:1≤wd):0≤bkt a b x wd∧bkt a b x wd < wd:=⟨Int.emod_nonneg _ (by omega),Int.emod_lt_of_pos _ (by omega)⟩
set_option maxHeartbeats 400000 in
theorem Bucket_c (a b x wd:Int) (ha:U64 a) (hb:U64 b) (hx:U64 x) (h1:1≤wd) (h2:wd≤1000000) (w:World) :
 Calls Tryz.prog 64 #[.int .u64 a,.int .u64 b,.int .u64 x,.int .i64 wd] w fun e w'=>e=.returned (.int .i64 (bkt a b x wd))∧Ext w w':=by
 have g:decide (wd < 1)=false:=by simp; omega
 have hu:U64 (lineAt a b x):=fadd_u _ _
 obtain ⟨u1,u2⟩:=hu
 have hb1:=bkt_bd a b x wd h1
 unfold bkt at hb1
 go_enter Tryz.func64,Tryz.ntmps64
 go_wp2_with (go_at_call 108; refine (at_c _ _ _ ha hb hx _).mono ?_; rintro e w1 ⟨rfl,hb⟩)
 go_ret
 exact ⟨rfl,hb⟩
structure Cfg where
 bits:Int
 rows:Int
 width:Int
 mode:Int
 seed:Int
structure Cfg.Raw (c:Cfg):Prop where
 b:I64 c.bits
 r:I64 c.rows
 w:I64 c.width
 m:I64 c.mode
 s:U64 c.seed
structure Cfg.Ok (c:Cfg):Prop where
 b1:1≤c.bits
 b2:c.bits≤59
 r1:1≤c.rows
 r2:c.rows≤8
 w1:1≤c.width
 w2:c.width≤128
 m1:1≤c.mode
 m2:c.mode≤3
 s:U64 c.seed
set_option maxRecDepth 100000 in
set_option maxHeartbeats 2000000 in
theorem within_c (a b c d:Int) (s:Nat) (w:World)
 (ha:decide (a < 1)=false) (ha':decide (59 < a)=false) (hb:decide (b < 1)=false) (hb':decide (8 < b)=false)
 (hc:decide (c < 1)=false) (hc':decide (128 < c)=false) (hd:decide (d < 1)=false) (hd':decide (3 < d)=false)
 (hs:w.heap[s]?=some (.cells #[.int .i64 a,.int .i64 59,.int .i64 b,.int .i64 8,.int .i64 c,.int .i64 128,.int .i64 d,.int .i64 3] 266 (0,0))) :
 Calls Tryz.prog 148 #[.slice (some ⟨s,0,none⟩) 4 4] w fun e w'=>e=.returned (.bool true)∧Ext w w':=by
 have hlt:=lt_of hs
 have l1:s < w.heap.size+1:=by omega
 have l2:s < w.heap.size+1+1:=by omega
 have l3:s < w.heap.size+1+1+1:=by omega
 have k0:=cell_of hs 0
 have k1:=cell_of hs 1
 have k2:=cell_of hs 2
 have k3:=cell_of hs 3
 have k4:=cell_of hs 4
 have k5:=cell_of hs 5
 have k6:=cell_of hs 6
 have k7:=cell_of hs 7
 simp at k0 k1 k2 k3 k4 k5 k6 k7
 clear hs
 go_enter Tryz.func148,Tryz.ntmps148
 go_wp2
 refine wp_loop_rounds 5 ?_
 rw [rounds_succ]
 go_wp2
 rw [rounds_succ]
 go_wp2
 rw [rounds_succ]
 go_wp2
 rw [rounds_succ]
 go_wp2
 rw [rounds_succ]
 go_wp2
 go_ret
 exact ⟨rfl,by (repeat' (first | exact Ext.refl _ | assumption | apply Ext.allocR | apply Ext.drewR | apply Ext.drewNR | (refine Ext.trans' ?_ (by assumption))))⟩
set_option maxHeartbeats 1000000 in
theorem Right_c (c:Cfg) (h:c.Ok) (w:World) :
 Calls Tryz.prog 100 #[.agg #[.int .i64 c.bits,.int .i64 c.rows,.int .i64 c.width,.int .i64 c.mode,.int .u64 c.seed]] w fun e w'=>e=.returned (.bool true)∧Ext w w':=by
 obtain ⟨b1,b2,r1,r2,w1,w2,m1,m2,s⟩:=h
 go_enter Tryz.func100,Tryz.ntmps100
 go_wp2_with (go_at_call 148; refine (within_c c.bits c.rows c.width c.mode _ _ (by simp; omega) (by simp; omega) (by simp; omega) (by simp; omega) (by simp; omega) (by simp; omega) (by simp; omega) (by simp; omega) ?hs).mono ?_)
 · skip
   exact heap_at _ _ (by simp only [size_alloc])
 rintro e w1 ⟨rfl,hb⟩
 go_wp2
 go_ret
 refine ⟨rfl, ?_⟩
 (repeat' (first | exact Ext.refl _ | assumption | apply Ext.allocR | apply Ext.drewR | apply Ext.drewNR | (refine Ext.trans' ?_ (by assumption))))
def keys (c:Cfg) (l:Int):Int:=2 ^ (c.bits - l).toNat
set_option maxHeartbeats 1000000 in
theorem Keys_c (c:Cfg) (h:c.Ok) (l:Int) (h0:0≤l) (h1:l≤c.bits) (w:World) :
 Calls Tryz.prog 61 #[.agg #[.int .i64 c.bits,.int .i64 c.rows,.int .i64 c.width,.int .i64 c.mode,.int .u64 c.seed],.int .i64 l] w fun e w'=>e=.returned (.int .u64 (keys c l))∧Ext w w':=by
 have hk:=h
 obtain ⟨b1,b2,r1,r2,w1,w2,m1,m2,s⟩:=h
 have g1:decide (l < 0)=false:=by simp; omega
 have g2:decide (c.bits < l)=false:=by simp; omega
 go_enter Tryz.func61,Tryz.ntmps61
 go_wp2_with fail
 refine (Right_c c hk _).mono ?_
 rintro e w1 ⟨rfl,hb⟩
 have hc:=bcell hb
 go_wp2
 go_ret
 have hp:=pow_bd (c.bits - l).toNat (by omega)
 refine ⟨ret_int (IntWalk.u64_in _ (by omega)), ?_⟩
 (repeat' (first | exact Ext.refl _ | assumption | apply Ext.allocR | apply Ext.drewR | apply Ext.drewNR | (refine Ext.trans' ?_ (by assumption))))
theorem keys_bd (c:Cfg) (h:c.Ok) (l:Int) (h0:0≤l):1≤keys c l∧keys c l≤576460752303423488:=pow_bd _ (by have:=h.b2; omega)
def col (c:Cfg) (l key r:Int):Int:=bkt (prA c.seed l r) (prB c.seed l r) key c.width
theorem col_bd (c:Cfg) (h:1≤c.width) (l key r:Int):0≤col c l key r∧col c l key r < c.width:=bkt_bd _ _ _ _ h
set_option maxHeartbeats 1000000 in
theorem Column_c (c:Cfg) (h:c.Ok) (l key r:Int) (h0:0≤l) (h1:l≤59) (hk0:0≤key) (hk1:key < 18446744073709551616) (hr:0≤r) (hr':r < 8) (w:World) (b1 b2 b3:Nat)
 (k0:w.cell? ⟨b1,4,none⟩=some (.int .u64 c.seed)) (k1:w.cell? ⟨b1,2,none⟩=some (.int .i64 c.width))
 (k2:w.cell? ⟨b2,0,none⟩=some (.int .i64 l)) (k3:w.cell? ⟨b3,0,none⟩=some (.int .u64 key)) (l1:b1 < w.heap.size) (l2:b2 < w.heap.size) (l3:b3 < w.heap.size) :
 Calls Tryz.prog 62 #[.int .i64 r,.pointer (some ⟨b1,0,none⟩),.pointer (some ⟨b2,0,none⟩),.pointer (some ⟨b3,0,none⟩)] w fun e w'=>e=.returned (.int .i64 (col c l key r))∧Ext w w':=by
 have hs:=h.s
 have hw1:=h.w1
 have hw2:=h.w2
 go_enter Tryz.func62,Tryz.ntmps62
 go_wp2_with fail
 refine (Pair_c _ _ _ hs h0 h1 hr hr' _).mono ?_
 rintro e w1 ⟨rfl,hb⟩
 obtain ⟨hc,hf⟩:=bcell hb
 go_wp2_with fail
 refine (Bucket_c _ _ _ _ (prA_u _ _ _) (prB_u _ _ _) ⟨hk0,hk1⟩ hw1 (by omega) _).mono ?_
 rintro e w2 ⟨rfl,hb2⟩
 go_wp2
 go_ret
 exact ⟨rfl,hb.trans' hb2⟩
theorem info_int:(Tryz.prog.info? 3).map (fun i=>(i.zero,i.size,i.bytes))=some (some (.int .i64 0),1,8):=by kernel_rfl
def cols (c:Cfg) (l key:Int):List Int:=(List.range c.rows.toNat).map fun (r:Nat)=>col c l key r
theorem cols_len (c:Cfg) (l key:Int):(cols c l key).length=c.rows.toNat:=by simp [cols]
set_option maxHeartbeats 2000000 in
theorem Columns_c (c:Cfg) (h:c.Ok) (l key:Int) (h0:0≤l) (h1:l≤c.bits) (hl59:l≤59) (hk0:0≤key) (hk1:key < keys c l) (w:World) :
 Calls Tryz.prog 24 #[.agg #[.int .i64 c.bits,.int .i64 c.rows,.int .i64 c.width,.int .i64 c.mode,.int .u64 c.seed],.int .i64 l,.int .u64 key] w fun e w' =>
  ∃ v,e=.returned v∧w'.ownsRow w.heap.size 3 1 v c.rows.toNat (ints (cols c l key))∧Ext w w':=by
 have hok:=h
 obtain ⟨b1,b2,r1,r2,w1,w2,m1,m2,s⟩:=h
 have hkb:=keys_bd c hok l h0
 have hk64:key < 18446744073709551616:=by omega
 obtain ⟨rn,hrn⟩:=Int.eq_ofNat_of_zero_le (show 0≤c.rows by omega)
 have HR:=Lib.hid hrn
 obtain ⟨ii,hi,hz0,hz1,hz2⟩:=info_parts info_int
 have hmk:=fun (W:World)=>run_make_ints 54 3 ii Tryz.underlying54 hi hz0 hz1 hz2 rn (by omega) (fun r=>col c l key r) W
 rw [← hrn] at hmk
 clear hi hz0 hz1 hz2 hrn
 go_enter Tryz.func24,Tryz.ntmps24
 go_wp2
 refine wp_region_after (by kernel_rfl) (by kernel_rfl) ?_
 repeat (go_big_quiet_step ((go_at_call 61; exact quiet_after (Keys_c c hok l h0 h1 _))))
 refine wpQuiet_nil ?_
 rintro _ ⟨xx,rfl⟩
 obtain ⟨w1,hb⟩:=xx
 try dsimp only
 have k0:w1.cell? ⟨w.heap.size,4,none⟩=some (.int .u64 c.seed):=by rw [(bcell hb).1 _ _ (by simp [go_sem])]; simp [go_sem]
 have k1:w1.cell? ⟨w.heap.size,2,none⟩=some (.int .i64 c.width):=by rw [(bcell hb).1 _ _ (by simp [go_sem])]; simp [go_sem]
 have k2:w1.cell? ⟨w.heap.size+1,0,none⟩=some (.int .i64 l):=by rw [(bcell hb).1 _ _ (by simp [go_sem])]; simp [go_sem]
 have k3:w1.cell? ⟨w.heap.size+1+1,0,none⟩=some (.int .u64 key):=by rw [(bcell hb).1 _ _ (by simp [go_sem])]; simp [go_sem]
 have k4:w1.cell? ⟨w.heap.size,1,none⟩=some (.int .i64 c.rows):=by rw [(bcell hb).1 _ _ (by simp [go_sem])]; simp [go_sem]
 have hsz:w.heap.size+1+1 < w1.heap.size:=by have:=hb.size; simp only [size_alloc] at this; omega
 have hw:Ext w w1:=by (repeat' (first | exact Ext.refl _ | assumption | apply Ext.allocR | apply Ext.drewR | apply Ext.drewNR | (refine Ext.trans' ?_ (by assumption))))
 clear hb
 go_wp2
 have hrr:(rn:Int)≤8:=by rw [← HR.out]; exact r2
 clear hmk r1 r2 b1 b2 m1 m2 hk1 hkb
 go_loopw [21] (fun v wr=>∃ k:Nat,k≤rn∧v=.int .i64 k∧Ext w1 wr∧w1.heap.size < wr.heap.size∧wr.heap[w1.heap.size]?=some (.cells (fillA (fun r=>col c l key r) k rn) 3 (0,0))) (fun v _=>rn - (intOf v).toNat)
 case atStart =>
  exact ⟨0,Nat.zero_le _,rfl,Ext.alloc' _ _,by simp only [size_alloc]; omega,heap_at _ _ rfl⟩
 case round =>
  obtain ⟨k,hk,rfl,hx,hlt,hg⟩:=hrel
  by_cases hlt2:k < rn
  · have c0:=(bcell hx).1
    have l1:w.heap.size < wr.heap.size:=by omega
    have l2:w.heap.size+1 < wr.heap.size:=by omega
    have l3:w.heap.size+1+1 < wr.heap.size:=by omega
    have q0:=(c0 _ 4 (by omega)).trans k0
    have q1:=(c0 _ 2 (by omega)).trans k1
    have q2:=(c0 _ 0 (by omega)).trans k2
    have q3:=(c0 _ 0 (by omega)).trans k3
    clear c0
    have HG:=Lib.hid hg
    clear hg
    go_wp2_with fail
    refine (Column_c c hok l key k h0 hl59 hk0 hk64 (by omega) (by omega) _ _ _ _ q0 q1 q2 q3 l1 l2 l3).mono ?_
    rintro e w2 ⟨rfl,hb2⟩
    have hg2:=hb2.keep HG.out
    obtain ⟨v0,d0⟩:∃ v0,w2.cell? ⟨w1.heap.size,k,none⟩=some v0:=⟨_,(cell_of hg2 k).trans (fillA_at _ _ _ _ hlt2)⟩
    have d1:=frozen_of hg2 k
    have HG2:=Lib.hid hg2
    clear hg2
    go_wp2
    go_roundw
    case rel=>exact ⟨k+1,by omega,by go_num,(hx.trans' hb2).setR (Nat.le_refl _) _,by have:=hb2.size; rw [size_setCell]; omega,by rw [setCell_same HG2.out,fillA_set]⟩
    case measure=>simp [intOf]; omega
  · have HG:=Lib.hid hg
    clear hg
    go_wp2
    go_ret
    obtain rfl:k=rn:=by omega
    refine ⟨_,rfl, ?_,hw.trans' hx⟩
    have e:c.rows.toNat=k:=by rw [HR.out]; rfl
    unfold cols
    rw [e]
    exact ownsRow_of HG.out (by omega) (Nat.le_refl _) (by unfold maxLen; omega) (fillA_size _ _ _) (by rw [fillA_done]; exact List.take_of_length_le (by simp [ints]))
end Go.Proofs.YtmalncfcgcebhaaGreatDoor
namespace Go.Proofs.YtmalncfcgcebhaaGreatDoor
open Go.RowKit
structure SAt (w:World) (s b c:Nat) (C:Cfg) (lv:Int) (R W:Nat) (l:List Int):Prop where
 ex:w.heap[s]?=some (.cells #[.pointer (some ⟨b,0,none⟩),.int .i64 C.bits,.int .i64 C.rows,.int .i64 C.width,.int .i64 C.mode,.int .u64 C.seed,.int .i64 lv] 314 (0,0))
 g:GAt w b c R W l
 ok:C.Ok
 lo:0≤lv
 hi:lv≤C.bits
 hr:C.rows=R
 hw:C.width=W
 fit:∀ x∈l,I64 x
theorem SAt.lts {w:World} {s b c:Nat} {C:Cfg} {lv:Int} {R W:Nat} {l:List Int} (h:SAt w s b c C lv R W l):s < w.heap.size:=lt_of h.ex
theorem SAt.keep {w w':World} {s b c:Nat} {C:Cfg} {lv:Int} {R W:Nat} {l:List Int} (h:SAt w s b c C lv R W l) (hs:w'.heap[s]?=w.heap[s]?) (hb:w'.heap[b]?=w.heap[b]?) (hc:w'.heap[c]?=w.heap[c]?):SAt w' s b c C lv R W l :=
 ⟨by rw [hs]; exact h.ex,h.g.keep hb hc,h.ok,h.lo,h.hi,h.hr,h.hw,h.fit⟩
theorem SAt.ext {w w':World} {s b c:Nat} {C:Cfg} {lv:Int} {R W:Nat} {l:List Int} (h:SAt w s b c C lv R W l) (he:Ext w w'):SAt w' s b c C lv R W l :=
 h.keep (he.block s h.lts) (he.block b h.g.ltb) (he.block c h.g.ltc)
theorem SAt.nes {w:World} {s b c:Nat} {C:Cfg} {lv:Int} {R W:Nat} {l:List Int} (h:SAt w s b c C lv R W l):s≠c:=by
 intro e
 obtain ⟨cap,h1,h2⟩:=h.g.ex
 obtain ⟨cur,h3,_⟩:=h2.ex
 have:=h.ex
 rw [e,h3] at this
 simp at this
theorem cols_meets (C:Cfg) (h:C.Ok) (lv key:Int) {R W:Nat} (hr:C.rows=R) (hw:C.width=W):Meets R W (cols C lv key):=by
 have e:C.rows.toNat=R:=by rw [hr]; rfl
 have hg:∀ k,k < R→(cols C lv key).getD k 0=col C lv key k:=by
  intro k hk
  simp [cols,e,hk]
 refine ⟨by rw [cols_len,e],fun k hk=>?_,fun k hk=>?_⟩
 · rw [hg k hk]; exact (col_bd C h.w1 lv key k).1
 · rw [hg k hk,← hw]; exact (col_bd C h.w1 lv key k).2
def SNewPost (w:World) (C:Cfg) (lv:Int) (R W:Nat) (e:Ending) (w':World):Prop :=
 ∃ s b c,e=.returned (.tuple #[.pointer (some ⟨s,0,none⟩),.int .i64 0])∧SAt w' s b c C lv R W (zs (R*W))∧w.heap.size≤s∧w.heap.size≤b∧w.heap.size≤c∧Ext w w'
set_option maxRecDepth 20000 in
set_option maxHeartbeats 2000000 in
theorem SNew_c (C:Cfg) (h:C.Ok) (lv:Int) (h0:0≤lv) (h1:lv≤C.bits) (R W:Nat) (hr:C.rows=R) (hw:C.width=W) (w:World) :
 Calls Tryz.prog 150 #[.agg #[.int .i64 C.bits,.int .i64 C.rows,.int .i64 C.width,.int .i64 C.mode,.int .u64 C.seed],.int .i64 lv] w (SNewPost w C lv R W):=by
 have hk:=keys_bd C h lv h0
 have hkb:(keys C lv == 0)=false:=by simp; omega
 have r1:=h.r1
 have r2:=h.r2
 have w1':=h.w1
 have w2':=h.w2
 have HR:=Lib.hid hr
 have HW:=Lib.hid hw
 clear hr hw
 go_enter Tryz.func150,Tryz.ntmps150
 go_wp2_with fail
 refine (Keys_c C h lv h0 h1 _).mono ?_
 rintro e w1 ⟨rfl,hb⟩
 obtain ⟨hc1,hc2⟩:=bcell hb
 have d0:w1.cell? ⟨w.heap.size,0,none⟩=some (.int .i64 C.bits):=by rw [hc1 _ _ (by simp [go_sem])]; simp [go_sem]
 have d1:w1.cell? ⟨w.heap.size,1,none⟩=some (.int .i64 C.rows):=by rw [hc1 _ _ (by simp [go_sem])]; simp [go_sem]
 have d2:w1.cell? ⟨w.heap.size,2,none⟩=some (.int .i64 C.width):=by rw [hc1 _ _ (by simp [go_sem])]; simp [go_sem]
 have d3:w1.cell? ⟨w.heap.size,3,none⟩=some (.int .i64 C.mode):=by rw [hc1 _ _ (by simp [go_sem])]; simp [go_sem]
 have d4:w1.cell? ⟨w.heap.size,4,none⟩=some (.int .u64 C.seed):=by rw [hc1 _ _ (by simp [go_sem])]; simp [go_sem]
 have hsz:w.heap.size < w1.heap.size:=by have:=hb.size; simp only [size_alloc] at this; omega
 have hE:Ext w w1:=by (repeat' (first | exact Ext.refl _ | assumption | apply Ext.allocR | apply Ext.drewR | apply Ext.drewNR | (refine Ext.trans' ?_ (by assumption))))
 clear hc1 hc2 hb
 go_wp2
 have hC0:=af_drew w1
 refine pi_start (fun w'=>∃ x:After w1,w'=x.w) [] (by kernel_rfl) ?_
 refine pi_t 0 rfl (by kernel_rfl) (by kernel_rfl) (fun _ _ _ _ h=>h) (fun K hK=>?_)
 go_big_quiet_op
 refine hK _ ?_
 clear hK K
 refine pi_c 1 (by assumption) rfl (by kernel_rfl) (by kernel_rfl) (fun _ _ _ _ h=>h) (fun K hK=>?_)
 go_big_quiet_op
 refine hK _ ?_
 clear hK K
 refine pi_t 2 rfl (by kernel_rfl) (by kernel_rfl) (fun _ _ _ _ h=>h) (fun K hK=>?_)
 go_big_quiet_op
 refine hK _ ?_
 clear hK K
 refine pi_c 3 (by assumption) rfl (by kernel_rfl) (by kernel_rfl) (fun _ _ _ _ h=>h) (fun K hK=>?_)
 go_big_quiet_op
 refine hK _ ?_
 clear hK K
 refine pi_c 6 (by assumption) rfl (by kernel_rfl) (by kernel_rfl) (fun _ _ _ _ h=>h) (fun K hK=>?_)
 go_big_quiet_op
 refine hK _ ?_
 clear hK K
 refine pi_t 7 rfl (by kernel_rfl) (by kernel_rfl) (fun _ _ _ _ h=>h) (fun K hK=>?_)
 go_big_quiet_op
 refine hK _ ?_
 clear hK K
 refine pi_l 4 rfl (by kernel_rfl) (fun K hK=>?_)
 rw [HR.out,HW.out]
 go_wp2_with (go_at_call 189; refine (GNew_c R W _ (by have:=HR.out; omega) (by have:=HR.out; omega) (by have:=HW.out; omega) (by have:=HW.out; omega)).mono ?_; rintro e w2 ⟨gb,gc,rfl,hG,hgb,hgc,hx2⟩)
 refine hK _ _ (fun _ h=>af_step h hx2) ?_
 clear hK K
 refine pi_t 5 rfl (by kernel_rfl) (by kernel_rfl) (fun _ _ _ _ h=>h) (fun K hK=>?_)
 go_big_quiet_op
 refine hK _ ?_
 clear hK K
 refine pi_t 8 rfl (by kernel_rfl) (by kernel_rfl) (fun _ _ _ _ h=>h) (fun K hK=>?_)
 go_big_quiet_op
 refine hK _ ?_
 clear hK K
 refine pi_l 9 rfl (by kernel_rfl) (fun K hK=>?_)
 go_wp2
 refine hK _ _ (fun _ h=>af_step h (Ext.alloc' _ _)) ?_
 clear hK K
 refine pi_t 10 rfl (by kernel_rfl) (by kernel_rfl) (fun _ _ _ _ h=>h) (fun K hK=>?_)
 go_big_quiet_op
 refine hK _ ?_
 clear hK K
 refine pi_t 11 rfl (by kernel_rfl) (by kernel_rfl) (fun _ _ _ _ h=>h) (fun K hK=>?_)
 go_big_quiet_op
 refine hK _ ?_
 clear hK K
 refine pi_end (by kernel_rfl) ?_
 go_wp2
 go_ret2
 have hx2':Ext w1 w2:=Ext.trans' (Below.drew (Ext.refl w1)) hx2
 have hs2:=hx2'.size
 refine ⟨w2.heap.size,gb,gc,rfl,⟨?_,hG.keep (heap_old _ _ hG.ltb) (heap_old _ _ hG.ltc),h,h0,h1,HR.out,HW.out, ?_⟩,by omega,Nat.le_trans (show w.heap.size≤w1.heap.size by omega) hgb,Nat.le_trans (show w.heap.size≤w1.heap.size by omega) hgc,by (repeat' (first | exact Ext.refl _ | assumption | apply Ext.allocR | apply Ext.drewR | apply Ext.drewNR | (refine Ext.trans' ?_ (by assumption))))⟩
 · rw [heap_at _ _ rfl,HR.out,HW.out]
 · intro x hx
   simp only [zs,List.mem_replicate] at hx
   rw [hx.2]
   unfold I64; omega
set_option maxRecDepth 20000 in
set_option maxHeartbeats 2000000 in
theorem Columns_no (c:Cfg) (h:c.Ok) (l key:Int) (h0:0≤l) (h1:l≤c.bits) (hk1:keys c l≤key) (w:World) :
 Calls Tryz.prog 24 #[.agg #[.int .i64 c.bits,.int .i64 c.rows,.int .i64 c.width,.int .i64 c.mode,.int .u64 c.seed],.int .i64 l,.int .u64 key] w fun e w' =>
  e=.returned (.slice none 0 0)∧Ext w w':=by
 have hd:decide (keys c l≤key)=true:=by simp; omega
 go_enter Tryz.func24,Tryz.ntmps24
 go_wp2
 refine wp_region_after (by kernel_rfl) (by kernel_rfl) ?_
 repeat (go_big_quiet_step ((go_at_call 61; exact quiet_after (Keys_c c h l h0 h1 _))))
 refine wpQuiet_nil ?_
 rintro _ ⟨xx,rfl⟩
 obtain ⟨w1,hb⟩:=xx
 try dsimp only
 go_wp2
 go_ret
 exact ⟨rfl,by (repeat' (first | exact Ext.refl _ | assumption | apply Ext.allocR | apply Ext.drewR | apply Ext.drewNR | (refine Ext.trans' ?_ (by assumption))))⟩
theorem own_ne {w:World} {base:Nat} {e:TypeId} {v:Value} {n:Nat} {xs:List Value} (h:w.ownsRow base e 1 v n xs) {c:Nat} (hc:c < base):∀ g off n cap,v=.slice (some ⟨g,off,none⟩) n cap→g≠c:=by
 intro g off n cap hv e
 have:=(h.lt g (by rw [hv]; rfl)).1
 omega
def PointPost (w:World) (C:Cfg) (lv:Int) (R W:Nat) (l:List Int) (key:Int) (e:Ending) (w':World):Prop :=
 ∃ x,e=.returned (.tuple #[.int .i64 x,.int .i64 0])∧IsKth (readL W l (cols C lv key)) (if C.mode=3 then (R - 1) / 2 else 0) x∧Ext w w'
set_option maxRecDepth 20000 in
set_option maxHeartbeats 2000000 in
theorem Point_c (s b c:Nat) (C:Cfg) (lv:Int) (R W:Nat) (l:List Int) (key:Int) (w:World) (h:SAt w s b c C lv R W l) (hk0:0≤key) (hk1:key < keys C lv) :
 Calls Tryz.prog 325 #[.pointer (some ⟨s,0,none⟩),.int .u64 key] w (PointPost w C lv R W l key):=by
 have hlt:=h.lts
 have c0:=(cell_of h.ex 0).trans rfl
 have c1:=(cell_of h.ex 1).trans rfl
 have c2:=(cell_of h.ex 2).trans rfl
 have c3:=(cell_of h.ex 3).trans rfl
 have c4:=(cell_of h.ex 4).trans rfl
 have c5:=(cell_of h.ex 5).trans rfl
 have c6:=(cell_of h.ex 6).trans rfl
 have hnil:=fun (x:World) (p:Option Addr) (n k:Nat)=>Lib.run_eql_slice_nil (P:=Tryz.prog) x 54 3 p n k 0 0 Tryz.underlying54
 have hm:=cols_meets C h.ok lv key h.hr h.hw
 by_cases hmode:C.mode=3
 · have hmb:(C.mode == 3)=true:=by simp [hmode]
   have HM:=Lib.hid hmode
   clear hmode
   go_enter Tryz.func325,Tryz.ntmps325
   go_wp2
   have hC0:=af_drew w
   refine pi_start (fun w'=>∃ x:After w,w'=x.w) [] (by kernel_rfl) ?_
   refine pi_t 0 rfl (by kernel_rfl) (by kernel_rfl) (fun _ _ _ _ h=>h) (fun K hK=>?_)
   go_big_quiet_op
   refine hK _ ?_
   clear hK K
   refine pi_t 1 rfl (by kernel_rfl) (by kernel_rfl) (fun _ _ _ _ h=>h) (fun K hK=>?_)
   go_big_quiet_op
   refine hK _ ?_
   clear hK K
   refine pi_t 2 rfl (by kernel_rfl) (by kernel_rfl) (fun _ _ _ _ h=>h) (fun K hK=>?_)
   go_big_quiet_op
   refine hK _ ?_
   clear hK K
   refine pi_c 3 (by assumption) rfl (by kernel_rfl) (by kernel_rfl) (fun _ _ _ _ h=>h) (fun K hK=>?_)
   go_big_quiet_op
   refine hK _ ?_
   clear hK K
   refine pi_t 4 rfl (by kernel_rfl) (by kernel_rfl) (fun _ _ _ _ h=>h) (fun K hK=>?_)
   go_big_quiet_op
   refine hK _ ?_
   clear hK K
   refine pi_t 5 rfl (by kernel_rfl) (by kernel_rfl) (fun _ _ _ _ h=>h) (fun K hK=>?_)
   go_big_quiet_op
   refine hK _ ?_
   clear hK K
   refine pi_t 6 rfl (by kernel_rfl) (by kernel_rfl) (fun _ _ _ _ h=>h) (fun K hK=>?_)
   go_big_quiet_op
   refine hK _ ?_
   clear hK K
   refine pi_c 7 (by assumption) rfl (by kernel_rfl) (by kernel_rfl) (fun _ _ _ _ h=>h) (fun K hK=>?_)
   go_big_quiet_op
   refine hK _ ?_
   clear hK K
   refine pi_t 8 rfl (by kernel_rfl) (by kernel_rfl) (fun _ _ _ _ h=>h) (fun K hK=>?_)
   go_big_quiet_op
   refine hK _ ?_
   clear hK K
   refine pi_l 9 rfl (by kernel_rfl) (fun K hK=>?_)
   go_wp2_with (go_at_call 24; refine (Columns_c C h.ok lv key h.lo h.hi (by have:=h.hi; have:=h.ok.b2; omega) hk0 hk1 _).mono ?_; rintro e w1 ⟨v,rfl,ho,hx0⟩)
   refine hK _ _ (fun _ h=>af_step h hx0) ?_
   clear hK K
   refine pi_t 10 rfl (by kernel_rfl) (by kernel_rfl) (fun _ _ _ _ h=>h) (fun K hK=>?_)
   go_big_quiet_op
   refine hK _ ?_
   clear hK K
   refine pi_end (by kernel_rfl) ?_
   have hx:Ext w w1:=Ext.trans' (Below.drew (Ext.refl w)) hx0
   have hv:=IntsAt.of_row ho
   have hne:=own_ne ho (c:=c) (by exact h.g.ltc)
   obtain ⟨vg,vo,vc,rfl,_⟩:=hv.slice (by rw [hm.len]; have:=h.g.r1; omega)
   rw [hm.len] at hv hne ⊢
   clear ho hx0
   have HV:=Lib.hid hv
   clear hv hne
   have hS:=h.ext hx
   have c0':=(cell_of hS.ex 0).trans rfl
   have c4':=(cell_of hS.ex 4).trans rfl
   clear c0 c1 c2 c3 c4 c5 c6
   go_wp2_with fail
   refine (Middle_c b c R W l _ _ _ hS.g HV.out hm).mono ?_
   rintro e w2 ⟨x,rfl,hk,hx2⟩
   go_wp2
   go_ret2
   exact ⟨x,rfl,by rw [if_pos HM.out]; exact hk,hx.trans' hx2⟩
 · have hmb:(C.mode == 3)=false:=by simp [hmode]
   have HM:=Lib.hid hmode
   clear hmode
   go_enter Tryz.func325,Tryz.ntmps325
   go_wp2
   have hC0:=af_drew w
   refine pi_start (fun w'=>∃ x:After w,w'=x.w) [] (by kernel_rfl) ?_
   refine pi_t 0 rfl (by kernel_rfl) (by kernel_rfl) (fun _ _ _ _ h=>h) (fun K hK=>?_)
   go_big_quiet_op
   refine hK _ ?_
   clear hK K
   refine pi_t 1 rfl (by kernel_rfl) (by kernel_rfl) (fun _ _ _ _ h=>h) (fun K hK=>?_)
   go_big_quiet_op
   refine hK _ ?_
   clear hK K
   refine pi_t 2 rfl (by kernel_rfl) (by kernel_rfl) (fun _ _ _ _ h=>h) (fun K hK=>?_)
   go_big_quiet_op
   refine hK _ ?_
   clear hK K
   refine pi_c 3 (by assumption) rfl (by kernel_rfl) (by kernel_rfl) (fun _ _ _ _ h=>h) (fun K hK=>?_)
   go_big_quiet_op
   refine hK _ ?_
   clear hK K
   refine pi_t 4 rfl (by kernel_rfl) (by kernel_rfl) (fun _ _ _ _ h=>h) (fun K hK=>?_)
   go_big_quiet_op
   refine hK _ ?_
   clear hK K
   refine pi_t 5 rfl (by kernel_rfl) (by kernel_rfl) (fun _ _ _ _ h=>h) (fun K hK=>?_)
   go_big_quiet_op
   refine hK _ ?_
   clear hK K
   refine pi_t 6 rfl (by kernel_rfl) (by kernel_rfl) (fun _ _ _ _ h=>h) (fun K hK=>?_)
   go_big_quiet_op
   refine hK _ ?_
   clear hK K
   refine pi_c 7 (by assumption) rfl (by kernel_rfl) (by kernel_rfl) (fun _ _ _ _ h=>h) (fun K hK=>?_)
   go_big_quiet_op
   refine hK _ ?_
   clear hK K
   refine pi_t 8 rfl (by kernel_rfl) (by kernel_rfl) (fun _ _ _ _ h=>h) (fun K hK=>?_)
   go_big_quiet_op
   refine hK _ ?_
   clear hK K
   refine pi_l 9 rfl (by kernel_rfl) (fun K hK=>?_)
   go_wp2_with (go_at_call 24; refine (Columns_c C h.ok lv key h.lo h.hi (by have:=h.hi; have:=h.ok.b2; omega) hk0 hk1 _).mono ?_; rintro e w1 ⟨v,rfl,ho,hx0⟩)
   refine hK _ _ (fun _ h=>af_step h hx0) ?_
   clear hK K
   refine pi_t 10 rfl (by kernel_rfl) (by kernel_rfl) (fun _ _ _ _ h=>h) (fun K hK=>?_)
   go_big_quiet_op
   refine hK _ ?_
   clear hK K
   refine pi_end (by kernel_rfl) ?_
   have hx:Ext w w1:=Ext.trans' (Below.drew (Ext.refl w)) hx0
   have hv:=IntsAt.of_row ho
   have hne:=own_ne ho (c:=c) (by exact h.g.ltc)
   obtain ⟨vg,vo,vc,rfl,_⟩:=hv.slice (by rw [hm.len]; have:=h.g.r1; omega)
   rw [hm.len] at hv hne ⊢
   clear ho hx0
   have HV:=Lib.hid hv
   clear hv hne
   have hS:=h.ext hx
   have c0':=(cell_of hS.ex 0).trans rfl
   have c4':=(cell_of hS.ex 4).trans rfl
   clear c0 c1 c2 c3 c4 c5 c6
   go_wp2_with fail
   refine (Least_c b c R W l _ _ _ hS.g HV.out hm).mono ?_
   rintro e w2 ⟨x,rfl,hk,hx2⟩
   go_wp2
   go_ret2
   exact ⟨x,rfl,by rw [if_neg HM.out]; exact hk,hx.trans' hx2⟩
end Go.Proofs.YtmalncfcgcebhaaGreatDoor
namespace Go.Proofs.YtmalncfcgcebhaaGreatDoor
open Go.RowKit
def minL:List Int→Int
 | []=>0
 | [x]=>x
 | x :: y :: l=>min x (minL (y :: l))
theorem minL_spec:∀ (l:List Int),l≠[]→minL l∈l∧∀ y∈l,minL l≤y
 | [],h=>absurd rfl h
 | [x],_=>by simp [minL]
 | x :: y :: l,_=>by
   obtain ⟨h1,h2⟩:=minL_spec (y :: l) (by simp)
   rw [minL]
   refine ⟨?_,fun z hz=>?_⟩
   · rcases Int.le_total x (minL (y :: l)) with h | h
     · rw [Int.min_eq_left h]; simp
     · rw [Int.min_eq_right h]; exact List.mem_cons_of_mem _ h1
   · rcases List.mem_cons.1 hz with rfl | hz
     · exact Int.min_le_left _ _
     · exact Int.le_trans (Int.min_le_right _ _) (h2 z hz)
theorem less_nil {x:Int} {l:List Int} (h:∀ y∈l,x≤y):(lessL x l).length=0:=by
 unfold lessL
 rw [List.length_eq_zero_iff,List.filter_eq_nil_iff]
 intro y hy
 have:=h y hy
 simp; omega
theorem kth0_min {l:List Int} {x:Int} (h:IsKth l 0 x):minL l=x:=by
 have hx:x∈l:=sameN_pos (by have:=h.1; have:=h.2; omega)
 obtain ⟨h1,h2⟩:=minL_spec l (by intro e; rw [e] at hx; cases hx)
 exact kth_unique (k:=0) ⟨by rw [less_nil h2]; exact Nat.le_refl _,by have:=same_mem h1; omega⟩ h
def allFit (W:Nat) (cs l:List Int) (d:Int) (R:Nat):Bool:=(List.range R).all fun k=>fitB (l.getD (at_ W cs k) 0+d)
theorem allFit_iff {W:Nat} {cs l:List Int} {d:Int} {R:Nat}:allFit W cs l d R=true ↔ fitsAll W cs l d R:=by
 unfold allFit fitsAll
 rw [List.all_eq_true]
 constructor
 · intro h k hk
   exact of_decide_eq_true (p:=-9223372036854775808≤l.getD (at_ W cs k) 0+d∧l.getD (at_ W cs k) 0+d≤9223372036854775807) (h k (List.mem_range.2 hk))
 · intro h k hk
   exact fitB_yes (h k (List.mem_range.1 hk))
def errU (C:Cfg) (lv:Int) (R W:Nat) (l:List Int) (key d:Int):Int :=
 bif decide (key < keys C lv) then
  (bif decide (C.mode=2) then (bif decide (d < 0) then 3 else bif fitB (minL (readL W l (cols C lv key))+d) then 0 else 4)
   else bif allFit W (cols C lv key) l d R then 0 else 4)
 else 2
def CheckPost (w:World) (C:Cfg) (lv:Int) (R W:Nat) (l:List Int) (key d:Int) (e:Ending) (w':World):Prop :=
 e=.returned (.int .i64 (errU C lv R W l key d))∧Ext w w'
theorem errU_key {C:Cfg} {lv:Int} {R W:Nat} {l:List Int} {key d:Int} (h:keys C lv≤key):errU C lv R W l key d=2:=by
 unfold errU; rw [decide_eq_false (by omega)]; rfl
theorem errU_sum {C:Cfg} {lv:Int} {R W:Nat} {l:List Int} {key d:Int} (h:key < keys C lv) (hm:C.mode≠2):errU C lv R W l key d=bif allFit W (cols C lv key) l d R then 0 else 4:=by
 unfold errU; rw [decide_eq_true h,decide_eq_false hm]; rfl
theorem errU_neg {C:Cfg} {lv:Int} {R W:Nat} {l:List Int} {key d:Int} (h:key < keys C lv) (hm:C.mode=2) (hd:d < 0):errU C lv R W l key d=3:=by
 unfold errU; rw [decide_eq_true h,decide_eq_true hm,decide_eq_true hd]; rfl
theorem errU_con {C:Cfg} {lv:Int} {R W:Nat} {l:List Int} {key d:Int} (h:key < keys C lv) (hm:C.mode=2) (hd:¬ d < 0):errU C lv R W l key d=bif fitB (minL (readL W l (cols C lv key))+d) then 0 else 4:=by
 unfold errU; rw [decide_eq_true h,decide_eq_true hm,decide_eq_false hd]; rfl
set_option maxRecDepth 20000 in
set_option maxHeartbeats 2000000 in
theorem Check_sum (s b c:Nat) (C:Cfg) (lv:Int) (R W:Nat) (l:List Int) (key d:Int) (w:World) (h:SAt w s b c C lv R W l) (hd:I64 d) (hk0:0≤key) (hk1:key < keys C lv) (hmode:C.mode≠2) :
 Calls Tryz.prog 323 #[.pointer (some ⟨s,0,none⟩),.int .u64 key,.int .i64 d] w (CheckPost w C lv R W l key d):=by
 have hlt:=h.lts
 have c0:=(cell_of h.ex 0).trans rfl
 have c1:=(cell_of h.ex 1).trans rfl
 have c2:=(cell_of h.ex 2).trans rfl
 have c3:=(cell_of h.ex 3).trans rfl
 have c4:=(cell_of h.ex 4).trans rfl
 have c5:=(cell_of h.ex 5).trans rfl
 have c6:=(cell_of h.ex 6).trans rfl
 have hnil:=fun (x:World) (p:Option Addr) (n k:Nat)=>Lib.run_eql_slice_nil (P:=Tryz.prog) x 54 3 p n k 0 0 Tryz.underlying54
 have hm:=cols_meets C h.ok lv key h.hr h.hw
 have hmb:(C.mode == 2)=false:=by simp [hmode]
 have HE:=Lib.hid (errU_sum (R:=R) (W:=W) (l:=l) (d:=d) hk1 hmode)
 go_enter Tryz.func323,Tryz.ntmps323
 go_wp2
 have hC0:=af_drew w
 refine pi_start (fun w'=>∃ x:After w,w'=x.w) [] (by kernel_rfl) ?_
 refine pi_t 0 rfl (by kernel_rfl) (by kernel_rfl) (fun _ _ _ _ h=>h) (fun K hK=>?_)
 go_big_quiet_op
 refine hK _ ?_
 clear hK K
 refine pi_t 1 rfl (by kernel_rfl) (by kernel_rfl) (fun _ _ _ _ h=>h) (fun K hK=>?_)
 go_big_quiet_op
 refine hK _ ?_
 clear hK K
 refine pi_t 2 rfl (by kernel_rfl) (by kernel_rfl) (fun _ _ _ _ h=>h) (fun K hK=>?_)
 go_big_quiet_op
 refine hK _ ?_
 clear hK K
 refine pi_c 3 (by assumption) rfl (by kernel_rfl) (by kernel_rfl) (fun _ _ _ _ h=>h) (fun K hK=>?_)
 go_big_quiet_op
 refine hK _ ?_
 clear hK K
 refine pi_t 4 rfl (by kernel_rfl) (by kernel_rfl) (fun _ _ _ _ h=>h) (fun K hK=>?_)
 go_big_quiet_op
 refine hK _ ?_
 clear hK K
 refine pi_t 5 rfl (by kernel_rfl) (by kernel_rfl) (fun _ _ _ _ h=>h) (fun K hK=>?_)
 go_big_quiet_op
 refine hK _ ?_
 clear hK K
 refine pi_t 6 rfl (by kernel_rfl) (by kernel_rfl) (fun _ _ _ _ h=>h) (fun K hK=>?_)
 go_big_quiet_op
 refine hK _ ?_
 clear hK K
 refine pi_c 7 (by assumption) rfl (by kernel_rfl) (by kernel_rfl) (fun _ _ _ _ h=>h) (fun K hK=>?_)
 go_big_quiet_op
 refine hK _ ?_
 clear hK K
 refine pi_t 8 rfl (by kernel_rfl) (by kernel_rfl) (fun _ _ _ _ h=>h) (fun K hK=>?_)
 go_big_quiet_op
 refine hK _ ?_
 clear hK K
 refine pi_l 9 rfl (by kernel_rfl) (fun K hK=>?_)
 go_wp2_with (go_at_call 24; refine (Columns_c C h.ok lv key h.lo h.hi (by have:=h.hi; have:=h.ok.b2; omega) hk0 hk1 _).mono ?_; rintro e w1 ⟨v,rfl,ho,hx0⟩)
 refine hK _ _ (fun _ h=>af_step h hx0) ?_
 clear hK K
 refine pi_t 10 rfl (by kernel_rfl) (by kernel_rfl) (fun _ _ _ _ h=>h) (fun K hK=>?_)
 go_big_quiet_op
 refine hK _ ?_
 clear hK K
 refine pi_end (by kernel_rfl) ?_
 have hx:Ext w w1:=Ext.trans' (Below.drew (Ext.refl w)) hx0
 have hv:=IntsAt.of_row ho
 have hne:=own_ne ho (c:=c) (by exact h.g.ltc)
 obtain ⟨vg,vo,vc,rfl,_⟩:=hv.slice (by rw [hm.len]; have:=h.g.r1; omega)
 rw [hm.len] at hv hne ⊢
 clear ho hx0
 have HV:=Lib.hid hv
 clear hv hne
 have hS:=h.ext hx
 have c0':=(cell_of hS.ex 0).trans rfl
 clear c0 c1 c2 c3 c4 c5 c6
 go_wp2_with fail
 refine (Read_c b c R W l _ _ _ hS.g HV.out hm).mono ?_
 rintro e w2 ⟨v2,rfl,ho2,hx2⟩
 have hS2:=hS.ext hx2
 have c4':=(cell_of hS2.ex 4).trans rfl
 have r1:=h.g.r1
 have r2:=h.g.r2
 obtain ⟨g2,cap2,rfl,hg2,hca⟩:=CAt.of_row ho2 (by rw [hm.len]; omega)
 rw [readL_len,hm.len]
 have hlt2:=hca.lt
 have hle:=hca.le
 rw [readL_len,hm.len] at hle
 have hmx:=hca.mx
 unfold maxLen at hmx
 have hE2:Ext w w2:=hx.trans' hx2
 clear ho2 c0'
 go_wp2
 go_loopw [61] (fun u wr=>∃ k:Nat,k≤R∧u=.int .i64 k∧Ext w2 wr∧∀ j,j < k→fitB (l.getD (at_ W (cols C lv key) j) 0+d)=true) (fun u _=>R - (intOf u).toNat)
 case atStart=>exact ⟨0,Nat.zero_le _,rfl,Ext.refl _,fun j hj=>absurd hj (Nat.not_lt_zero _)⟩
 case round =>
  obtain ⟨k,hk,rfl,hxr,hall⟩:=hrel
  have HALL:=Lib.hid hall
  clear hall
  by_cases hlt3:k < R
  · have d0:=((bcell hxr).1 g2 k hlt2).trans (hca.cell (i:=k) (by rw [readL_len,hm.len]; exact hlt3))
    rw [readL_get (by rw [hm.len]; exact hlt3)] at d0
    have hyI:=getD_i64 h.fit (at_ W (cols C lv key) k)
    obtain ⟨y,hy⟩:∃ y,l.getD (at_ W (cols C lv key) k) 0=y:=⟨_,rfl⟩
    rw [hy] at d0 hyI
    have HY:=Lib.hid hy
    clear hy
    by_cases hfit:I64 (y+d)
    · have fb:=fitB_yes hfit
      go_wp2_with fail
      refine (Plus_c y d hyI hd _).mono ?_
      rintro e w3 ⟨rfl,hb3⟩
      go_wp2
      go_roundw
      case rel =>
       refine ⟨k+1,by omega,by go_num,hxr.trans' hb3,fun j hj=>?_⟩
       rcases Nat.lt_or_eq_of_le (Nat.le_of_lt_succ hj) with h' | rfl
       · exact HALL.out j h'
       · rw [HY.out]; exact fitB_yes hfit
      case measure=>simp [intOf]; omega
    · have fb:=fitB_no hfit
      go_wp2_with fail
      refine (Plus_c y d hyI hd _).mono ?_
      rintro e w3 ⟨rfl,hb3⟩
      go_wp2
      go_ret
      refine ⟨?_,hE2.trans' (hxr.trans' hb3)⟩
      rw [HE.out]
      cases hA:allFit W (cols C lv key) l d R with
      | false=>rfl
      | true=>exact absurd (by rw [← HY.out]; exact allFit_iff.1 hA k hlt3) hfit
  · go_wp2
    go_ret
    obtain rfl:k=R:=by omega
    refine ⟨?_,hE2.trans' hxr⟩
    rw [HE.out,show allFit W (cols C lv key) l d k=true from List.all_eq_true.2 (fun j hj=>HALL.out j (List.mem_range.1 hj))]
    rfl
end Go.Proofs.YtmalncfcgcebhaaGreatDoor
namespace Go.Proofs.YtmalncfcgcebhaaGreatDoor
open Go.RowKit
set_option maxRecDepth 20000 in
set_option maxHeartbeats 2000000 in
theorem Check_no (s b c:Nat) (C:Cfg) (lv:Int) (R W:Nat) (l:List Int) (key d:Int) (w:World) (h:SAt w s b c C lv R W l) (hk1:keys C lv≤key) :
 Calls Tryz.prog 323 #[.pointer (some ⟨s,0,none⟩),.int .u64 key,.int .i64 d] w (CheckPost w C lv R W l key d):=by
 have hlt:=h.lts
 have c0:=(cell_of h.ex 0).trans rfl
 have c1:=(cell_of h.ex 1).trans rfl
 have c2:=(cell_of h.ex 2).trans rfl
 have c3:=(cell_of h.ex 3).trans rfl
 have c4:=(cell_of h.ex 4).trans rfl
 have c5:=(cell_of h.ex 5).trans rfl
 have c6:=(cell_of h.ex 6).trans rfl
 have hnil:=fun (x:World) (p:Option Addr) (n k:Nat)=>Lib.run_eql_slice_nil (P:=Tryz.prog) x 54 3 p n k 0 0 Tryz.underlying54
 have HE:=Lib.hid (errU_key (R:=R) (W:=W) (l:=l) (d:=d) hk1)
 go_enter Tryz.func323,Tryz.ntmps323
 go_wp2
 have hC0:=af_drew w
 refine pi_start (fun w'=>∃ x:After w,w'=x.w) [] (by kernel_rfl) ?_
 refine pi_t 0 rfl (by kernel_rfl) (by kernel_rfl) (fun _ _ _ _ h=>h) (fun K hK=>?_)
 go_big_quiet_op
 refine hK _ ?_
 clear hK K
 refine pi_t 1 rfl (by kernel_rfl) (by kernel_rfl) (fun _ _ _ _ h=>h) (fun K hK=>?_)
 go_big_quiet_op
 refine hK _ ?_
 clear hK K
 refine pi_t 2 rfl (by kernel_rfl) (by kernel_rfl) (fun _ _ _ _ h=>h) (fun K hK=>?_)
 go_big_quiet_op
 refine hK _ ?_
 clear hK K
 refine pi_c 3 (by assumption) rfl (by kernel_rfl) (by kernel_rfl) (fun _ _ _ _ h=>h) (fun K hK=>?_)
 go_big_quiet_op
 refine hK _ ?_
 clear hK K
 refine pi_t 4 rfl (by kernel_rfl) (by kernel_rfl) (fun _ _ _ _ h=>h) (fun K hK=>?_)
 go_big_quiet_op
 refine hK _ ?_
 clear hK K
 refine pi_t 5 rfl (by kernel_rfl) (by kernel_rfl) (fun _ _ _ _ h=>h) (fun K hK=>?_)
 go_big_quiet_op
 refine hK _ ?_
 clear hK K
 refine pi_t 6 rfl (by kernel_rfl) (by kernel_rfl) (fun _ _ _ _ h=>h) (fun K hK=>?_)
 go_big_quiet_op
 refine hK _ ?_
 clear hK K
 refine pi_c 7 (by assumption) rfl (by kernel_rfl) (by kernel_rfl) (fun _ _ _ _ h=>h) (fun K hK=>?_)
 go_big_quiet_op
 refine hK _ ?_
 clear hK K
 refine pi_t 8 rfl (by kernel_rfl) (by kernel_rfl) (fun _ _ _ _ h=>h) (fun K hK=>?_)
 go_big_quiet_op
 refine hK _ ?_
 clear hK K
 refine pi_l 9 rfl (by kernel_rfl) (fun K hK=>?_)
 go_wp2_with (go_at_call 24; refine (Columns_no C h.ok lv key h.lo h.hi hk1 _).mono ?_; rintro e w1 ⟨rfl,hx0⟩)
 refine hK _ _ (fun _ h=>af_step h hx0) ?_
 clear hK K
 refine pi_t 10 rfl (by kernel_rfl) (by kernel_rfl) (fun _ _ _ _ h=>h) (fun K hK=>?_)
 go_big_quiet_op
 refine hK _ ?_
 clear hK K
 refine pi_end (by kernel_rfl) ?_
 have hx:Ext w w1:=Ext.trans' (Below.drew (Ext.refl w)) hx0
 go_wp2
 go_ret
 exact ⟨by rw [HE.out]; rfl,hx⟩
set_option maxRecDepth 20000 in
set_option maxHeartbeats 2000000 in
theorem Check_con (s b c:Nat) (C:Cfg) (lv:Int) (R W:Nat) (l:List Int) (key d:Int) (w:World) (h:SAt w s b c C lv R W l) (hd:I64 d) (hk0:0≤key) (hk1:key < keys C lv) (hmode:C.mode=2) :
 Calls Tryz.prog 323 #[.pointer (some ⟨s,0,none⟩),.int .u64 key,.int .i64 d] w (CheckPost w C lv R W l key d):=by
 have hlt:=h.lts
 have c0:=(cell_of h.ex 0).trans rfl
 have c1:=(cell_of h.ex 1).trans rfl
 have c2:=(cell_of h.ex 2).trans rfl
 have c3:=(cell_of h.ex 3).trans rfl
 have c4:=(cell_of h.ex 4).trans rfl
 have c5:=(cell_of h.ex 5).trans rfl
 have c6:=(cell_of h.ex 6).trans rfl
 have hnil:=fun (x:World) (p:Option Addr) (n k:Nat)=>Lib.run_eql_slice_nil (P:=Tryz.prog) x 54 3 p n k 0 0 Tryz.underlying54
 have hm:=cols_meets C h.ok lv key h.hr h.hw
 have hmb:(C.mode == 2)=true:=by simp [hmode]
 by_cases hdn:d < 0
 · have HE:=Lib.hid (errU_neg (R:=R) (W:=W) (l:=l) hk1 hmode hdn)
   have hdb:decide (d < 0)=true:=by simp [hdn]
   clear hmode
   go_enter Tryz.func323,Tryz.ntmps323
   go_wp2
   have hC0:=af_drew w
   refine pi_start (fun w'=>∃ x:After w,w'=x.w) [] (by kernel_rfl) ?_
   refine pi_t 0 rfl (by kernel_rfl) (by kernel_rfl) (fun _ _ _ _ h=>h) (fun K hK=>?_)
   go_big_quiet_op
   refine hK _ ?_
   clear hK K
   refine pi_t 1 rfl (by kernel_rfl) (by kernel_rfl) (fun _ _ _ _ h=>h) (fun K hK=>?_)
   go_big_quiet_op
   refine hK _ ?_
   clear hK K
   refine pi_t 2 rfl (by kernel_rfl) (by kernel_rfl) (fun _ _ _ _ h=>h) (fun K hK=>?_)
   go_big_quiet_op
   refine hK _ ?_
   clear hK K
   refine pi_c 3 (by assumption) rfl (by kernel_rfl) (by kernel_rfl) (fun _ _ _ _ h=>h) (fun K hK=>?_)
   go_big_quiet_op
   refine hK _ ?_
   clear hK K
   refine pi_t 4 rfl (by kernel_rfl) (by kernel_rfl) (fun _ _ _ _ h=>h) (fun K hK=>?_)
   go_big_quiet_op
   refine hK _ ?_
   clear hK K
   refine pi_t 5 rfl (by kernel_rfl) (by kernel_rfl) (fun _ _ _ _ h=>h) (fun K hK=>?_)
   go_big_quiet_op
   refine hK _ ?_
   clear hK K
   refine pi_t 6 rfl (by kernel_rfl) (by kernel_rfl) (fun _ _ _ _ h=>h) (fun K hK=>?_)
   go_big_quiet_op
   refine hK _ ?_
   clear hK K
   refine pi_c 7 (by assumption) rfl (by kernel_rfl) (by kernel_rfl) (fun _ _ _ _ h=>h) (fun K hK=>?_)
   go_big_quiet_op
   refine hK _ ?_
   clear hK K
   refine pi_t 8 rfl (by kernel_rfl) (by kernel_rfl) (fun _ _ _ _ h=>h) (fun K hK=>?_)
   go_big_quiet_op
   refine hK _ ?_
   clear hK K
   refine pi_l 9 rfl (by kernel_rfl) (fun K hK=>?_)
   go_wp2_with (go_at_call 24; refine (Columns_c C h.ok lv key h.lo h.hi (by have:=h.hi; have:=h.ok.b2; omega) hk0 hk1 _).mono ?_; rintro e w1 ⟨v,rfl,ho,hx0⟩)
   refine hK _ _ (fun _ h=>af_step h hx0) ?_
   clear hK K
   refine pi_t 10 rfl (by kernel_rfl) (by kernel_rfl) (fun _ _ _ _ h=>h) (fun K hK=>?_)
   go_big_quiet_op
   refine hK _ ?_
   clear hK K
   refine pi_end (by kernel_rfl) ?_
   have hx:Ext w w1:=Ext.trans' (Below.drew (Ext.refl w)) hx0
   have hv:=IntsAt.of_row ho
   have hne:=own_ne ho (c:=c) (by exact h.g.ltc)
   obtain ⟨vg,vo,vc,rfl,_⟩:=hv.slice (by rw [hm.len]; have:=h.g.r1; omega)
   rw [hm.len] at hv hne ⊢
   clear ho hx0
   have HV:=Lib.hid hv
   clear hv hne
   have hS:=h.ext hx
   have c0':=(cell_of hS.ex 0).trans rfl
   clear c0 c1 c2 c3 c4 c5 c6
   go_wp2_with fail
   refine (Read_c b c R W l _ _ _ hS.g HV.out hm).mono ?_
   rintro e w2 ⟨v2,rfl,ho2,hx2⟩
   have hS2:=hS.ext hx2
   have c4':=(cell_of hS2.ex 4).trans rfl
   go_wp2
   go_ret
   exact ⟨by rw [HE.out]; rfl,hx.trans' hx2⟩
 · have HE:=Lib.hid (errU_con (R:=R) (W:=W) (l:=l) hk1 hmode hdn)
   have hdb:decide (d < 0)=false:=by simp; omega
   clear hmode
   go_enter Tryz.func323,Tryz.ntmps323
   go_wp2
   have hC0:=af_drew w
   refine pi_start (fun w'=>∃ x:After w,w'=x.w) [] (by kernel_rfl) ?_
   refine pi_t 0 rfl (by kernel_rfl) (by kernel_rfl) (fun _ _ _ _ h=>h) (fun K hK=>?_)
   go_big_quiet_op
   refine hK _ ?_
   clear hK K
   refine pi_t 1 rfl (by kernel_rfl) (by kernel_rfl) (fun _ _ _ _ h=>h) (fun K hK=>?_)
   go_big_quiet_op
   refine hK _ ?_
   clear hK K
   refine pi_t 2 rfl (by kernel_rfl) (by kernel_rfl) (fun _ _ _ _ h=>h) (fun K hK=>?_)
   go_big_quiet_op
   refine hK _ ?_
   clear hK K
   refine pi_c 3 (by assumption) rfl (by kernel_rfl) (by kernel_rfl) (fun _ _ _ _ h=>h) (fun K hK=>?_)
   go_big_quiet_op
   refine hK _ ?_
   clear hK K
   refine pi_t 4 rfl (by kernel_rfl) (by kernel_rfl) (fun _ _ _ _ h=>h) (fun K hK=>?_)
   go_big_quiet_op
   refine hK _ ?_
   clear hK K
   refine pi_t 5 rfl (by kernel_rfl) (by kernel_rfl) (fun _ _ _ _ h=>h) (fun K hK=>?_)
   go_big_quiet_op
   refine hK _ ?_
   clear hK K
   refine pi_t 6 rfl (by kernel_rfl) (by kernel_rfl) (fun _ _ _ _ h=>h) (fun K hK=>?_)
   go_big_quiet_op
   refine hK _ ?_
   clear hK K
   refine pi_c 7 (by assumption) rfl (by kernel_rfl) (by kernel_rfl) (fun _ _ _ _ h=>h) (fun K hK=>?_)
   go_big_quiet_op
   refine hK _ ?_
   clear hK K
   refine pi_t 8 rfl (by kernel_rfl) (by kernel_rfl) (fun _ _ _ _ h=>h) (fun K hK=>?_)
   go_big_quiet_op
   refine hK _ ?_
   clear hK K
   refine pi_l 9 rfl (by kernel_rfl) (fun K hK=>?_)
   go_wp2_with (go_at_call 24; refine (Columns_c C h.ok lv key h.lo h.hi (by have:=h.hi; have:=h.ok.b2; omega) hk0 hk1 _).mono ?_; rintro e w1 ⟨v,rfl,ho,hx0⟩)
   refine hK _ _ (fun _ h=>af_step h hx0) ?_
   clear hK K
   refine pi_t 10 rfl (by kernel_rfl) (by kernel_rfl) (fun _ _ _ _ h=>h) (fun K hK=>?_)
   go_big_quiet_op
   refine hK _ ?_
   clear hK K
   refine pi_end (by kernel_rfl) ?_
   have hx:Ext w w1:=Ext.trans' (Below.drew (Ext.refl w)) hx0
   have hv:=IntsAt.of_row ho
   have hne:=own_ne ho (c:=c) (by exact h.g.ltc)
   obtain ⟨vg,vo,vc,rfl,_⟩:=hv.slice (by rw [hm.len]; have:=h.g.r1; omega)
   rw [hm.len] at hv hne ⊢
   clear ho hx0
   have HV:=Lib.hid hv
   clear hv hne
   have hS:=h.ext hx
   have c0':=(cell_of hS.ex 0).trans rfl
   clear c0 c1 c2 c3 c4 c5 c6
   go_wp2_with fail
   refine (Read_c b c R W l _ _ _ hS.g HV.out hm).mono ?_
   rintro e w2 ⟨v2,rfl,ho2,hx2⟩
   have hS2:=hS.ext hx2
   have c4':=(cell_of hS2.ex 4).trans rfl
   have c0'':=(cell_of hS2.ex 0).trans rfl
   clear ho2
   go_wp2_with fail
   refine (Least_c b c R W l _ _ _ hS2.g (HV.out.ext hx2) hm).mono ?_
   rintro e w3 ⟨x,rfl,hk,hx3⟩
   have hmin:=kth0_min hk
   have hxI:I64 x:=by
    have hmem:x∈readL W l (cols C lv key):=sameN_pos (by have:=hk.1; have:=hk.2; omega)
    simp only [readL,List.mem_map,List.mem_range] at hmem
    obtain ⟨j,_,rfl⟩:=hmem
    exact getD_i64 h.fit _
   have HM:=Lib.hid hmin
   have hE:Ext w w3:=(hx.trans' hx2).trans' hx3
   clear hmin hk c0' c4' c0''
   by_cases hfit:I64 (x+d)
   · have fb:=fitB_yes hfit
     go_wp2
     refine wp_loop_rounds 2 ?_
     rw [rounds_succ]
     go_wp2_with fail
     refine (Plus_c x d hxI hd _).mono ?_
     rintro e w4 ⟨rfl,hb4⟩
     go_wp2
     rw [rounds_succ]
     go_wp2
     go_ret
     exact ⟨by rw [HE.out,HM.out,fb]; rfl,by (repeat' (first | exact Ext.refl _ | assumption | apply Ext.allocR | apply Ext.drewR | apply Ext.drewNR | (refine Ext.trans' ?_ (by assumption))))⟩
   · have fb:=fitB_no hfit
     go_wp2
     refine wp_loop_rounds 2 ?_
     rw [rounds_succ]
     go_wp2_with fail
     refine (Plus_c x d hxI hd _).mono ?_
     rintro e w4 ⟨rfl,hb4⟩
     go_wp2
     go_ret
     exact ⟨by rw [HE.out,HM.out,fb]; rfl,by (repeat' (first | exact Ext.refl _ | assumption | apply Ext.allocR | apply Ext.drewR | apply Ext.drewNR | (refine Ext.trans' ?_ (by assumption))))⟩
theorem Check_c (s b c:Nat) (C:Cfg) (lv:Int) (R W:Nat) (l:List Int) (key d:Int) (w:World) (h:SAt w s b c C lv R W l) (hd:I64 d) (hk0:0≤key) :
 Calls Tryz.prog 323 #[.pointer (some ⟨s,0,none⟩),.int .u64 key,.int .i64 d] w (CheckPost w C lv R W l key d):=by
 by_cases hk:key < keys C lv
 · by_cases hm:C.mode=2
   · exact Check_con s b c C lv R W l key d w h hd hk0 hk hm
   · exact Check_sum s b c C lv R W l key d w h hd hk0 hk hm
 · exact Check_no s b c C lv R W l key d w h (by omega)
end Go.Proofs.YtmalncfcgcebhaaGreatDoor
namespace Go.Proofs.YtmalncfcgcebhaaGreatDoor
open Go.RowKit
def updL (C:Cfg) (lv:Int) (R W:Nat) (l:List Int) (key d:Int):List Int :=
 bif decide (C.mode=2) then putK W (cols C lv key) (fun k=>max (l.getD (at_ W (cols C lv key) k) 0) (minL (readL W l (cols C lv key))+d)) R l
 else putK W (cols C lv key) (fun k=>l.getD (at_ W (cols C lv key) k) 0+d) R l
theorem mem_set {l:List Int} {i:Nat} {v x:Int} (h:x∈l.set i v):x∈l∨x=v:=by
 rcases List.mem_or_eq_of_mem_set h with h | h
 · exact .inl h
 · exact .inr h
theorem putK_mem {W:Nat} {cs:List Int} {f:Nat→Int} {l:List Int} {x:Int}:∀ k,x∈putK W cs f k l→x∈l∨∃ j,j < k∧x=f j:=by
 intro k
 induction k with
 | zero=>intro h; exact .inl h
 | succ k ih =>
   intro h
   rw [putK] at h
   rcases mem_set h with h | h
   · rcases ih h with h | ⟨j,hj,h⟩
     · exact .inl h
     · exact .inr ⟨j,by omega,h⟩
   · exact .inr ⟨k,by omega,h⟩
def UpdPost (w:World) (s b c:Nat) (C:Cfg) (lv:Int) (R W:Nat) (l:List Int) (key d:Int) (e:Ending) (w':World):Prop :=
 e=.returned (.int .i64 (errU C lv R W l key d)) ∧
   ((errU C lv R W l key d=0∧SAt w' s b c C lv R W (updL C lv R W l key d)∧Mod (fun k=>k=c) w w')∨(errU C lv R W l key d≠0∧Ext w w'))
theorem errU_zero_key {C:Cfg} {lv:Int} {R W:Nat} {l:List Int} {key d:Int} (h:errU C lv R W l key d=0):key < keys C lv:=by
 rcases Int.lt_or_le key (keys C lv) with h' | h'
 · exact h'
 · rw [errU_key h'] at h; cases h
set_option maxRecDepth 20000 in
set_option maxHeartbeats 2000000 in
theorem Update_c (s b c:Nat) (C:Cfg) (lv:Int) (R W:Nat) (l:List Int) (key d:Int) (w:World) (h:SAt w s b c C lv R W l) (hd:I64 d) (hk0:0≤key) :
 Calls Tryz.prog 326 #[.pointer (some ⟨s,0,none⟩),.int .u64 key,.int .i64 d] w (UpdPost w s b c C lv R W l key d):=by
 by_cases he0:errU C lv R W l key d=0
 · have hk1:=errU_zero_key he0
   have HE:=Lib.hid he0
   clear he0
   have hW:=h
   go_enter Tryz.func326,Tryz.ntmps326
   go_wp2_with fail
   refine (Check_c s b c C lv R W l key d _ h hd hk0).mono ?_
   rintro e w0 ⟨rfl,hx00⟩
   rw [HE.out]
   have h:=h.ext hx00
   have hlt:=h.lts
   have c0:=(cell_of h.ex 0).trans rfl
   have c1:=(cell_of h.ex 1).trans rfl
   have c2:=(cell_of h.ex 2).trans rfl
   have c3:=(cell_of h.ex 3).trans rfl
   have c4:=(cell_of h.ex 4).trans rfl
   have c5:=(cell_of h.ex 5).trans rfl
   have c6:=(cell_of h.ex 6).trans rfl
   have hm:=cols_meets C h.ok lv key h.hr h.hw
   go_wp2
   have hC0:=af_drew w0
   refine pi_start (fun w'=>∃ x:After w0,w'=x.w) [] (by kernel_rfl) ?_
   refine pi_t 0 rfl (by kernel_rfl) (by kernel_rfl) (fun _ _ _ _ h=>h) (fun K hK=>?_)
   go_big_quiet_op
   refine hK _ ?_
   clear hK K
   refine pi_t 1 rfl (by kernel_rfl) (by kernel_rfl) (fun _ _ _ _ h=>h) (fun K hK=>?_)
   go_big_quiet_op
   refine hK _ ?_
   clear hK K
   refine pi_t 2 rfl (by kernel_rfl) (by kernel_rfl) (fun _ _ _ _ h=>h) (fun K hK=>?_)
   go_big_quiet_op
   refine hK _ ?_
   clear hK K
   refine pi_c 3 (by assumption) rfl (by kernel_rfl) (by kernel_rfl) (fun _ _ _ _ h=>h) (fun K hK=>?_)
   go_big_quiet_op
   refine hK _ ?_
   clear hK K
   refine pi_t 4 rfl (by kernel_rfl) (by kernel_rfl) (fun _ _ _ _ h=>h) (fun K hK=>?_)
   go_big_quiet_op
   refine hK _ ?_
   clear hK K
   refine pi_t 5 rfl (by kernel_rfl) (by kernel_rfl) (fun _ _ _ _ h=>h) (fun K hK=>?_)
   go_big_quiet_op
   refine hK _ ?_
   clear hK K
   refine pi_t 6 rfl (by kernel_rfl) (by kernel_rfl) (fun _ _ _ _ h=>h) (fun K hK=>?_)
   go_big_quiet_op
   refine hK _ ?_
   clear hK K
   refine pi_c 7 (by assumption) rfl (by kernel_rfl) (by kernel_rfl) (fun _ _ _ _ h=>h) (fun K hK=>?_)
   go_big_quiet_op
   refine hK _ ?_
   clear hK K
   refine pi_t 8 rfl (by kernel_rfl) (by kernel_rfl) (fun _ _ _ _ h=>h) (fun K hK=>?_)
   go_big_quiet_op
   refine hK _ ?_
   clear hK K
   refine pi_l 9 rfl (by kernel_rfl) (fun K hK=>?_)
   go_wp2_with (go_at_call 24; refine (Columns_c C h.ok lv key h.lo h.hi (by have:=h.hi; have:=h.ok.b2; omega) hk0 hk1 _).mono ?_; rintro e w1 ⟨v,rfl,ho,hx0⟩)
   refine hK _ _ (fun _ h=>af_step h hx0) ?_
   clear hK K
   refine pi_t 10 rfl (by kernel_rfl) (by kernel_rfl) (fun _ _ _ _ h=>h) (fun K hK=>?_)
   go_big_quiet_op
   refine hK _ ?_
   clear hK K
   refine pi_end (by kernel_rfl) ?_
   have hx:Ext w0 w1:=Ext.trans' (Below.drew (Ext.refl w0)) hx0
   have hv:=IntsAt.of_row ho
   have hne:=own_ne ho (c:=c) (by exact h.g.ltc)
   obtain ⟨vg,vo,vc,rfl,_⟩:=hv.slice (by rw [hm.len]; have:=h.g.r1; omega)
   rw [hm.len] at hv hne ⊢
   clear ho hx0
   have HV:=Lib.hid hv
   have HN:=Lib.hid hne
   clear hv hne
   have hS:=h.ext hx
   have c0':=(cell_of hS.ex 0).trans rfl
   have c4':=(cell_of hS.ex 4).trans rfl
   have hE:Ext w w1:=hx00.trans' hx
   clear c0 c1 c2 c3 c4 c5 c6
   by_cases hmode:C.mode=2
   · have hmb:(C.mode == 2)=true:=by simp [hmode]
     have HM:=Lib.hid hmode
     clear hmode
     go_wp2_with fail
     refine (Raise_c b c R W l _ _ d _ hS.g h.fit hd HV.out hm HN.out).mono ?_
     intro e w2 hr
     have hz:=HE.out
     rcases hr with ⟨hdn,_⟩ | ⟨x,hk,hdn,⟨hf,rfl,hG,hM2⟩ | ⟨hf,_⟩⟩
     · rw [errU_neg hk1 HM.out hdn] at hz; cases hz
     · have hmin:=kth0_min hk
       go_wp2
       go_ret
       refine ⟨by rw [HE.out]; rfl,.inl ⟨HE.out, ?_,(hE.mod _).trans hM2⟩⟩
       have e1:updL C lv R W l key d=putK W (cols C lv key) (fun k=>max (l.getD (at_ W (cols C lv key) k) 0) (x+d)) R l:=by
        unfold updL; rw [decide_eq_true HM.out,hmin]; rfl
       rw [e1]
       refine ⟨by rw [hM2.block s hS.lts hS.nes]; exact hS.ex,hG,h.ok,h.lo,h.hi,h.hr,h.hw,fun z hz=>?_⟩
       rcases putK_mem R hz with h1 | ⟨j,_,rfl⟩
       · exact h.fit z h1
       · have:=getD_i64 h.fit (at_ W (cols C lv key) j)
         unfold I64 at *; omega
     · rw [errU_con hk1 HM.out (by omega),kth0_min hk,fitB_no hf] at hz; cases hz
   · have hmb:(C.mode == 2)=false:=by simp [hmode]
     have HM:=Lib.hid hmode
     clear hmode
     go_wp2_with fail
     refine (Change_c b c R W l _ _ d _ hS.g h.fit hd HV.out hm HN.out).mono ?_
     intro e w2 hr
     have hz:=HE.out
     rcases hr with ⟨hf,rfl,hG,hM2⟩ | ⟨hf,_⟩
     · go_wp2
       go_ret
       refine ⟨by rw [HE.out]; rfl,.inl ⟨HE.out, ?_,(hE.mod _).trans hM2⟩⟩
       have e1:updL C lv R W l key d=putK W (cols C lv key) (fun k=>l.getD (at_ W (cols C lv key) k) 0+d) R l:=by
        unfold updL; rw [decide_eq_false HM.out]; rfl
       rw [e1]
       refine ⟨by rw [hM2.block s hS.lts hS.nes]; exact hS.ex,hG,h.ok,h.lo,h.hi,h.hr,h.hw,fun z hz=>?_⟩
       rcases putK_mem R hz with h1 | ⟨j,hj,rfl⟩
       · exact h.fit z h1
       · exact hf j hj
     · rw [errU_sum hk1 HM.out,show allFit W (cols C lv key) l d R=false from Bool.eq_false_iff.2 (fun hA=>hf (allFit_iff.1 hA))] at hz; cases hz
 · have hb:(errU C lv R W l key d == 0)=false:=by simpa using he0
   go_enter Tryz.func326,Tryz.ntmps326
   go_wp2_with fail
   refine (Check_c s b c C lv R W l key d _ h hd hk0).mono ?_
   rintro e w0 ⟨rfl,hx00⟩
   go_wp2
   go_ret
   exact ⟨rfl,.inr ⟨he0,hx00⟩⟩
end Go.Proofs.YtmalncfcgcebhaaGreatDoor
namespace Go.Proofs.YtmalncfcgcebhaaGreatDoor
open Go.RowKit
set_option maxHeartbeats 1000000 in
theorem SCells_c (s b c:Nat) (C:Cfg) (lv:Int) (R W:Nat) (l:List Int) (w:World) (h:SAt w s b c C lv R W l) :
 Calls Tryz.prog 257 #[.pointer (some ⟨s,0,none⟩)] w fun e w'=>∃ v,e=.returned v∧w'.ownsRow w.heap.size 2 1 v l.length (ints l)∧(v=.slice none 0 0→False)∧Ext w w':=by
 have c0:=(cell_of h.ex 0).trans rfl
 go_enter Tryz.func257,Tryz.ntmps257
 go_wp2_with fail
 refine (GCells_c b c R W l _ h.g).mono ?_
 rintro e w1 ⟨v,rfl,h1,h2,h3⟩
 go_wp2
 go_ret
 exact ⟨v,rfl,h1,h2,h3⟩
set_option maxHeartbeats 1000000 in
theorem SLevel_c (s b c:Nat) (C:Cfg) (lv:Int) (R W:Nat) (l:List Int) (w:World) (h:SAt w s b c C lv R W l) :
 Calls Tryz.prog 256 #[.pointer (some ⟨s,0,none⟩)] w fun e w'=>e=.returned (.int .i64 lv)∧w=w':=by
 have c6:=(cell_of h.ex 6).trans rfl
 go_enter Tryz.func256,Tryz.ntmps256
 go_wp2
 go_ret
 exact ⟨rfl,rfl⟩
set_option maxHeartbeats 1000000 in
theorem SConfig_c (s b c:Nat) (C:Cfg) (lv:Int) (R W:Nat) (l:List Int) (w:World) (h:SAt w s b c C lv R W l) :
 Calls Tryz.prog 255 #[.pointer (some ⟨s,0,none⟩)] w fun e w'=>e=.returned (.agg #[.int .i64 C.bits,.int .i64 C.rows,.int .i64 C.width,.int .i64 C.mode,.int .u64 C.seed])∧Ext w w':=by
 have hlt:=h.lts
 have c1:=(cell_of h.ex 1).trans rfl
 have c2:=(cell_of h.ex 2).trans rfl
 have c3:=(cell_of h.ex 3).trans rfl
 have c4:=(cell_of h.ex 4).trans rfl
 have c5:=(cell_of h.ex 5).trans rfl
 go_enter Tryz.func255,Tryz.ntmps255
 go_wp2
 exact bodyPost_ret (v:=.agg #[.int .i64 C.bits,.int .i64 C.rows,.int .i64 C.width,.int .i64 C.mode,.int .u64 C.seed]) (by simp [results,Tryz.results255,go_sem]) rfl ⟨rfl,by (repeat' (first | exact Ext.refl _ | assumption | apply Ext.allocR | apply Ext.drewR | apply Ext.drewNR | (refine Ext.trans' ?_ (by assumption))))⟩
theorem and16 (x:Int):bits BinOp.and IntKind.i64 x 65535=x % 65536:=by
 show IntKind.i64.wrap ((BitVec.ofInt 64 x &&& BitVec.ofInt 64 65535).toNat:Int)=_
 have e1:(BitVec.ofInt 64 (65535:Int)).toNat=2 ^ 16 - 1:=by decide
 rw [BitVec.toNat_and,e1,Nat.and_two_pow_sub_one_eq_mod,BitVec.toNat_ofInt,IntKind.wrap_i64]
 have:(x % ((2 ^ 64:Nat):Int)).toNat % 2 ^ 16 < 65536:=Nat.mod_lt _ (by decide)
 omega
end Go.Proofs.YtmalncfcgcebhaaGreatDoor
namespace Go.Proofs.YtmalncfcgcebhaaGreatDoor
set_option linter.unusedVariables false
open Go.RowKit
theorem set2 {w:World} {b:Nat} {x y:Value} {t:TypeId} (h:w.heap[b]?=some (.cells #[x,y] t (0,0))) (u v:Value):((w.setCell ⟨b,0,none⟩ u).setCell ⟨b,1,none⟩ v).heap[b]?=some (.cells #[u,v] t (0,0)):=by
 rw [setCell_same (setCell_same h 0 u) 1 v]; rfl
def cutK (c:Cfg) (l key:Int):Int:=key % keys c l
end Go.Proofs.YtmalncfcgcebhaaGreatDoor
namespace Go.Proofs.YtmalncfcgcebhaaGreatDoor
set_option linter.unusedVariables false
open Go.RowKit
def mkC (x:Cfg) (nb nw:Int):Cfg:=⟨1+x.bits % 65536 % nb,1+x.rows % 4,1+x.width % 65536 % nw,1+x.mode % 65536 % 3,x.seed⟩
theorem mkC_ok (x:Cfg) (hs:U64 x.seed) {nb nw:Int} (h1:1≤nb) (h2:nb≤20) (h3:1≤nw) (h4:nw≤20):(mkC x nb nw).Ok:=by
 have a1:=Int.emod_nonneg (x.bits % 65536) (show nb≠0 by omega)
 have a2:=Int.emod_lt_of_pos (x.bits % 65536) (show 0 < nb by omega)
 have a3:=Int.emod_nonneg (x.width % 65536) (show nw≠0 by omega)
 have a4:=Int.emod_lt_of_pos (x.width % 65536) (show 0 < nw by omega)
 constructor <;> simp only [mkC] <;> first | exact hs | omega
theorem fin5 {Φ:World→Prop} {w W:World} {b:Nat} {x0 x1 x2 x3 x4:Value} {t:TypeId} (h:W.heap[b]?=some (.cells #[x0,x1,x2,x3,x4] t (0,0))) (hE:Ext w W) (hb:w.heap.size≤b) {u0 u1 u2 u3 u4:Value}
 (k:∀ Wf,Wf.heap[b]?=some (.cells #[u0,u1,u2,u3,u4] t (0,0))→Ext w Wf→(∀ j,j≠b→Wf.heap[j]?=W.heap[j]?)→Wf.heap.size=W.heap.size→Φ Wf) :
 Φ (((((W.setCell ⟨b,0,none⟩ u0).setCell ⟨b,1,none⟩ u1).setCell ⟨b,2,none⟩ u2).setCell ⟨b,3,none⟩ u3).setCell ⟨b,4,none⟩ u4):=by
 refine k _ ?_ (((((hE.setR hb _).setR hb _).setR hb _).setR hb _).setR hb _) (fun j hj=>?_) (by simp only [size_setCell])
 · rw [setCell_same (setCell_same (setCell_same (setCell_same (setCell_same h 0 u0) 1 u1) 2 u2) 3 u3) 4 u4]; rfl
 · rw [setCell_other _ _ hj,setCell_other _ _ hj,setCell_other _ _ hj,setCell_other _ _ hj,setCell_other _ _ hj]
set_option maxRecDepth 20000 in
set_option maxHeartbeats 2000000 in
theorem Any_c (x:Cfg) (hx:x.Raw) (nb nw:Int) (h1:1≤nb) (h2:nb≤20) (h3:1≤nw) (h4:nw≤20) (w:World) :
 Calls Tryz.prog 95 #[.agg #[.int .i64 x.bits,.int .i64 x.rows,.int .i64 x.width,.int .i64 x.mode,.int .u64 x.seed],.int .i64 nb,.int .i64 nw] w fun e w' =>
  e=.returned (.agg #[.int .i64 (mkC x nb nw).bits,.int .i64 (mkC x nb nw).rows,.int .i64 (mkC x nb nw).width,.int .i64 (mkC x nb nw).mode,.int .u64 (mkC x nb nw).seed])∧Ext w w':=by
 have hb:=and16 x.bits
 have hr:=and16 x.rows
 have hw:=and16 x.width
 have hm:=and16 x.mode
 have a1:=Int.emod_nonneg (x.bits % 65536) (show nb≠0 by omega)
 have a2:=Int.emod_lt_of_pos (x.bits % 65536) (show 0 < nb by omega)
 have a3:=Int.emod_nonneg (x.width % 65536) (show nw≠0 by omega)
 have a4:=Int.emod_lt_of_pos (x.width % 65536) (show 0 < nw by omega)
 have z1:(nb == 0)=false:=by simp; omega
 have z2:(nw == 0)=false:=by simp; omega
 go_enter Tryz.func95,Tryz.ntmps95
 go_wp2
 refine wp_region_after_tail 25 (by kernel_rfl) (by kernel_rfl) ?_
 simp only [List.take_succ_cons,List.take_zero,List.drop_succ_cons,List.drop_zero]
 repeat (go_big_quiet_step (fail))
 refine wpQuiet_nil ?_
 rintro _ ⟨xx,rfl⟩
 obtain ⟨w1,hb1⟩:=xx
 try dsimp only
 have hs:=hb1.size
 simp only [size_alloc] at hs
 have hcell:w1.heap[w.heap.size+1]?=some (.cells #[.int .i64 0,.int .i64 0,.int .i64 0,.int .i64 0,.int .u64 0] 24 (0,0)):=by
  rw [hb1.block _ (by simp only [size_alloc]; omega)]
  exact heap_at _ _ (by simp only [size_alloc])
 have p0:=(cell_of hcell 0).trans rfl
 have p1:=(cell_of hcell 1).trans rfl
 have p2:=(cell_of hcell 2).trans rfl
 have p3:=(cell_of hcell 3).trans rfl
 have p4:=(cell_of hcell 4).trans rfl
 have f0:=frozen_of hcell 0
 have f1:=frozen_of hcell 1
 have f2:=frozen_of hcell 2
 have f3:=frozen_of hcell 3
 have f4:=frozen_of hcell 4
 have hE:Ext w w1:=by (repeat' (first | exact Ext.refl _ | assumption | apply Ext.allocR | apply Ext.drewR | apply Ext.drewNR | (refine Ext.trans' ?_ (by assumption))))
 clear hb1
 go_wp2
 refine fin5 (Φ:=fun W'=>bodyPost _ _ _ _ _ W') hcell hE (by omega) ?_
 intro Wf hf hE2 _ _
 have q0:=(cell_of hf 0).trans rfl
 have q1:=(cell_of hf 1).trans rfl
 have q2:=(cell_of hf 2).trans rfl
 have q3:=(cell_of hf 3).trans rfl
 have q4:=(cell_of hf 4).trans rfl
 exact bodyPost_ret (v:=.agg #[.int .i64 (1+x.bits % 65536 % nb),.int .i64 (1+x.rows % 4),.int .i64 (1+x.width % 65536 % nw),.int .i64 (1+x.mode % 65536 % 3),.int .u64 x.seed]) (by simp [results,Tryz.results95,go_sem,q0,q1,q2,q3,q4]) rfl ⟨rfl,hE2⟩
end Go.Proofs.YtmalncfcgcebhaaGreatDoor
namespace Go.Proofs.YtmalncfcgcebhaaGreatDoor
set_option linter.unusedVariables false
open Go.RowKit
def Bnd (B:Int) (l:List Int):Prop:=∀ x∈l,-B≤x∧x≤B
theorem Bnd.getD {B:Int} {l:List Int} (h:Bnd B l) (hB:0≤B) (k:Nat):-B≤l.getD k 0∧l.getD k 0≤B:=by
 rcases Nat.lt_or_ge k l.length with h' | h'
 · exact h _ (getD_mem h')
 · rw [show l.getD k 0=0 by simp [h']]; omega
theorem Bnd.readL {B:Int} {l:List Int} (h:Bnd B l) (hB:0≤B) (W:Nat) (cs:List Int):Bnd B (readL W l cs):=by
 intro x hx
 simp only [Go.Proofs.YtmalncfcgcebhaaGreatDoor.readL,List.mem_map,List.mem_range] at hx
 obtain ⟨j,_,rfl⟩:=hx
 exact h.getD hB _
theorem Bnd.minL {B:Int} {l:List Int} (h:Bnd B l) (hB:0≤B):-B≤minL l∧Go.Proofs.YtmalncfcgcebhaaGreatDoor.minL l≤B:=by
 by_cases he:l=[]
 · subst he; simp [Go.Proofs.YtmalncfcgcebhaaGreatDoor.minL]; omega
 · exact h _ (minL_spec l he).1
theorem upd_bnd {C:Cfg} {lv:Int} {R W:Nat} {l:List Int} {key d B T:Int} (h:Bnd B l) (hB:0≤B) (hT:0≤T) (hd:-T≤d∧d≤T):Bnd (B+T) (updL C lv R W l key d):=by
 intro x hx
 unfold updL at hx
 cases hm:decide (C.mode=2) with
 | true =>
   rw [hm] at hx
   rcases putK_mem R hx with h1 | ⟨j,_,rfl⟩
   · have:=h x h1; omega
   · have h2:=h.getD hB (at_ W (cols C lv key) j)
     have h3:=(h.readL hB W (cols C lv key)).minL hB
     omega
 | false =>
   rw [hm] at hx
   rcases putK_mem R hx with h1 | ⟨j,_,rfl⟩
   · have:=h x h1; omega
   · have h2:=h.getD hB (at_ W (cols C lv key) j)
     omega
theorem upd_ok {C:Cfg} {lv:Int} {R W:Nat} {l:List Int} {key d B T:Int} (h:Bnd B l) (hB:0≤B) (hT:0≤T) (hd:-T≤d∧d≤T) (hs:B+T≤4611686018427387904) (hk:key < keys C lv) (hm:C.mode=2→0≤d):errU C lv R W l key d=0:=by
 by_cases hmode:C.mode=2
 · have hd0:=hm hmode
   have h3:=(h.readL hB W (cols C lv key)).minL hB
   rw [errU_con hk hmode (by omega),fitB_yes (by unfold I64; omega)]; rfl
 · rw [errU_sum hk hmode,allFit_iff.2]
   · rfl
   · intro k _
     have h2:=h.getD hB (at_ W (cols C lv key) k)
     unfold I64; omega
end Go.Proofs.YtmalncfcgcebhaaGreatDoor
