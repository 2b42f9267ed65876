/- Part. No condition. -/
import Derived.Test.YtmalncfcgcebhaaGreatDoorDTopAnswers7
import Derived.Test.YtmalncfcgcebhaaGreatDoorDTopAnswers9
import Derived.Test.YtmalncfcgcebhaaGreatDoorDTopAnswers10
import Derived.Test.YtmalncfcgcebhaaGreatDoorDTopAnswers8
namespace Go.Proofs.YtmalncfcgcebhaaGreatDoor
set_option linter.unusedVariables false
open Go.RowKit
noncomputable def ptU (C:Cfg) (ls:Nat → List Int) (n:Nat) (i:Int):Int:=by classical exact if h:∃ x,I64 x∧lvPt C n (ls n) i x then h.choose else 0
theorem ptU_I (C:Cfg) (ls:Nat → List Int) (n:Nat) (i:Int):I64 (ptU C ls n i):=by
 unfold ptU
 split
 · rename_i h; exact h.choose_spec.1
 · unfold I64; omega
def wayF (pt:Nat → Int → Int):Nat → Int → Int → Option (List (Nat × Int))
 | 0,_,_=>some []
 | n+1,i,k=>if k≤pt n (2 * i) then (wayF pt n (2 * i) k).map (fun l=>(n,2 * i) :: l) else if fitB (k - pt n (2 * i))=true then (wayF pt n (2 * i+1) (k - pt n (2 * i))).map (fun l=>(n,2 * i+1) :: l) else none
def wayFP (pt:Nat → Int → Int) (B:Nat) (k:Int):Option (List (Nat × Int)):=(wayF pt B 0 k).map (fun l=>(B,0) :: l)
theorem wayF_len (pt:Nat → Int → Int):∀ (n:Nat) (i k:Int) (l:List (Nat × Int)),wayF pt n i k=some l → l.length=n
 | 0,_,_,l,h=>by cases h; rfl
 | n+1,i,k,l,h=>by
   unfold wayF at h
   split at h
   · obtain ⟨m,hm,rfl⟩:=Option.map_eq_some_iff.1 h
     rw [List.length_cons,wayF_len pt n _ _ m hm]
   · split at h
     · obtain ⟨m,hm,rfl⟩:=Option.map_eq_some_iff.1 h
       rw [List.length_cons,wayF_len pt n _ _ m hm]
     · cases h
theorem wayFP_len {pt:Nat → Int → Int} {B:Nat} {k:Int} {l:List (Nat × Int)} (h:wayFP pt B k=some l):l.length=B+1:=by
 obtain ⟨m,hm,rfl⟩:=Option.map_eq_some_iff.1 h
 rw [List.length_cons,wayF_len pt B _ _ m hm]
def WayAtR (w:World) (B:Nat) (C:Cfg) (b:Nat) (pt:Nat → Int → Int) (k:Int) (t:Nat) (k':Int) (wr:World) (n:Nat) (i:Int) (dn:List (Nat × Int)):Prop :=
 t+n=B∧dn.length=t+1∧dn.getD t (0,0)=(n,i)∧wayFP pt B k=(wayF pt n i k').map (fun l=>dn ++ l)∧0≤i∧i < keys C n∧1≤k'∧I64 k' ∧
 (∃ cur,wr.heap[b]?=some (.cells cur 350 (0,0))∧cur.size=120)∧PCells wr b 0 dn∧Ext w wr
theorem way_nextR {w wr w6:World} {B:Nat} {C:Cfg} {b:Nat} {pt:Nat → Int → Int} {k:Int} {t:Nat} {k':Int} {m:Nat} {i:Int} {dn:List (Nat × Int)} (hW:WayAtR w B C b pt k t k' wr (m+1) i dn) (hE:Ext wr w6) (hB:C.bits=B) (hBd:B≤59) (hbw:w.heap.size≤b) {j k2:Int}
 (hj:(j=2 * i∧k'≤pt m (2 * i)∧k2=k') ∨ (j=2 * i+1∧pt m (2 * i) < k'∧I64 (k' - pt m (2 * i))∧k2=k' - pt m (2 * i))) :
 WayAtR w B C b pt k (t+1) k2 ((w6.setCell ⟨b,(t+1) * 2,none⟩ (.int .i64 m)).setCell ⟨b,(t+1) * 2+1,none⟩ (.int .u64 j)) m j (dn ++ [(m,j)]):=by
 obtain ⟨a1,a2,a3,a4,a5,a6,a7,a8,⟨cur,a9,a10⟩,a11,a12⟩:=hW
 have hkh:=keys_half (C:=C) (m:=m) (by omega)
 have hs:=way_set (hE.keep a9) a10 (a11.ext (lt_of a9) hE) (by omega) m j
 rw [a2] at hs
 refine ⟨by omega,by rw [List.length_append,a2]; rfl, ?_, ?_, ?_, ?_, ?_, ?_,hs.1,hs.2,((a12.trans' hE).setR (p:=⟨b,(t+1) * 2,none⟩) hbw _).setR (p:=⟨b,(t+1) * 2+1,none⟩) hbw _⟩
 · rw [← a2]; simp
 · rw [a4]
   conv=>lhs; unfold wayF
   rcases hj with ⟨rfl,h1,rfl⟩ | ⟨rfl,h1,h2,rfl⟩
   · rw [if_pos h1,Option.map_map]
     congr 1
     funext l
     simp
   · rw [if_neg (by omega),if_pos (fitB_yes h2),Option.map_map]
     congr 1
     funext l
     simp
 · rcases hj with ⟨rfl,_,_⟩ | ⟨rfl,_,_⟩ <;> omega
 · rcases hj with ⟨rfl,_,_⟩ | ⟨rfl,_,_⟩ <;> omega
 · rcases hj with ⟨_,h1,rfl⟩ | ⟨_,h1,_,rfl⟩ <;> omega
 · rcases hj with ⟨_,h1,rfl⟩ | ⟨_,h1,h2,rfl⟩
   · exact a8
   · exact h2
def WayRPost (w:World) (B:Nat) (T:Int) (pt:Nat → Int → Int) (k:Int) (e:Ending) (w':World):Prop :=
 ((k < 1 ∨ T < k)∧e=.returned (.tuple #[.slice none 0 0,.int .i64 6])∧Ext w w') ∨
 ((1≤k∧k≤T)∧wayFP pt B k=none∧e=.returned (.tuple #[.slice none 0 0,.int .i64 4])∧Ext w w') ∨
 ((1≤k∧k≤T)∧∃ ps v base,wayFP pt B k=some ps∧e=.returned (.tuple #[v,.int .i64 0])∧w.heap.size≤base∧w'.ownsRow base 52 2 v ps.length (pcV ps)∧Ext w w')
set_option maxRecDepth 20000 in
set_option maxHeartbeats 8000000 in
theorem WayR_c (s g:Nat) (C:Cfg) (B:Nat) (L:Nat → Lev) (ls:Nat → List Int) (w:World) (h:KAt w s g C B L ls) (k:Int) (hk:I64 k) (pt:Nat → Int → Int) (hT:Uniq C B ls pt) (hPI:∀ n i,I64 (pt n i)) :
 Calls Tryz.prog 174 #[.pointer (some ⟨s,0,none⟩),.int .i64 k] w (WayRPost w B ((ls B).getD 0 0) pt k):=by
 have hok:=h.ok
 have hB:=h.hB
 have hBd:B≤59:=by have:=hok.b2; omega
 by_cases hk1:k < 1
 · go_enter Tryz.func174,Tryz.ntmps174
   go_wp2
   go_step3
   go_wp2
   go_ret2
   exact .inl ⟨.inl hk1,rfl,Ext.refl _⟩
 have hTot:=fun W' (he:Ext w W')=>KTotal_c s g C B L ls W' (h.ext he)
 generalize hTT:(ls B).getD 0 0=T at *
 by_cases hk2:T < k
 · go_enter Tryz.func174,Tryz.ntmps174
   go_wp2
   go_step3
   go_wp2_with fail
   refine (hTot _ (by (repeat' (first | exact Ext.refl _ | assumption | apply Ext.allocR | apply Ext.drewR | apply Ext.drewNR | (refine Ext.trans' ?_ (by assumption)))))).mono ?_
   rintro e w1 ⟨rfl,hx1⟩
   go_wp2
   go_ret2
   exact .inl ⟨.inr hk2,rfl,by (repeat' (first | exact Ext.refl _ | assumption | apply Ext.allocR | apply Ext.drewR | apply Ext.drewNR | (refine Ext.trans' ?_ (by assumption))))⟩
 have HB:=Lib.hid hB
 have HTT:=Lib.hid hTT
 clear hB hTT
 go_enter Tryz.func174,Tryz.ntmps174
 go_wp2
 go_step3
 go_wp2_with fail
 refine (hTot _ (by (repeat' (first | exact Ext.refl _ | assumption | apply Ext.allocR | apply Ext.drewR | apply Ext.drewNR | (refine Ext.trans' ?_ (by assumption)))))).mono ?_
 rintro e w1 ⟨rfl,hx1⟩
 have hE1:Ext w w1:=by (repeat' (first | exact Ext.refl _ | assumption | apply Ext.allocR | apply Ext.drewR | apply Ext.drewNR | (refine Ext.trans' ?_ (by assumption))))
 clear hx1 hTot
 go_wp2_with fail
 refine (SKConfig_c s g C B L ls _ (h.ext ?hx)).mono ?_
 case hx=>exact hE1.trans' (by (repeat' (first | exact Ext.refl _ | assumption | apply Ext.allocR | apply Ext.drewR | apply Ext.drewNR | (refine Ext.trans' ?_ (by assumption)))))
 rintro e w2 ⟨rfl,hx2⟩
 have hE2:Ext w w2:=hE1.trans' (by (repeat' (first | exact Ext.refl _ | assumption | apply Ext.allocR | apply Ext.drewR | apply Ext.drewNR | (refine Ext.trans' ?_ (by assumption)))))
 clear hx2 hE1
 go_upto_region 5 with (fail)
 obtain ⟨w3,hw3⟩:∃ w3,w2.alloc (.cells Tryz.zeroCells350 350)=w3:=⟨_,rfl⟩
 have hx3:Ext w2 w3:=by rw [← hw3]; exact Ext.alloc' _ _
 have hb3:w3.heap[w2.heap.size]?=some (.cells Tryz.zeroCells350 350 (0,0)):=by rw [← hw3]; exact heap_at _ _ rfl
 rw [hw3]
 clear hw3
 have hE3:=hE2.trans' hx3
 have hzs:Tryz.zeroCells350.size=120:=by kernel_rfl
 have hz0:Tryz.zeroCells350[0]?=some (.int .i64 0):=by kernel_rfl
 have hz1:Tryz.zeroCells350[1]?=some (.int .u64 0):=by kernel_rfl
 generalize Tryz.zeroCells350=zc at *
 have z0:=(cell_of hb3 0).trans hz0
 have z1:=(cell_of hb3 1).trans hz1
 have f0:=frozen_of hb3 0
 have f1:=frozen_of hb3 1
 have zl:=lt_of hb3
 have hbE:=hE2.size
 generalize hbb:w2.heap.size=b at *
 have hw0:=way_set hb3 hzs (dn:=[]) (fun k hk=>by simp at hk) (by simp) B 0
 simp only [List.length_nil,Nat.zero_mul,Nat.zero_add,List.nil_append] at hw0
 have hW0:WayAtR w B C b pt k 0 k ((w3.setCell ⟨b,0,none⟩ (.int .i64 (B:Nat))).setCell ⟨b,1,none⟩ (.int .u64 0)) B 0 [(B,0)] :=
  ⟨by omega,rfl,rfl,rfl,Int.le_refl 0,by have:=keys_bd C hok B (Int.natCast_nonneg B); omega,by omega,hk,hw0.1,hw0.2,(hE3.setR (p:=⟨b,0,none⟩) hbE _).setR (p:=⟨b,1,none⟩) hbE _⟩
 rw [← HB.out] at hW0
 have HW0:=Lib.hid hW0
 clear hz0 hz1 hw0 hW0
 go_wp2
 go_step3
 go_wp2
 have HT:=Lib.hid hT
 have HPI:=Lib.hid hPI
 clear hT hPI
 go_loopw [1,8] (fun u1 u8 wr=>∃ (t:Nat) (k':Int) (n:Nat) (i:Int) (dn:List (Nat × Int)),u1=.int .i64 k'∧u8=.int .i64 t∧WayAtR w B C b pt k t k' wr n i dn) (fun _ u8 _=>B - (intOf u8).toNat)
 case atStart=>exact ⟨0,k,B,0,[(B,0)],rfl,rfl,HW0.out⟩
 case round =>
  clear HW0
  obtain ⟨t,k',n,i,dn,rfl,rfl,hW⟩:=hrel
  obtain ⟨w1',w2',w3',w4',w5',w6',w7',w8',w9',w10',w11'⟩:=hW
  obtain ⟨cur,hcb,hcs⟩:=w9'
  have hp:=w10' t (by omega)
  rw [w3',Nat.zero_add] at hp
  obtain ⟨q0,q1⟩:=hp
  have ql:=lt_of hcb
  cases n with
  | zero =>
    have hdl:wayFP pt B k=some dn:=by rw [w4']; simp [wayF]
    have hcl:=fun W' (he:Ext wr W')=>CloneP_c b (60 - 0) dn W' (w10'.ext ql he) (Nat.lt_of_lt_of_le ql he.size) (by omega)
    rw [w2'] at hcl
    have HDL:=Lib.hid hdl
    have HCL:=Lib.hid hcl
    have hsl:=fun W'=>run_slice60 b t (by omega) W'
    clear hdl hcl
    go_wp2_with fail
    refine (HCL.out _ (Ext.refl _)).mono ?_
    rintro e w5 ⟨v5,rfl,ho5,hx5⟩
    clear hsl
    go_wp2
    go_ret2
    exact .inr (.inr ⟨⟨by omega,by omega⟩,dn,v5,wr.heap.size,HDL.out,rfl,w11'.size,by rw [w2']; exact ho5,w11'.trans' hx5⟩)
  | succ m =>
    have hnn:((m+1:Nat):Int)=(m:Int)+1:=by omega
    have hmb:((m+1:Nat):Int)≤C.bits:=by have:=HB.out; omega
    have hHV:∀ W',Calls Tryz.prog 175 #[.int .i64 C.bits,.agg #[.int .i64 ((m:Int)+1),.int .u64 i]] W' fun e w'=>e=.returned (.tuple #[.agg #[.int .i64 m,.int .u64 (2 * i)],.agg #[.int .i64 m,.int .u64 (2 * i+1)],.bool true])∧Ext W' w':=fun W'=>by
     have:=Halves_c C hok m hmb i w5' w6' W'
     rw [hnn] at this
     exact this
    go_wp2_with fail
    refine (hHV _).mono ?_
    rintro e w4 ⟨rfl,hx4⟩
    clear hHV
    go_upto_region 9 with (fail)
    have hr4:Ext wr w4:=by (repeat' (first | exact Ext.refl _ | assumption | apply Ext.allocR | apply Ext.drewR | apply Ext.drewNR | (refine Ext.trans' ?_ (by assumption))))
    have hkh:=keys_half (C:=C) (m:=m) hmb
    have hl5:=(heap_old (w4.alloc (.cells #[.int .i64 m,.int .u64 (2 * i)] 52)) (.cells #[.int .i64 m,.int .u64 (2 * i+1)] 52) (n:=w4.heap.size) (by rw [size_alloc]; omega)).trans (heap_at w4 (.cells #[.int .i64 m,.int .u64 (2 * i)] 52) rfl)
    have hr5:=heap_at (w4.alloc (.cells #[.int .i64 m,.int .u64 (2 * i)] 52)) (.cells #[.int .i64 m,.int .u64 (2 * i+1)] 52) (n:=w4.heap.size+1) (by rw [size_alloc])
    have hx5:Ext w4 ((w4.alloc (.cells #[.int .i64 m,.int .u64 (2 * i)] 52)).alloc (.cells #[.int .i64 m,.int .u64 (2 * i+1)] 52)):=(Ext.alloc' _ _).allocR _
    generalize (w4.alloc (.cells #[.int .i64 m,.int .u64 (2 * i)] 52)).alloc (.cells #[.int .i64 m,.int .u64 (2 * i+1)] 52)=w5 at *
    have hE5:Ext wr w5:=hr4.trans' hx5
    have v0:=(cell_of hl5 0).trans rfl
    have v1:=(cell_of hl5 1).trans rfl
    have vl:=lt_of hl5
    clear hx4 hx5 hr4 q0 q1 ql
    have hK5:=h.ext (w11'.trans' hE5)
    have ht59:t < 59:=by omega
    go_wp2_with fail
    refine Calls.mono (KPoint_c s g C B L ls _ hK5 m (by omega) (2 * i) (by omega) (by omega)) ?_
    rintro e w6 ⟨x,rfl,hpt,hx6⟩
    have hxp:=HT.out m (2 * i) x (by omega) (by omega) (by omega) hpt
    have hpi:=HPI.out m (2 * i)
    have hw4:=w4'
    have hE6:=hE5.trans' hx6
    have hl6:=hx6.keep hl5
    have hr6:=hx6.keep hr5
    have hc6:=hE6.keep hcb
    have hW:WayAtR w B C b pt k t k' wr (m+1) i dn:=⟨w1',w2',w3',w4',w5',w6',w7',w8',⟨cur,hcb,hcs⟩,w10',w11'⟩
    subst hxp
    have hn1:=fun (W':World) (hE':Ext wr W') (j k2:Int) hj=>way_nextR (j:=j) (k2:=k2) hW hE' HB.out hBd hbE hj
    have HN1:=Lib.hid hn1
    obtain ⟨o0,ho0⟩:∃ o0,cur[(t+1) * 2]?=some o0:=⟨_,Array.getElem?_eq_getElem (by omega)⟩
    obtain ⟨o1,ho1⟩:∃ o1,cur[(t+1) * 2+1]?=some o1:=⟨_,Array.getElem?_eq_getElem (by omega)⟩
    have u0:=(cell_of hc6 ((t+1) * 2)).trans ho0
    have u1:=(cell_of hc6 ((t+1) * 2+1)).trans ho1
    have g0:=frozen_of hc6 ((t+1) * 2)
    have g1:=frozen_of hc6 ((t+1) * 2+1)
    have gl:=lt_of hc6
    have v0:=(cell_of hl6 0).trans rfl
    have v1:=(cell_of hl6 1).trans rfl
    have vl:=lt_of hl6
    have y0:=(cell_of hr6 0).trans rfl
    have y1:=(cell_of hr6 1).trans rfl
    have yl:=lt_of hr6
    have HW4:=Lib.hid hw4
    clear hw4 w4' hn1 hW hpt hK5 hl5 hr5 w10' hcb hx6
    generalize hP:pt m (2 * i)=P at *
    by_cases hle:k'≤P
    · go_wp2_with fail
      go_roundw
      case rel=>exact ⟨t+1,k',m,2 * i,dn ++ [(m,2 * i)],rfl,by go_num,HN1.out _ hE6 _ _ (.inl ⟨rfl,hle,rfl⟩)⟩
      case measure=>simp [intOf]; omega
    · have hkI:I64 k':=w8'
      have hM:=Minus_c k' P hkI hpi
      by_cases hI:I64 (k' - P)
      rotate_left
      · rw [fitB_no hI] at hM
        have hno:wayFP pt B k=none:=by
         rw [HW4.out]
         conv=>lhs; unfold wayF
         rw [if_neg (by omega),if_neg (by rw [hP,fitB_no hI]; decide)]
         rfl
        have HNO:=Lib.hid hno
        have HM:=Lib.hid hM
        clear hM hno hI
        go_wp2_with fail
        refine (HM.out _).mono ?_
        rintro e w7 ⟨rfl,hx7⟩
        have hE7:Ext w6 w7:=by (repeat' (first | exact Ext.refl _ | assumption | apply Ext.allocR | apply Ext.drewR | apply Ext.drewNR | (refine Ext.trans' ?_ (by assumption))))
        go_wp2
        go_ret2
        exact .inr (.inl ⟨⟨by omega,by omega⟩,HNO.out,rfl,w11'.trans' (hE6.trans' hE7)⟩)
      rw [fitB_yes hI,fitN_yes hI] at hM
      have HII:=Lib.hid hI
      clear hI
      have HM:=Lib.hid hM
      clear hM
      go_wp2_with fail
      refine (HM.out _).mono ?_
      rintro e w7 ⟨rfl,hx7⟩
      have hE7:Ext w6 w7:=by (repeat' (first | exact Ext.refl _ | assumption | apply Ext.allocR | apply Ext.drewR | apply Ext.drewNR | (refine Ext.trans' ?_ (by assumption))))
      have hc7:=hE7.keep hc6
      have hr7:=hE7.keep hr6
      clear hx7 u0 u1 g0 g1 gl v0 v1 vl y0 y1 yl
      have u0:=(cell_of hc7 ((t+1) * 2)).trans ho0
      have u1:=(cell_of hc7 ((t+1) * 2+1)).trans ho1
      have g0:=frozen_of hc7 ((t+1) * 2)
      have g1:=frozen_of hc7 ((t+1) * 2+1)
      have gl:=lt_of hc7
      have y0:=(cell_of hr7 0).trans rfl
      have y1:=(cell_of hr7 1).trans rfl
      have yl:=lt_of hr7
      go_wp2_with fail
      go_roundw
      case rel=>exact ⟨t+1,k' - P,m,2 * i+1,dn ++ [(m,2 * i+1)],rfl,by go_num,HN1.out _ (hE6.trans' hE7) _ _ (.inr ⟨rfl,by omega,HII.out,rfl⟩)⟩
      case measure=>simp [intOf]; omega
def quanR (pt:Nat → Int → Int) (B:Nat) (T k:Int):Int × Int:=if k < 1 ∨ T < k then (0,6) else match wayFP pt B k with | none=>(0,4) | some ps=>((ps.getD B (0,0)).2,0)
set_option maxRecDepth 20000 in
set_option maxHeartbeats 4000000 in
theorem Quan_of (s:Nat) (B:Nat) (hBd:B≤59) (pt:Nat → Int → Int) (T k:Int) (w:World) (h:∀ W',Ext w W' → Calls Tryz.prog 174 #[.pointer (some ⟨s,0,none⟩),.int .i64 k] W' (WayRPost W' B T pt k)) :
 Calls Tryz.prog 135 #[.pointer (some ⟨s,0,none⟩),.int .i64 k] w fun e w'=>e=.returned (.tuple #[.int .u64 (quanR pt B T k).1,.int .i64 (quanR pt B T k).2])∧Ext w w':=by
 have HW:=Lib.hid h
 clear h
 go_enter Tryz.func135,Tryz.ntmps135
 go_wp2_with fail
 refine (HW.out _ (by (repeat' (first | exact Ext.refl _ | assumption | apply Ext.allocR | apply Ext.drewR | apply Ext.drewNR | (refine Ext.trans' ?_ (by assumption)))))).mono ?_
 rintro e w1 (⟨hr,rfl,hx⟩ | ⟨hr,hn,rfl,hx⟩ | ⟨hr,ps,v,base,hsm,rfl,hbs,ho,hx⟩)
 · have HQ:Hid (quanR pt B T k=(0,6)):=Lib.hid (by unfold quanR; rw [if_pos hr])
   clear hr
   go_wp2
   go_ret2
   exact ⟨by rw [HQ.out]; rfl,by (repeat' (first | exact Ext.refl _ | assumption | apply Ext.allocR | apply Ext.drewR | apply Ext.drewNR | (refine Ext.trans' ?_ (by assumption))))⟩
 · have HQ:Hid (quanR pt B T k=(0,4)):=Lib.hid (by unfold quanR; rw [if_neg (by omega),hn])
   clear hr hn
   go_wp2
   go_ret2
   exact ⟨by rw [HQ.out]; rfl,by (repeat' (first | exact Ext.refl _ | assumption | apply Ext.allocR | apply Ext.drewR | apply Ext.drewNR | (refine Ext.trans' ?_ (by assumption))))⟩
 · have hlen:=wayFP_len hsm
   have HQ:Hid (quanR pt B T k=((ps.getD B (0,0)).2,0)):=Lib.hid (by unfold quanR; rw [if_neg (by omega),hsm])
   obtain ⟨g',cap,rfl,hgl,hpc⟩:=own_pieces ho (by omega)
   obtain ⟨_,q1⟩:=hpc B (by omega)
   rw [Nat.zero_add] at q1
   have hE:Ext w w1:=by (repeat' (first | exact Ext.refl _ | assumption | apply Ext.allocR | apply Ext.drewR | apply Ext.drewNR | (refine Ext.trans' ?_ (by assumption))))
   clear ho hpc hx hr hsm
   rw [hlen]
   clear hlen
   go_wp2
   go_ret2
   exact ⟨by rw [HQ.out]; rfl,hE⟩
theorem kth_in {l:List Int} {k:Nat} {x:Int} (h:IsKth l k x):x ∈ l:=by
 obtain ⟨h1,h2⟩:=h
 have:0 < sameN x l:=by omega
 unfold sameN at this
 obtain ⟨y,hy⟩:=List.exists_mem_of_length_pos this
 simp only [List.mem_filter] at hy
 obtain ⟨hy1,hy2⟩:=hy
 have:y=x:=by simpa using hy2
 rw [← this]; exact hy1
set_option maxRecDepth 20000 in
set_option maxHeartbeats 2000000 in
theorem SPoint_no (s b c:Nat) (C:Cfg) (lv:Int) (R W:Nat) (l:List Int) (key:Int) (w:World) (h:SAt w s b c C lv R W l) (hk1:keys C lv≤key) :
 Calls Tryz.prog 325 #[.pointer (some ⟨s,0,none⟩),.int .u64 key] w fun e w'=>e=.returned (.tuple #[.int .i64 0,.int .i64 2])∧Ext w w':=by
 have hlt:=h.lts
 have c0:=(cell_of h.ex 0).trans rfl
 have c1:=(cell_of h.ex 1).trans rfl
 have c2:=(cell_of h.ex 2).trans rfl
 have c3:=(cell_of h.ex 3).trans rfl
 have c4:=(cell_of h.ex 4).trans rfl
 have c5:=(cell_of h.ex 5).trans rfl
 have c6:=(cell_of h.ex 6).trans rfl
 have hnil:=fun (x:World) (p:Option Addr) (n k:Nat)=>Lib.run_eql_slice_nil (P:=Tryz.prog) x 54 3 p n k 0 0 Tryz.underlying54
 go_enter Tryz.func325,Tryz.ntmps325
 go_wp2
 have hC0:=af_drew w
 refine pi_start (fun w'=>∃ x:After w,w'=x.w) [] (by kernel_rfl) ?_
 refine pi_t 0 rfl (by kernel_rfl) (by kernel_rfl) (fun _ _ _ _ h=>h) (fun K hK=>?_)
 go_big_quiet_op
 refine hK _ ?_
 clear hK K
 refine pi_t 1 rfl (by kernel_rfl) (by kernel_rfl) (fun _ _ _ _ h=>h) (fun K hK=>?_)
 go_big_quiet_op
 refine hK _ ?_
 clear hK K
 refine pi_t 2 rfl (by kernel_rfl) (by kernel_rfl) (fun _ _ _ _ h=>h) (fun K hK=>?_)
 go_big_quiet_op
 refine hK _ ?_
 clear hK K
 refine pi_c 3 (by assumption) rfl (by kernel_rfl) (by kernel_rfl) (fun _ _ _ _ h=>h) (fun K hK=>?_)
 go_big_quiet_op
 refine hK _ ?_
 clear hK K
 refine pi_t 4 rfl (by kernel_rfl) (by kernel_rfl) (fun _ _ _ _ h=>h) (fun K hK=>?_)
 go_big_quiet_op
 refine hK _ ?_
 clear hK K
 refine pi_t 5 rfl (by kernel_rfl) (by kernel_rfl) (fun _ _ _ _ h=>h) (fun K hK=>?_)
 go_big_quiet_op
 refine hK _ ?_
 clear hK K
 refine pi_t 6 rfl (by kernel_rfl) (by kernel_rfl) (fun _ _ _ _ h=>h) (fun K hK=>?_)
 go_big_quiet_op
 refine hK _ ?_
 clear hK K
 refine pi_c 7 (by assumption) rfl (by kernel_rfl) (by kernel_rfl) (fun _ _ _ _ h=>h) (fun K hK=>?_)
 go_big_quiet_op
 refine hK _ ?_
 clear hK K
 refine pi_t 8 rfl (by kernel_rfl) (by kernel_rfl) (fun _ _ _ _ h=>h) (fun K hK=>?_)
 go_big_quiet_op
 refine hK _ ?_
 clear hK K
 refine pi_l 9 rfl (by kernel_rfl) (fun K hK=>?_)
 go_wp2_with (go_at_call 24; refine (Columns_no C h.ok lv key h.lo h.hi hk1 _).mono ?_; rintro e w1 ⟨rfl,hx0⟩)
 refine hK _ _ (fun _ h=>af_step h hx0) ?_
 clear hK K
 refine pi_t 10 rfl (by kernel_rfl) (by kernel_rfl) (fun _ _ _ _ h=>h) (fun K hK=>?_)
 go_big_quiet_op
 refine hK _ ?_
 clear hK K
 refine pi_end (by kernel_rfl) ?_
 have hx:Ext w w1:=Ext.trans' (Below.drew (Ext.refl w)) hx0
 go_wp2
 go_ret2
 exact ⟨rfl,hx⟩
set_option maxRecDepth 20000 in
theorem KPoint_key (s g:Nat) (C:Cfg) (B:Nat) (L:Nat → Lev) (ls:Nat → List Int) (w:World) (h:KAt w s g C B L ls) (n:Nat) (hn:n≤B) (key:Int) (hk:U64 key) (hk1:keys C n≤key) :
 Calls Tryz.prog 133 #[.pointer (some ⟨s,0,none⟩),.agg #[.int .i64 n,.int .u64 key]] w fun e w'=>e=.returned (.tuple #[.int .i64 0,.int .i64 2])∧Ext w w':=by
 cases hx:isX C n with
 | true =>
   have HX:=Lib.hid hx
   clear hx
   go_enter Tryz.func133,Tryz.ntmps133
   go_wp2_with fail
   refine (level_yes s g C B L ls _ (h.ext (Ext.alloc' _ _)) n hn).mono ?_
   rintro e w1 ⟨rfl,rfl⟩
   have hA:=((h.ext (Ext.alloc' _ (.cells #[.int .i64 n,.int .u64 key] 52))).lev n hn).x HX.out
   rw [lvV_x HX.out]
   go_wp2_with fail
   refine (EPoint_no _ _ _ C _ _ _ key _ hA hk hk1).mono ?_
   rintro e w1 ⟨rfl,rfl⟩
   go_wp2
   go_ret2
   exact ⟨rfl,Ext.alloc' _ _⟩
 | false =>
   have HX:=Lib.hid hx
   clear hx
   go_enter Tryz.func133,Tryz.ntmps133
   go_wp2_with fail
   refine (level_yes s g C B L ls _ (h.ext (Ext.alloc' _ _)) n hn).mono ?_
   rintro e w1 ⟨rfl,rfl⟩
   have hA:=((h.ext (Ext.alloc' _ (.cells #[.int .i64 n,.int .u64 key] 52))).lev n hn).sk HX.out
   rw [lvV_s HX.out]
   go_wp2_with fail
   refine (SPoint_no _ _ _ C _ _ _ _ key _ hA hk1).mono ?_
   rintro e w1 ⟨rfl,hx1⟩
   go_wp2
   go_ret2
   exact ⟨rfl,(Ext.alloc' _ _).trans' hx1⟩
noncomputable def pointR (C:Cfg) (B:Nat) (ls:Nat → List Int) (lv key:Int):Int × Int :=
 if lv < 0 ∨ (B:Int) < lv then (0,2) else if key < keys C lv then (ptU C ls lv.toNat key,0) else (0,2)
theorem getD_I {l:List Int} (h:∀ x ∈ l,I64 x) (i:Nat):I64 (l.getD i 0):=by
 rw [List.getD_eq_getElem?_getD]
 cases hx:l[i]? with
 | none=>unfold I64; simp
 | some x=>exact h x (List.mem_of_getElem? hx)
theorem ptU_of {w:World} {s g:Nat} {C:Cfg} {B:Nat} {L:Nat → Lev} {ls:Nat → List Int} (h:KAt w s g C B L ls) {n:Nat} (hn:n≤B) {i x:Int} (h1:I64 x) (hx:lvPt C n (ls n) i x):x=ptU C ls n i:=by
 have he:∃ y,I64 y∧lvPt C n (ls n) i y:=⟨x,h1,hx⟩
 unfold ptU
 rw [dif_pos he]
 exact lvPt_unique hx he.choose_spec.2
theorem lvPt_I {w:World} {s g:Nat} {C:Cfg} {B:Nat} {L:Nat → Lev} {ls:Nat → List Int} (h:KAt w s g C B L ls) {n:Nat} (hn:n≤B) {i x:Int} (hi:0≤i) (hk:i < keys C n) (hx:lvPt C n (ls n) i x):I64 x:=by
 have hf:=(h.lev n hn).fit
 rcases hx with ⟨_,rfl⟩ | ⟨_,hx⟩
 · exact getD_I hf _
 · have hm:=kth_in hx
   unfold readL at hm
   rw [List.mem_map] at hm
   obtain ⟨j,_,rfl⟩:=hm
   exact getD_I hf _
theorem kat_uniq {w:World} {s g:Nat} {C:Cfg} {B:Nat} {L:Nat → Lev} {ls:Nat → List Int} (h:KAt w s g C B L ls):Uniq C B ls (ptU C ls):=fun n i x hn h0 hi hx=>ptU_of h hn (lvPt_I h hn h0 hi hx) hx
theorem KPointR_c (s g:Nat) (C:Cfg) (B:Nat) (L:Nat → Lev) (ls:Nat → List Int) (w:World) (h:KAt w s g C B L ls) (lv key:Int) (hk:U64 key) :
 Calls Tryz.prog 133 #[.pointer (some ⟨s,0,none⟩),.agg #[.int .i64 lv,.int .u64 key]] w fun e w'=>e=.returned (.tuple #[.int .i64 (pointR C B ls lv key).1,.int .i64 (pointR C B ls lv key).2])∧Ext w w':=by
 unfold pointR
 by_cases hlv:lv < 0 ∨ (B:Int) < lv
 · rw [if_pos hlv]
   exact KPoint_lv s g C B L ls w h lv hlv key
 · rw [if_neg hlv]
   obtain ⟨n,rfl⟩:∃ n:Nat,lv=n:=⟨lv.toNat,by omega⟩
   have hn:n≤B:=by omega
   by_cases hlt:key < keys C n
   · rw [if_pos hlt]
     refine (KPoint_c s g C B L ls w h n hn key hk.1 hlt).mono ?_
     rintro e w' ⟨x,rfl,hp,hE⟩
     refine ⟨?_,hE⟩
     rw [ptU_of h hn (lvPt_I h hn hk.1 hlt hp) hp]
     rfl
   · rw [if_neg hlt]
     exact KPoint_key s g C B L ls w h n hn key hk (by omega)
theorem KQuan_c (s g:Nat) (C:Cfg) (B:Nat) (L:Nat → Lev) (ls:Nat → List Int) (w:World) (h:KAt w s g C B L ls) (k:Int) (hk:I64 k) :
 Calls Tryz.prog 135 #[.pointer (some ⟨s,0,none⟩),.int .i64 k] w fun e w'=>e=.returned (.tuple #[.int .u64 (quanR (ptU C ls) B ((ls B).getD 0 0) k).1,.int .i64 (quanR (ptU C ls) B ((ls B).getD 0 0) k).2])∧Ext w w' :=
 Quan_of s B (by have:=h.ok.b2; have:=h.hB; omega) (ptU C ls) _ k w (fun W' hE=>WayR_c s g C B L ls W' (h.ext hE) k hk (ptU C ls) (kat_uniq h) (ptU_I C ls))
def rangeR (pt:Nat → Int → Int) (B:Nat) (lo hi:Int):Int × Int :=
 if hi < lo then (0,1) else if 2 ^ B≤hi then (0,2) else if fitB (lsum (cvV pt B lo hi))=true then (lsum (cvV pt B lo hi),0) else (0,4)
theorem KRange_c (s g:Nat) (C:Cfg) (B:Nat) (L:Nat → Lev) (ls:Nat → List Int) (w:World) (h:KAt w s g C B L ls) (lo hi:Int) (hlo:U64 lo) (hhi:U64 hi) :
 Calls Tryz.prog 134 #[.pointer (some ⟨s,0,none⟩),.int .u64 lo,.int .u64 hi] w fun e w'=>e=.returned (.tuple #[.int .i64 (rangeR (ptU C ls) B lo hi).1,.int .i64 (rangeR (ptU C ls) B lo hi).2])∧Ext w w':=by
 refine (Range_c s g C B L ls w h (ptU C ls) (kat_uniq h) (ptU_I C ls) lo hi hlo hhi).mono ?_
 unfold rangeR
 rintro e w' ⟨⟨a,rfl⟩ | ⟨⟨a,b⟩,rfl⟩ | ⟨⟨a,b⟩,hI,rfl⟩ | ⟨⟨a,b⟩,hI,rfl⟩,hE⟩
 · rw [if_pos a]; exact ⟨rfl,hE⟩
 · rw [if_neg (by omega),if_pos b]; exact ⟨rfl,hE⟩
 · rw [if_neg (by omega),if_neg (by omega),if_pos (fitB_yes hI)]; exact ⟨rfl,hE⟩
 · rw [if_neg (by omega),if_neg (by omega),if_neg (show ¬ fitB (lsum (cvV (ptU C ls) B lo hi))=true from fun hf=>hI (of_decide_eq_true (p:=-9223372036854775808≤lsum (cvV (ptU C ls) B lo hi)∧lsum (cvV (ptU C ls) B lo hi)≤9223372036854775807) hf))]; exact ⟨rfl,hE⟩
def inV (C:Cfg) (lv:Int) (l m:List Int):Int × Int × Int :=
 if C.mode=1 then (match lvInn C lv l m with | some s=>(hi s,lo s,0) | none=>(0,0,4)) else (0,0,3)
theorem innV_eq {C:Cfg} (hm:C.mode=1) (lv:Int) (l m:List Int):innV (lvInn C lv l m)=.tuple #[.agg #[.int .i64 (inV C lv l m).1,.int .u64 (inV C lv l m).2.1],.int .i64 (inV C lv l m).2.2]:=by
 unfold inV
 rw [if_pos hm]
 cases lvInn C lv l m <;> rfl
theorem inV_mode {C:Cfg} (hm:C.mode ≠ 1) (lv:Int) (l m:List Int):inV C lv l m=(0,0,3):=by unfold inV; rw [if_neg hm]
theorem LInnerAny_c (C:Cfg) (lv:Int) (L L2:Lev) (l m:List Int) (w:World) (h:LvAt w L C lv l) (h2:LvAt w L2 C lv m) :
 Calls Tryz.prog 178 #[lvV C lv L,lvV C lv L2] w fun e w'=>e=.returned (.tuple #[.agg #[.int .i64 (inV C lv l m).1,.int .u64 (inV C lv l m).2.1],.int .i64 (inV C lv l m).2.2])∧Ext w w':=by
 by_cases hm:C.mode=1
 · rw [← innV_eq hm]; exact LInner_c C lv L L2 l m w h h2 hm
 · rw [inV_mode hm]; exact LInner_mode C lv L L2 l m w h h2 hm
theorem KInnerAny_c {w:World} {s g o g2:Nat} {C:Cfg} {B:Nat} {L L2:Nat → Lev} {l m:Nat → List Int} (h:KAt w s g C B L l) (h2:KAt w o g2 C B L2 m) :
 Calls Tryz.prog 137 #[.pointer (some ⟨s,0,none⟩),.pointer (some ⟨o,0,none⟩)] w fun e w'=>e=.returned (.tuple #[.agg #[.int .i64 (inV C 0 (l 0) (m 0)).1,.int .u64 (inV C 0 (l 0) (m 0)).2.1],.int .i64 (inV C 0 (l 0) (m 0)).2.2])∧Ext w w' :=
 KInner_c s g o g2 C B L L2 l m w h h2 _ _ _ (fun M M2 W h1 h3=>LInnerAny_c C 0 M M2 (l 0) (m 0) W h1 h3)
def fitK (B:Nat) (ms:Nat → List Int):Bool:=(List.range (B+1)).all fun n=>(ms n).all fitB
theorem fitK_iff {B:Nat} {ms:Nat → List Int}:fitK B ms=true ↔ ∀ n,n≤B → allI (ms n):=by
 unfold fitK
 simp only [List.all_eq_true,List.mem_range]
 exact ⟨fun h n hn x hx=>of_decide_eq_true (p:=-9223372036854775808≤x∧x≤9223372036854775807) (h n (by omega) x hx),fun h n hn x hx=>fitB_yes (h n (by omega) x hx)⟩
theorem KHeavy_c (s g:Nat) (C:Cfg) (B:Nat) (L:Nat → Lev) (ls:Nat → List Int) (w:World) (h:KAt w s g C B L ls) (least budget:Int) :
 Calls Tryz.prog 136 #[.pointer (some ⟨s,0,none⟩),.int .i64 least,.int .i64 budget] w (HeavyPost w B (ptU C ls) least budget) :=
 Heavy_c s g C B L ls w h (ptU C ls) (kat_uniq h) least budget
end Go.Proofs.YtmalncfcgcebhaaGreatDoor
namespace Go.Proofs.YtmalncfcgcebhaaGreatDoor
set_option linter.unusedVariables false
open Go.Proofs Go.RowKit
def keyF (k e:Int):Option Rep × Int:=if e=0 then (some (.key k),0) else (none,e)
def listF (D:List Fd) (e:Int):Option Rep × Int:=if e=0 then (some (.list D),0) else (none,e)
theorem uw (x:Int):U64 (uu x):=uu_u x
set_option maxRecDepth 20000 in
set_option maxHeartbeats 8000000 in
theorem AQuery_point {w:World} {N p m:Nat} {l:List (Nat × Th)} {last:Nat} (h:AgAt w N p m l last) (k:Int) (hk:I64 k) (g:Nat) (a b:Int) (ha:I64 a) (hb:I64 b) (hgl:g < w.heap.size) (hg1:w.cell? ⟨g,1,none⟩=some (.int .i64 a)) (hg2:w.cell? ⟨g,2,none⟩=some (.int .i64 b)) {z:Nat × Th} (hf:fnd l k=some z) :
 Calls Tryz.prog 86 #[.pointer (some ⟨p,0,none⟩),.agg #[.string ⟨#[112,111,105,110,116]⟩,.int .i64 k,.slice (some ⟨g,1,none⟩) 2 2]] w (DoPost w N p m l last (numF (pointR z.2.C z.2.B z.2.ls a (uu b)).1 (pointR z.2.C z.2.B z.2.ls a (uu b)).2,stOf l last)):=by
 have hs1:(Value.slice (some ⟨g,1,none⟩) 2 2).oneCell'=true:=rfl
 obtain ⟨x,y,hv⟩:=z.2.v_two
 have HS:=fun w' (hw:Ext w w')=>Lib.hid (AStack_c z.2 w' ((h.th z (fnd_mem hf).1).ext hw))
 have hpl:=h.ltp
 have hx1:Ext w (w.alloc (.cells #[.string ⟨#[112,111,105,110,116]⟩,.int .i64 k,.slice (some ⟨g,1,none⟩) 2 2] 179)):=Ext.alloc' _ _
 have hlk:=h.look_a hx1 hk hf
 rw [hv] at hlk
 have HL:=Lib.hid h
 have hhp:=hx1.keep h.hp
 have hb:=heap_at w (.cells #[.string ⟨#[112,111,105,110,116]⟩,.int .i64 k,.slice (some ⟨g,1,none⟩) 2 2] 179) rfl
 clear h
 go_enter Tryz.func86,Tryz.ntmps86
 go_wp2_with fail
 obtain ⟨W1,hW1⟩:∃ W1,w.alloc (.cells #[.string ⟨#[112,111,105,110,116]⟩,.int .i64 k,.slice (some ⟨g,1,none⟩) 2 2] 179)=W1:=⟨_,rfl⟩
 rw [hW1] at hx1 hlk hhp hb ⊢
 clear hW1
 have p0:=(cell_of hhp 0).trans rfl
 have p1:=(cell_of hhp 1).trans rfl
 have pl1:=lt_of hhp
 have b0:=(cell_of hb 0).trans rfl
 have b1:=(cell_of hb 1).trans rfl
 have b2:=(cell_of hb 2).trans rfl
 have bl:=lt_of hb
 have HX1:=Lib.hid hx1
 have HB:=Lib.hid hb
 have HP:=Lib.hid hhp
 clear hx1 hhp hb
 have hC0:=af_drew W1
 refine pi_start (fun w'=>∃ x:After W1,w'=x.w) [] (by kernel_rfl) ?_
 refine pi_t 0 rfl (by kernel_rfl) (by kernel_rfl) (fun _ _ _ _ h=>h) (fun K hK=>?_)
 go_big_quiet_op
 refine hK _ ?_
 clear hK K
 refine pi_t 1 rfl (by kernel_rfl) (by kernel_rfl) (fun _ _ _ _ h=>h) (fun K hK=>?_)
 go_big_quiet_op
 refine hK _ ?_
 clear hK K
 refine pi_t 2 rfl (by kernel_rfl) (by kernel_rfl) (fun _ _ _ _ h=>h) (fun K hK=>?_)
 go_big_quiet_op
 refine hK _ ?_
 clear hK K
 refine pi_t 4 rfl (by kernel_rfl) (by kernel_rfl) (fun _ _ _ _ h=>h) (fun K hK=>?_)
 go_big_quiet_op
 refine hK _ ?_
 clear hK K
 refine pi_c 3 (by assumption) rfl (by kernel_rfl) (by kernel_rfl) (fun _ _ _ _ h=>h) (fun K hK=>?_)
 go_big_quiet_op
 refine hK _ ?_
 clear hK K
 refine pi_c 5 (by assumption) rfl (by kernel_rfl) (by kernel_rfl) (fun _ _ _ _ h=>h) (fun K hK=>?_)
 go_big_quiet_op
 refine hK _ ?_
 clear hK K
 refine pi_c 6 (by assumption) rfl (by kernel_rfl) (by kernel_rfl) (fun _ _ _ _ h=>h) (fun K hK=>?_)
 go_big_quiet_op
 refine hK _ ?_
 clear hK K
 refine pi_t 7 rfl (by kernel_rfl) (by kernel_rfl) (fun _ _ _ _ h=>h) (fun K hK=>?_)
 go_big_quiet_op
 refine hK _ ?_
 clear hK K
 refine pi_t 8 rfl (by kernel_rfl) (by kernel_rfl) (fun _ _ _ _ h=>h) (fun K hK=>?_)
 go_big_quiet_op
 refine hK _ ?_
 clear hK K
 refine pi_t 9 rfl (by kernel_rfl) (by kernel_rfl) (fun _ _ _ _ h=>h) (fun K hK=>?_)
 go_big_quiet_op
 refine hK _ ?_
 clear hK K
 refine pi_l 10 rfl (by kernel_rfl) (fun K hK=>?_)
 go_wp2
 refine hK _ _ (fun _ h=>af_step h (Ext.alloc' _ _)) ?_
 clear hK K
 refine pi_l 11 rfl (by kernel_rfl) (fun K hK=>?_)
 go_wp2
 refine hK _ _ (fun _ _=>⟨⟨_,(Ext.alloc' W1 _).drewR⟩,rfl⟩) ?_
 clear hK K
 refine pi_t 12 rfl (by kernel_rfl) (by kernel_rfl) (fun _ _ _ _ h=>h) (fun K hK=>?_)
 go_big_quiet_op
 refine hK _ ?_
 clear hK K
 refine pi_end (by kernel_rfl) ?_
 have hx2:Ext W1 (W1.alloc (.cells #[.pointer x,.pointer y] 152)).drew:=(Ext.alloc' W1 _).drewR
 have hb2:(W1.alloc (.cells #[.pointer x,.pointer y] 152)).drew.heap[W1.heap.size]?=some (.cells #[.pointer x,.pointer y] 152 (0,0)):=heap_at W1 _ rfl
 obtain ⟨W2,hW2⟩:∃ W2,(W1.alloc (.cells #[.pointer x,.pointer y] 152)).drew=W2:=⟨_,rfl⟩
 rw [hW2] at hx2 hb2 ⊢
 clear hW2 hC0 hlk
 have HX2:=Lib.hid (HX1.out.trans' hx2)
 have t0:=(cell_of hb2 0).trans rfl
 have t1:=(cell_of hb2 1).trans rfl
 have tl:=lt_of hb2
 have hb':=hx2.keep HB.out
 have hp':=hx2.keep HP.out
 clear b0 b1 b2 bl p0 p1 pl1
 have b0:=(cell_of hb' 0).trans rfl
 have b1:=(cell_of hb' 1).trans rfl
 have b2:=(cell_of hb' 2).trans rfl
 have bl:=lt_of hb'
 have p0:=(cell_of hp' 0).trans rfl
 have p1:=(cell_of hp' 1).trans rfl
 have pl1:=lt_of hp'
 clear hb' hp' hb2 hx2
 rw [hv] at HS
 go_wp2_with fail
 refine Calls.mono (HS _ HX2.out).out ?_
 rintro e w3 ⟨s3,g3,L3,rfl,hK3,hx3⟩
 have hx23:=HX2.out.trans' hx3
 have HX3:=Lib.hid hx23
 have HK3:=Lib.hid hK3
 have c0:=(hx3.cell (p:=⟨w.heap.size,0,none⟩) bl).trans b0
 have c2:=(hx3.cell (p:=⟨w.heap.size,2,none⟩) bl).trans b2
 have bl3:=Nat.lt_of_lt_of_le bl hx3.size
 have q1:=(hx23.cell hgl).trans hg1
 have q2:=(HX3.out.cell hgl).trans hg2
 have ql:=Nat.lt_of_lt_of_le hgl hx23.size
 clear b0 b1 b2 bl p0 p1 pl1 t0 t1 tl hx3 hK3 hx23
 have e1:=u64_wrap a
 have e2:=u64_wrap b
 go_wp2_with fail
 have hC0:=af_drew w3
 refine pi_start (fun w'=>∃ x:After w3,w'=x.w) [] (by kernel_rfl) ?_
 refine pi_t 0 rfl (by kernel_rfl) (by kernel_rfl) (fun _ _ _ _ h=>h) (fun K hK=>?_)
 go_big_quiet_op
 refine hK _ ?_
 clear hK K
 refine pi_t 1 rfl (by kernel_rfl) (by kernel_rfl) (fun _ _ _ _ h=>h) (fun K hK=>?_)
 go_big_quiet_op
 refine hK _ ?_
 clear hK K
 refine pi_t 5 rfl (by kernel_rfl) (by kernel_rfl) (fun _ _ _ _ h=>h) (fun K hK=>?_)
 go_big_quiet_op
 refine hK _ ?_
 clear hK K
 refine pi_c 2 (by assumption) rfl (by kernel_rfl) (by kernel_rfl) (fun _ _ _ _ h=>h) (fun K hK=>?_)
 go_big_quiet_op
 refine hK _ ?_
 clear hK K
 refine pi_t 3 rfl (by kernel_rfl) (by kernel_rfl) (fun _ _ _ _ h=>h) (fun K hK=>?_)
 go_big_quiet_op
 refine hK _ ?_
 clear hK K
 refine pi_c 4 (by assumption) rfl (by kernel_rfl) (by kernel_rfl) (fun _ _ _ _ h=>h) (fun K hK=>?_)
 go_big_quiet_op
 refine hK _ ?_
 clear hK K
 refine pi_c 6 (by assumption) rfl (by kernel_rfl) (by kernel_rfl) (fun _ _ _ _ h=>h) (fun K hK=>?_)
 go_big_quiet_op
 refine hK _ ?_
 clear hK K
 refine pi_t 7 rfl (by kernel_rfl) (by kernel_rfl) (fun _ _ _ _ h=>h) (fun K hK=>?_)
 go_big_quiet_op
 refine hK _ ?_
 clear hK K
 refine pi_c 8 (by assumption) rfl (by kernel_rfl) (by kernel_rfl) (fun _ _ _ _ h=>h) (fun K hK=>?_)
 go_big_quiet_op
 refine hK _ ?_
 clear hK K
 refine pi_t 9 rfl (by kernel_rfl) (by kernel_rfl) (fun _ _ _ _ h=>h) (fun K hK=>?_)
 go_big_quiet_op
 refine hK _ ?_
 clear hK K
 refine pi_t 10 rfl (by kernel_rfl) (by kernel_rfl) (fun _ _ _ _ h=>h) (fun K hK=>?_)
 go_big_quiet_op
 refine hK _ ?_
 clear hK K
 refine pi_l 11 rfl (by kernel_rfl) (fun K hK=>?_)
 go_wp2_with fail
 refine (KPointR_c _ _ _ _ _ _ _ (KAt.ext HK3.out (Below.drew (Ext.refl _))) a (uu b) (uw b)).mono ?_
 rintro e w4 ⟨rfl,hx4⟩
 go_wp2
 refine hK _ _ (fun _ h=>af_step h hx4) ?_
 clear hK K
 generalize hR:pointR z.2.C z.2.B z.2.ls a (uu b)=R at *
 obtain ⟨rn,re⟩:=R
 have HX4:=Lib.hid (HX3.out.trans' (Ext.trans' (Below.drew (Ext.refl _)) hx4))
 have HX35:=Ext.trans' (Below.drew (Ext.refl w3)) hx4
 have HR:=Lib.hid hR
 clear hR hx4
 refine pi_t 12 rfl (by kernel_rfl) (by kernel_rfl) (fun _ _ _ _ h=>h) (fun K hK=>?_)
 go_big_quiet_op
 refine hK _ ?_
 clear hK K
 refine pi_t 13 rfl (by kernel_rfl) (by kernel_rfl) (fun _ _ _ _ h=>h) (fun K hK=>?_)
 go_big_quiet_op
 refine hK _ ?_
 clear hK K
 refine pi_l 14 rfl (by kernel_rfl) (fun K hK=>?_)
 go_wp2_with fail
 refine (ANum_c rn re _).mono ?_
 rintro e w5 ⟨v,rfl,hnv,hx5⟩
 go_wp2
 have HX5:=Lib.hid (HX4.out.trans' hx5)
 have HNV:=Lib.hid hnv
 refine hK _ _ (fun _ _=>⟨⟨_,HX35.trans' hx5⟩,rfl⟩) ?_
 clear hK K
 refine pi_t 15 rfl (by kernel_rfl) (by kernel_rfl) (fun _ _ _ _ h=>h) (fun K hK=>?_)
 go_big_quiet_op
 refine hK _ ?_
 clear hK K
 refine pi_t 16 rfl (by kernel_rfl) (by kernel_rfl) (fun _ _ _ _ h=>h) (fun K hK=>?_)
 go_big_quiet_op
 refine hK _ ?_
 clear hK K
 refine pi_t 17 rfl (by kernel_rfl) (by kernel_rfl) (fun _ _ _ _ h=>h) (fun K hK=>?_)
 go_big_quiet_op
 refine hK _ ?_
 clear hK K
 refine pi_t 18 rfl (by kernel_rfl) (by kernel_rfl) (fun _ _ _ _ h=>h) (fun K hK=>?_)
 go_big_quiet_op
 refine hK _ ?_
 clear hK K
 refine pi_end (by kernel_rfl) ?_
 go_wp2
 go_ret2
 exact DoPost.same HL.out HX5.out (HNV.out _ _)
set_option maxRecDepth 20000 in
set_option maxHeartbeats 8000000 in
theorem AQuery_range {w:World} {N p m:Nat} {l:List (Nat × Th)} {last:Nat} (h:AgAt w N p m l last) (k:Int) (hk:I64 k) (g:Nat) (a b:Int) (ha:I64 a) (hb:I64 b) (hgl:g < w.heap.size) (hg1:w.cell? ⟨g,1,none⟩=some (.int .i64 a)) (hg2:w.cell? ⟨g,2,none⟩=some (.int .i64 b)) {z:Nat × Th} (hf:fnd l k=some z) :
 Calls Tryz.prog 86 #[.pointer (some ⟨p,0,none⟩),.agg #[.string ⟨#[114,97,110,103,101]⟩,.int .i64 k,.slice (some ⟨g,1,none⟩) 2 2]] w (DoPost w N p m l last (numF (rangeR (ptU z.2.C z.2.ls) z.2.B (uu a) (uu b)).1 (rangeR (ptU z.2.C z.2.ls) z.2.B (uu a) (uu b)).2,stOf l last)):=by
 have hs1:(Value.slice (some ⟨g,1,none⟩) 2 2).oneCell'=true:=rfl
 obtain ⟨x,y,hv⟩:=z.2.v_two
 have HS:=fun w' (hw:Ext w w')=>Lib.hid (AStack_c z.2 w' ((h.th z (fnd_mem hf).1).ext hw))
 have hpl:=h.ltp
 have hx1:Ext w (w.alloc (.cells #[.string ⟨#[114,97,110,103,101]⟩,.int .i64 k,.slice (some ⟨g,1,none⟩) 2 2] 179)):=Ext.alloc' _ _
 have hlk:=h.look_a hx1 hk hf
 rw [hv] at hlk
 have HL:=Lib.hid h
 have hhp:=hx1.keep h.hp
 have hb:=heap_at w (.cells #[.string ⟨#[114,97,110,103,101]⟩,.int .i64 k,.slice (some ⟨g,1,none⟩) 2 2] 179) rfl
 clear h
 go_enter Tryz.func86,Tryz.ntmps86
 go_wp2_with fail
 obtain ⟨W1,hW1⟩:∃ W1,w.alloc (.cells #[.string ⟨#[114,97,110,103,101]⟩,.int .i64 k,.slice (some ⟨g,1,none⟩) 2 2] 179)=W1:=⟨_,rfl⟩
 rw [hW1] at hx1 hlk hhp hb ⊢
 clear hW1
 have p0:=(cell_of hhp 0).trans rfl
 have p1:=(cell_of hhp 1).trans rfl
 have pl1:=lt_of hhp
 have b0:=(cell_of hb 0).trans rfl
 have b1:=(cell_of hb 1).trans rfl
 have b2:=(cell_of hb 2).trans rfl
 have bl:=lt_of hb
 have HX1:=Lib.hid hx1
 have HB:=Lib.hid hb
 have HP:=Lib.hid hhp
 clear hx1 hhp hb
 have hC0:=af_drew W1
 refine pi_start (fun w'=>∃ x:After W1,w'=x.w) [] (by kernel_rfl) ?_
 refine pi_t 0 rfl (by kernel_rfl) (by kernel_rfl) (fun _ _ _ _ h=>h) (fun K hK=>?_)
 go_big_quiet_op
 refine hK _ ?_
 clear hK K
 refine pi_t 1 rfl (by kernel_rfl) (by kernel_rfl) (fun _ _ _ _ h=>h) (fun K hK=>?_)
 go_big_quiet_op
 refine hK _ ?_
 clear hK K
 refine pi_t 2 rfl (by kernel_rfl) (by kernel_rfl) (fun _ _ _ _ h=>h) (fun K hK=>?_)
 go_big_quiet_op
 refine hK _ ?_
 clear hK K
 refine pi_t 4 rfl (by kernel_rfl) (by kernel_rfl) (fun _ _ _ _ h=>h) (fun K hK=>?_)
 go_big_quiet_op
 refine hK _ ?_
 clear hK K
 refine pi_c 3 (by assumption) rfl (by kernel_rfl) (by kernel_rfl) (fun _ _ _ _ h=>h) (fun K hK=>?_)
 go_big_quiet_op
 refine hK _ ?_
 clear hK K
 refine pi_c 5 (by assumption) rfl (by kernel_rfl) (by kernel_rfl) (fun _ _ _ _ h=>h) (fun K hK=>?_)
 go_big_quiet_op
 refine hK _ ?_
 clear hK K
 refine pi_c 6 (by assumption) rfl (by kernel_rfl) (by kernel_rfl) (fun _ _ _ _ h=>h) (fun K hK=>?_)
 go_big_quiet_op
 refine hK _ ?_
 clear hK K
 refine pi_t 7 rfl (by kernel_rfl) (by kernel_rfl) (fun _ _ _ _ h=>h) (fun K hK=>?_)
 go_big_quiet_op
 refine hK _ ?_
 clear hK K
 refine pi_t 8 rfl (by kernel_rfl) (by kernel_rfl) (fun _ _ _ _ h=>h) (fun K hK=>?_)
 go_big_quiet_op
 refine hK _ ?_
 clear hK K
 refine pi_t 9 rfl (by kernel_rfl) (by kernel_rfl) (fun _ _ _ _ h=>h) (fun K hK=>?_)
 go_big_quiet_op
 refine hK _ ?_
 clear hK K
 refine pi_l 10 rfl (by kernel_rfl) (fun K hK=>?_)
 go_wp2
 refine hK _ _ (fun _ h=>af_step h (Ext.alloc' _ _)) ?_
 clear hK K
 refine pi_l 11 rfl (by kernel_rfl) (fun K hK=>?_)
 go_wp2
 refine hK _ _ (fun _ _=>⟨⟨_,(Ext.alloc' W1 _).drewR⟩,rfl⟩) ?_
 clear hK K
 refine pi_t 12 rfl (by kernel_rfl) (by kernel_rfl) (fun _ _ _ _ h=>h) (fun K hK=>?_)
 go_big_quiet_op
 refine hK _ ?_
 clear hK K
 refine pi_end (by kernel_rfl) ?_
 have hx2:Ext W1 (W1.alloc (.cells #[.pointer x,.pointer y] 152)).drew:=(Ext.alloc' W1 _).drewR
 have hb2:(W1.alloc (.cells #[.pointer x,.pointer y] 152)).drew.heap[W1.heap.size]?=some (.cells #[.pointer x,.pointer y] 152 (0,0)):=heap_at W1 _ rfl
 obtain ⟨W2,hW2⟩:∃ W2,(W1.alloc (.cells #[.pointer x,.pointer y] 152)).drew=W2:=⟨_,rfl⟩
 rw [hW2] at hx2 hb2 ⊢
 clear hW2 hC0 hlk
 have HX2:=Lib.hid (HX1.out.trans' hx2)
 have t0:=(cell_of hb2 0).trans rfl
 have t1:=(cell_of hb2 1).trans rfl
 have tl:=lt_of hb2
 have hb':=hx2.keep HB.out
 have hp':=hx2.keep HP.out
 clear b0 b1 b2 bl p0 p1 pl1
 have b0:=(cell_of hb' 0).trans rfl
 have b1:=(cell_of hb' 1).trans rfl
 have b2:=(cell_of hb' 2).trans rfl
 have bl:=lt_of hb'
 have p0:=(cell_of hp' 0).trans rfl
 have p1:=(cell_of hp' 1).trans rfl
 have pl1:=lt_of hp'
 clear hb' hp' hb2 hx2
 rw [hv] at HS
 go_wp2_with fail
 refine Calls.mono (HS _ HX2.out).out ?_
 rintro e w3 ⟨s3,g3,L3,rfl,hK3,hx3⟩
 have hx23:=HX2.out.trans' hx3
 have HX3:=Lib.hid hx23
 have HK3:=Lib.hid hK3
 have c0:=(hx3.cell (p:=⟨w.heap.size,0,none⟩) bl).trans b0
 have c2:=(hx3.cell (p:=⟨w.heap.size,2,none⟩) bl).trans b2
 have bl3:=Nat.lt_of_lt_of_le bl hx3.size
 have q1:=(hx23.cell hgl).trans hg1
 have q2:=(HX3.out.cell hgl).trans hg2
 have ql:=Nat.lt_of_lt_of_le hgl hx23.size
 clear b0 b1 b2 bl p0 p1 pl1 t0 t1 tl hx3 hK3 hx23
 have e1:=u64_wrap a
 have e2:=u64_wrap b
 go_wp2_with fail
 have hC0:=af_drew w3
 refine pi_start (fun w'=>∃ x:After w3,w'=x.w) [] (by kernel_rfl) ?_
 refine pi_t 0 rfl (by kernel_rfl) (by kernel_rfl) (fun _ _ _ _ h=>h) (fun K hK=>?_)
 go_big_quiet_op
 refine hK _ ?_
 clear hK K
 refine pi_t 1 rfl (by kernel_rfl) (by kernel_rfl) (fun _ _ _ _ h=>h) (fun K hK=>?_)
 go_big_quiet_op
 refine hK _ ?_
 clear hK K
 refine pi_t 6 rfl (by kernel_rfl) (by kernel_rfl) (fun _ _ _ _ h=>h) (fun K hK=>?_)
 go_big_quiet_op
 refine hK _ ?_
 clear hK K
 refine pi_c 2 (by assumption) rfl (by kernel_rfl) (by kernel_rfl) (fun _ _ _ _ h=>h) (fun K hK=>?_)
 go_big_quiet_op
 refine hK _ ?_
 clear hK K
 refine pi_t 3 rfl (by kernel_rfl) (by kernel_rfl) (fun _ _ _ _ h=>h) (fun K hK=>?_)
 go_big_quiet_op
 refine hK _ ?_
 clear hK K
 refine pi_c 4 (by assumption) rfl (by kernel_rfl) (by kernel_rfl) (fun _ _ _ _ h=>h) (fun K hK=>?_)
 go_big_quiet_op
 refine hK _ ?_
 clear hK K
 refine pi_t 5 rfl (by kernel_rfl) (by kernel_rfl) (fun _ _ _ _ h=>h) (fun K hK=>?_)
 go_big_quiet_op
 refine hK _ ?_
 clear hK K
 refine pi_c 7 (by assumption) rfl (by kernel_rfl) (by kernel_rfl) (fun _ _ _ _ h=>h) (fun K hK=>?_)
 go_big_quiet_op
 refine hK _ ?_
 clear hK K
 refine pi_t 8 rfl (by kernel_rfl) (by kernel_rfl) (fun _ _ _ _ h=>h) (fun K hK=>?_)
 go_big_quiet_op
 refine hK _ ?_
 clear hK K
 refine pi_c 9 (by assumption) rfl (by kernel_rfl) (by kernel_rfl) (fun _ _ _ _ h=>h) (fun K hK=>?_)
 go_big_quiet_op
 refine hK _ ?_
 clear hK K
 refine pi_t 10 rfl (by kernel_rfl) (by kernel_rfl) (fun _ _ _ _ h=>h) (fun K hK=>?_)
 go_big_quiet_op
 refine hK _ ?_
 clear hK K
 refine pi_l 11 rfl (by kernel_rfl) (fun K hK=>?_)
 go_wp2_with fail
 refine (KRange_c _ _ _ _ _ _ _ (KAt.ext HK3.out (Below.drew (Ext.refl _))) (uu a) (uu b) (uw a) (uw b)).mono ?_
 rintro e w4 ⟨rfl,hx4⟩
 go_wp2
 refine hK _ _ (fun _ h=>af_step h hx4) ?_
 clear hK K
 generalize hR:rangeR (ptU z.2.C z.2.ls) z.2.B (uu a) (uu b)=R at *
 obtain ⟨rn,re⟩:=R
 have HX4:=Lib.hid (HX3.out.trans' (Ext.trans' (Below.drew (Ext.refl _)) hx4))
 have HX35:=Ext.trans' (Below.drew (Ext.refl w3)) hx4
 have HR:=Lib.hid hR
 clear hR hx4
 refine pi_t 12 rfl (by kernel_rfl) (by kernel_rfl) (fun _ _ _ _ h=>h) (fun K hK=>?_)
 go_big_quiet_op
 refine hK _ ?_
 clear hK K
 refine pi_t 13 rfl (by kernel_rfl) (by kernel_rfl) (fun _ _ _ _ h=>h) (fun K hK=>?_)
 go_big_quiet_op
 refine hK _ ?_
 clear hK K
 refine pi_l 14 rfl (by kernel_rfl) (fun K hK=>?_)
 go_wp2_with fail
 refine (ANum_c rn re _).mono ?_
 rintro e w5 ⟨v,rfl,hnv,hx5⟩
 go_wp2
 have HX5:=Lib.hid (HX4.out.trans' hx5)
 have HNV:=Lib.hid hnv
 refine hK _ _ (fun _ _=>⟨⟨_,HX35.trans' hx5⟩,rfl⟩) ?_
 clear hK K
 refine pi_t 15 rfl (by kernel_rfl) (by kernel_rfl) (fun _ _ _ _ h=>h) (fun K hK=>?_)
 go_big_quiet_op
 refine hK _ ?_
 clear hK K
 refine pi_t 16 rfl (by kernel_rfl) (by kernel_rfl) (fun _ _ _ _ h=>h) (fun K hK=>?_)
 go_big_quiet_op
 refine hK _ ?_
 clear hK K
 refine pi_t 17 rfl (by kernel_rfl) (by kernel_rfl) (fun _ _ _ _ h=>h) (fun K hK=>?_)
 go_big_quiet_op
 refine hK _ ?_
 clear hK K
 refine pi_t 18 rfl (by kernel_rfl) (by kernel_rfl) (fun _ _ _ _ h=>h) (fun K hK=>?_)
 go_big_quiet_op
 refine hK _ ?_
 clear hK K
 refine pi_end (by kernel_rfl) ?_
 go_wp2
 go_ret2
 exact DoPost.same HL.out HX5.out (HNV.out _ _)
set_option maxRecDepth 20000 in
set_option maxHeartbeats 8000000 in
theorem AQuery_quantile {w:World} {N p m:Nat} {l:List (Nat × Th)} {last:Nat} (h:AgAt w N p m l last) (k:Int) (hk:I64 k) (g:Nat) (a:Int) (ha:I64 a) (hgl:g < w.heap.size) (hg1:w.cell? ⟨g,1,none⟩=some (.int .i64 a)) {z:Nat × Th} (hf:fnd l k=some z) :
 Calls Tryz.prog 86 #[.pointer (some ⟨p,0,none⟩),.agg #[.string ⟨#[113,117,97,110,116,105,108,101]⟩,.int .i64 k,.slice (some ⟨g,1,none⟩) 1 1]] w (DoPost w N p m l last (keyF (quanR (ptU z.2.C z.2.ls) z.2.B ((z.2.ls z.2.B).getD 0 0) a).1 (quanR (ptU z.2.C z.2.ls) z.2.B ((z.2.ls z.2.B).getD 0 0) a).2,stOf l last)):=by
 have hs1:(Value.slice (some ⟨g,1,none⟩) 1 1).oneCell'=true:=rfl
 obtain ⟨x,y,hv⟩:=z.2.v_two
 have HS:=fun w' (hw:Ext w w')=>Lib.hid (AStack_c z.2 w' ((h.th z (fnd_mem hf).1).ext hw))
 have hpl:=h.ltp
 have hx1:Ext w (w.alloc (.cells #[.string ⟨#[113,117,97,110,116,105,108,101]⟩,.int .i64 k,.slice (some ⟨g,1,none⟩) 1 1] 179)):=Ext.alloc' _ _
 have hlk:=h.look_a hx1 hk hf
 rw [hv] at hlk
 have HL:=Lib.hid h
 have hhp:=hx1.keep h.hp
 have hb:=heap_at w (.cells #[.string ⟨#[113,117,97,110,116,105,108,101]⟩,.int .i64 k,.slice (some ⟨g,1,none⟩) 1 1] 179) rfl
 clear h
 go_enter Tryz.func86,Tryz.ntmps86
 go_wp2_with fail
 obtain ⟨W1,hW1⟩:∃ W1,w.alloc (.cells #[.string ⟨#[113,117,97,110,116,105,108,101]⟩,.int .i64 k,.slice (some ⟨g,1,none⟩) 1 1] 179)=W1:=⟨_,rfl⟩
 rw [hW1] at hx1 hlk hhp hb ⊢
 clear hW1
 have p0:=(cell_of hhp 0).trans rfl
 have p1:=(cell_of hhp 1).trans rfl
 have pl1:=lt_of hhp
 have b0:=(cell_of hb 0).trans rfl
 have b1:=(cell_of hb 1).trans rfl
 have b2:=(cell_of hb 2).trans rfl
 have bl:=lt_of hb
 have HX1:=Lib.hid hx1
 have HB:=Lib.hid hb
 have HP:=Lib.hid hhp
 clear hx1 hhp hb
 have hC0:=af_drew W1
 refine pi_start (fun w'=>∃ x:After W1,w'=x.w) [] (by kernel_rfl) ?_
 refine pi_t 0 rfl (by kernel_rfl) (by kernel_rfl) (fun _ _ _ _ h=>h) (fun K hK=>?_)
 go_big_quiet_op
 refine hK _ ?_
 clear hK K
 refine pi_t 1 rfl (by kernel_rfl) (by kernel_rfl) (fun _ _ _ _ h=>h) (fun K hK=>?_)
 go_big_quiet_op
 refine hK _ ?_
 clear hK K
 refine pi_t 2 rfl (by kernel_rfl) (by kernel_rfl) (fun _ _ _ _ h=>h) (fun K hK=>?_)
 go_big_quiet_op
 refine hK _ ?_
 clear hK K
 refine pi_t 4 rfl (by kernel_rfl) (by kernel_rfl) (fun _ _ _ _ h=>h) (fun K hK=>?_)
 go_big_quiet_op
 refine hK _ ?_
 clear hK K
 refine pi_c 3 (by assumption) rfl (by kernel_rfl) (by kernel_rfl) (fun _ _ _ _ h=>h) (fun K hK=>?_)
 go_big_quiet_op
 refine hK _ ?_
 clear hK K
 refine pi_c 5 (by assumption) rfl (by kernel_rfl) (by kernel_rfl) (fun _ _ _ _ h=>h) (fun K hK=>?_)
 go_big_quiet_op
 refine hK _ ?_
 clear hK K
 refine pi_c 6 (by assumption) rfl (by kernel_rfl) (by kernel_rfl) (fun _ _ _ _ h=>h) (fun K hK=>?_)
 go_big_quiet_op
 refine hK _ ?_
 clear hK K
 refine pi_t 7 rfl (by kernel_rfl) (by kernel_rfl) (fun _ _ _ _ h=>h) (fun K hK=>?_)
 go_big_quiet_op
 refine hK _ ?_
 clear hK K
 refine pi_t 8 rfl (by kernel_rfl) (by kernel_rfl) (fun _ _ _ _ h=>h) (fun K hK=>?_)
 go_big_quiet_op
 refine hK _ ?_
 clear hK K
 refine pi_t 9 rfl (by kernel_rfl) (by kernel_rfl) (fun _ _ _ _ h=>h) (fun K hK=>?_)
 go_big_quiet_op
 refine hK _ ?_
 clear hK K
 refine pi_l 10 rfl (by kernel_rfl) (fun K hK=>?_)
 go_wp2
 refine hK _ _ (fun _ h=>af_step h (Ext.alloc' _ _)) ?_
 clear hK K
 refine pi_l 11 rfl (by kernel_rfl) (fun K hK=>?_)
 go_wp2
 refine hK _ _ (fun _ _=>⟨⟨_,(Ext.alloc' W1 _).drewR⟩,rfl⟩) ?_
 clear hK K
 refine pi_t 12 rfl (by kernel_rfl) (by kernel_rfl) (fun _ _ _ _ h=>h) (fun K hK=>?_)
 go_big_quiet_op
 refine hK _ ?_
 clear hK K
 refine pi_end (by kernel_rfl) ?_
 have hx2:Ext W1 (W1.alloc (.cells #[.pointer x,.pointer y] 152)).drew:=(Ext.alloc' W1 _).drewR
 have hb2:(W1.alloc (.cells #[.pointer x,.pointer y] 152)).drew.heap[W1.heap.size]?=some (.cells #[.pointer x,.pointer y] 152 (0,0)):=heap_at W1 _ rfl
 obtain ⟨W2,hW2⟩:∃ W2,(W1.alloc (.cells #[.pointer x,.pointer y] 152)).drew=W2:=⟨_,rfl⟩
 rw [hW2] at hx2 hb2 ⊢
 clear hW2 hC0 hlk
 have HX2:=Lib.hid (HX1.out.trans' hx2)
 have t0:=(cell_of hb2 0).trans rfl
 have t1:=(cell_of hb2 1).trans rfl
 have tl:=lt_of hb2
 have hb':=hx2.keep HB.out
 have hp':=hx2.keep HP.out
 clear b0 b1 b2 bl p0 p1 pl1
 have b0:=(cell_of hb' 0).trans rfl
 have b1:=(cell_of hb' 1).trans rfl
 have b2:=(cell_of hb' 2).trans rfl
 have bl:=lt_of hb'
 have p0:=(cell_of hp' 0).trans rfl
 have p1:=(cell_of hp' 1).trans rfl
 have pl1:=lt_of hp'
 clear hb' hp' hb2 hx2
 rw [hv] at HS
 go_wp2_with fail
 refine Calls.mono (HS _ HX2.out).out ?_
 rintro e w3 ⟨s3,g3,L3,rfl,hK3,hx3⟩
 have hx23:=HX2.out.trans' hx3
 have HX3:=Lib.hid hx23
 have HK3:=Lib.hid hK3
 have c0:=(hx3.cell (p:=⟨w.heap.size,0,none⟩) bl).trans b0
 have c2:=(hx3.cell (p:=⟨w.heap.size,2,none⟩) bl).trans b2
 have bl3:=Nat.lt_of_lt_of_le bl hx3.size
 have q1:=(hx23.cell hgl).trans hg1
 have ql:=Nat.lt_of_lt_of_le hgl hx23.size
 clear b0 b1 b2 bl p0 p1 pl1 t0 t1 tl hx3 hK3 hx23
 go_wp2_with fail
 refine Calls.mono (KQuan_c _ _ _ _ _ _ _ HK3.out a ha) ?_
 generalize hR:quanR (ptU z.2.C z.2.ls) z.2.B ((z.2.ls z.2.B).getD 0 0) a=R at *
 obtain ⟨rn,re⟩:=R
 rintro e w4 ⟨rfl,hx4⟩
 have HX4:=Lib.hid (HX3.out.trans' hx4)
 have hl4:=Nat.lt_of_lt_of_le bl3 hx4.size
 clear hR hx4 c0 c2 q1 ql
 by_cases h0:re=0
 · subst h0
   go_wp2
   go_ret2
   exact DoPost.same HL.out HX4.out (r:=some (.key rn)) rfl
 · have hn:(re != 0)=true:=by simpa using h0
   have HF:Hid (keyF rn re=(none,re)):=Lib.hid (by unfold keyF; rw [if_neg h0])
   go_wp2
   go_ret2
   rw [HF.out]
   exact DoPost.same HL.out HX4.out (r:=none) rfl
set_option maxRecDepth 20000 in
set_option maxHeartbeats 8000000 in
theorem AQuery_heavy {w:World} {N p m:Nat} {l:List (Nat × Th)} {last:Nat} (h:AgAt w N p m l last) (k:Int) (hk:I64 k) (g:Nat) (a b:Int) (ha:I64 a) (hb:I64 b) (hgl:g < w.heap.size) (hg1:w.cell? ⟨g,1,none⟩=some (.int .i64 a)) (hg2:w.cell? ⟨g,2,none⟩=some (.int .i64 b)) {z:Nat × Th} (hf:fnd l k=some z) :
 Calls Tryz.prog 86 #[.pointer (some ⟨p,0,none⟩),.agg #[.string ⟨#[104,101,97,118,121]⟩,.int .i64 k,.slice (some ⟨g,1,none⟩) 2 2]] w (DoPost w N p m l last (listF (heavyP (ptU z.2.C z.2.ls) a b z.2.B).1 (heavyP (ptU z.2.C z.2.ls) a b z.2.B).2,stOf l last)):=by
 have hs1:(Value.slice (some ⟨g,1,none⟩) 2 2).oneCell'=true:=rfl
 obtain ⟨x,y,hv⟩:=z.2.v_two
 have HS:=fun w' (hw:Ext w w')=>Lib.hid (AStack_c z.2 w' ((h.th z (fnd_mem hf).1).ext hw))
 have hpl:=h.ltp
 have hx1:Ext w (w.alloc (.cells #[.string ⟨#[104,101,97,118,121]⟩,.int .i64 k,.slice (some ⟨g,1,none⟩) 2 2] 179)):=Ext.alloc' _ _
 have hlk:=h.look_a hx1 hk hf
 rw [hv] at hlk
 have HL:=Lib.hid h
 have hhp:=hx1.keep h.hp
 have hb:=heap_at w (.cells #[.string ⟨#[104,101,97,118,121]⟩,.int .i64 k,.slice (some ⟨g,1,none⟩) 2 2] 179) rfl
 clear h
 go_enter Tryz.func86,Tryz.ntmps86
 go_wp2_with fail
 obtain ⟨W1,hW1⟩:∃ W1,w.alloc (.cells #[.string ⟨#[104,101,97,118,121]⟩,.int .i64 k,.slice (some ⟨g,1,none⟩) 2 2] 179)=W1:=⟨_,rfl⟩
 rw [hW1] at hx1 hlk hhp hb ⊢
 clear hW1
 have p0:=(cell_of hhp 0).trans rfl
 have p1:=(cell_of hhp 1).trans rfl
 have pl1:=lt_of hhp
 have b0:=(cell_of hb 0).trans rfl
 have b1:=(cell_of hb 1).trans rfl
 have b2:=(cell_of hb 2).trans rfl
 have bl:=lt_of hb
 have HX1:=Lib.hid hx1
 have HB:=Lib.hid hb
 have HP:=Lib.hid hhp
 clear hx1 hhp hb
 have hC0:=af_drew W1
 refine pi_start (fun w'=>∃ x:After W1,w'=x.w) [] (by kernel_rfl) ?_
 refine pi_t 0 rfl (by kernel_rfl) (by kernel_rfl) (fun _ _ _ _ h=>h) (fun K hK=>?_)
 go_big_quiet_op
 refine hK _ ?_
 clear hK K
 refine pi_t 1 rfl (by kernel_rfl) (by kernel_rfl) (fun _ _ _ _ h=>h) (fun K hK=>?_)
 go_big_quiet_op
 refine hK _ ?_
 clear hK K
 refine pi_t 2 rfl (by kernel_rfl) (by kernel_rfl) (fun _ _ _ _ h=>h) (fun K hK=>?_)
 go_big_quiet_op
 refine hK _ ?_
 clear hK K
 refine pi_t 4 rfl (by kernel_rfl) (by kernel_rfl) (fun _ _ _ _ h=>h) (fun K hK=>?_)
 go_big_quiet_op
 refine hK _ ?_
 clear hK K
 refine pi_c 3 (by assumption) rfl (by kernel_rfl) (by kernel_rfl) (fun _ _ _ _ h=>h) (fun K hK=>?_)
 go_big_quiet_op
 refine hK _ ?_
 clear hK K
 refine pi_c 5 (by assumption) rfl (by kernel_rfl) (by kernel_rfl) (fun _ _ _ _ h=>h) (fun K hK=>?_)
 go_big_quiet_op
 refine hK _ ?_
 clear hK K
 refine pi_c 6 (by assumption) rfl (by kernel_rfl) (by kernel_rfl) (fun _ _ _ _ h=>h) (fun K hK=>?_)
 go_big_quiet_op
 refine hK _ ?_
 clear hK K
 refine pi_t 7 rfl (by kernel_rfl) (by kernel_rfl) (fun _ _ _ _ h=>h) (fun K hK=>?_)
 go_big_quiet_op
 refine hK _ ?_
 clear hK K
 refine pi_t 8 rfl (by kernel_rfl) (by kernel_rfl) (fun _ _ _ _ h=>h) (fun K hK=>?_)
 go_big_quiet_op
 refine hK _ ?_
 clear hK K
 refine pi_t 9 rfl (by kernel_rfl) (by kernel_rfl) (fun _ _ _ _ h=>h) (fun K hK=>?_)
 go_big_quiet_op
 refine hK _ ?_
 clear hK K
 refine pi_l 10 rfl (by kernel_rfl) (fun K hK=>?_)
 go_wp2
 refine hK _ _ (fun _ h=>af_step h (Ext.alloc' _ _)) ?_
 clear hK K
 refine pi_l 11 rfl (by kernel_rfl) (fun K hK=>?_)
 go_wp2
 refine hK _ _ (fun _ _=>⟨⟨_,(Ext.alloc' W1 _).drewR⟩,rfl⟩) ?_
 clear hK K
 refine pi_t 12 rfl (by kernel_rfl) (by kernel_rfl) (fun _ _ _ _ h=>h) (fun K hK=>?_)
 go_big_quiet_op
 refine hK _ ?_
 clear hK K
 refine pi_end (by kernel_rfl) ?_
 have hx2:Ext W1 (W1.alloc (.cells #[.pointer x,.pointer y] 152)).drew:=(Ext.alloc' W1 _).drewR
 have hb2:(W1.alloc (.cells #[.pointer x,.pointer y] 152)).drew.heap[W1.heap.size]?=some (.cells #[.pointer x,.pointer y] 152 (0,0)):=heap_at W1 _ rfl
 obtain ⟨W2,hW2⟩:∃ W2,(W1.alloc (.cells #[.pointer x,.pointer y] 152)).drew=W2:=⟨_,rfl⟩
 rw [hW2] at hx2 hb2 ⊢
 clear hW2 hC0 hlk
 have HX2:=Lib.hid (HX1.out.trans' hx2)
 have t0:=(cell_of hb2 0).trans rfl
 have t1:=(cell_of hb2 1).trans rfl
 have tl:=lt_of hb2
 have hb':=hx2.keep HB.out
 have hp':=hx2.keep HP.out
 clear b0 b1 b2 bl p0 p1 pl1
 have b0:=(cell_of hb' 0).trans rfl
 have b1:=(cell_of hb' 1).trans rfl
 have b2:=(cell_of hb' 2).trans rfl
 have bl:=lt_of hb'
 have p0:=(cell_of hp' 0).trans rfl
 have p1:=(cell_of hp' 1).trans rfl
 have pl1:=lt_of hp'
 clear hb' hp' hb2 hx2
 rw [hv] at HS
 go_wp2_with fail
 refine Calls.mono (HS _ HX2.out).out ?_
 rintro e w3 ⟨s3,g3,L3,rfl,hK3,hx3⟩
 have hx23:=HX2.out.trans' hx3
 have HX3:=Lib.hid hx23
 have HK3:=Lib.hid hK3
 have c0:=(hx3.cell (p:=⟨w.heap.size,0,none⟩) bl).trans b0
 have c2:=(hx3.cell (p:=⟨w.heap.size,2,none⟩) bl).trans b2
 have bl3:=Nat.lt_of_lt_of_le bl hx3.size
 have q1:=(hx23.cell hgl).trans hg1
 have q2:=(HX3.out.cell hgl).trans hg2
 have ql:=Nat.lt_of_lt_of_le hgl hx23.size
 clear b0 b1 b2 bl p0 p1 pl1 t0 t1 tl hx3 hK3 hx23
 go_wp2_with fail
 have hC0:=af_drew w3
 refine pi_start (fun w'=>∃ x:After w3,w'=x.w) [] (by kernel_rfl) ?_
 refine pi_t 0 rfl (by kernel_rfl) (by kernel_rfl) (fun _ _ _ _ h=>h) (fun K hK=>?_)
 go_big_quiet_op
 refine hK _ ?_
 clear hK K
 refine pi_t 1 rfl (by kernel_rfl) (by kernel_rfl) (fun _ _ _ _ h=>h) (fun K hK=>?_)
 go_big_quiet_op
 refine hK _ ?_
 clear hK K
 refine pi_t 5 rfl (by kernel_rfl) (by kernel_rfl) (fun _ _ _ _ h=>h) (fun K hK=>?_)
 go_big_quiet_op
 refine hK _ ?_
 clear hK K
 refine pi_c 2 (by assumption) rfl (by kernel_rfl) (by kernel_rfl) (fun _ _ _ _ h=>h) (fun K hK=>?_)
 go_big_quiet_op
 refine hK _ ?_
 clear hK K
 refine pi_t 3 rfl (by kernel_rfl) (by kernel_rfl) (fun _ _ _ _ h=>h) (fun K hK=>?_)
 go_big_quiet_op
 refine hK _ ?_
 clear hK K
 refine pi_c 4 (by assumption) rfl (by kernel_rfl) (by kernel_rfl) (fun _ _ _ _ h=>h) (fun K hK=>?_)
 go_big_quiet_op
 refine hK _ ?_
 clear hK K
 refine pi_c 6 (by assumption) rfl (by kernel_rfl) (by kernel_rfl) (fun _ _ _ _ h=>h) (fun K hK=>?_)
 go_big_quiet_op
 refine hK _ ?_
 clear hK K
 refine pi_t 7 rfl (by kernel_rfl) (by kernel_rfl) (fun _ _ _ _ h=>h) (fun K hK=>?_)
 go_big_quiet_op
 refine hK _ ?_
 clear hK K
 refine pi_c 8 (by assumption) rfl (by kernel_rfl) (by kernel_rfl) (fun _ _ _ _ h=>h) (fun K hK=>?_)
 go_big_quiet_op
 refine hK _ ?_
 clear hK K
 refine pi_l 9 rfl (by kernel_rfl) (fun K hK=>?_)
 go_wp2_with fail
 refine (KHeavy_c _ _ _ _ _ _ _ (KAt.ext HK3.out (Below.drew (Ext.refl _))) a b).mono ?_
 unfold HeavyPost
 generalize hR:heavyP (ptU z.2.C z.2.ls) a b z.2.B=R at *
 obtain ⟨rn,re⟩:=R
 rintro e w4 ⟨v,rfl,ho,hx4⟩
 obtain ⟨vp,vc,rfl⟩:=own_sl ho
 have HO:=Lib.hid ho
 have HX35:=Ext.trans' (Below.drew (Ext.refl w3)) hx4
 have HX4:=Lib.hid (HX3.out.trans' HX35)
 have hsb:w.heap.size≤w3.drew.heap.size:=HX3.out.size
 clear ho hR
 go_wp2
 refine hK _ _ (fun _ _=>⟨⟨_,HX35⟩,rfl⟩) ?_
 clear hK K
 refine pi_t 10 rfl (by kernel_rfl) (by kernel_rfl) (fun _ _ _ _ h=>h) (fun K hK=>?_)
 go_big_quiet_op
 refine hK _ ?_
 clear hK K
 refine pi_t 11 rfl (by kernel_rfl) (by kernel_rfl) (fun _ _ _ _ h=>h) (fun K hK=>?_)
 go_big_quiet_op
 refine hK _ ?_
 clear hK K
 refine pi_t 12 rfl (by kernel_rfl) (by kernel_rfl) (fun _ _ _ _ h=>h) (fun K hK=>?_)
 go_big_quiet_op
 refine hK _ ?_
 clear hK K
 refine pi_t 13 rfl (by kernel_rfl) (by kernel_rfl) (fun _ _ _ _ h=>h) (fun K hK=>?_)
 go_big_quiet_op
 refine hK _ ?_
 clear hK K
 refine pi_t 14 rfl (by kernel_rfl) (by kernel_rfl) (fun _ _ _ _ h=>h) (fun K hK=>?_)
 go_big_quiet_op
 refine hK _ ?_
 clear hK K
 refine pi_end (by kernel_rfl) ?_
 clear hx4 HX35 c0 c2 q1 q2 ql bl3
 by_cases h0:re=0
 · subst h0
   go_wp2
   go_ret2
   exact DoPost.same HL.out HX4.out (r:=some (.list rn)) ⟨_,rfl,own_bmono HO.out hsb⟩
 · have hn:(re != 0)=true:=by simpa using h0
   have HF:Hid (listF rn re=(none,re)):=Lib.hid (by unfold listF; rw [if_neg h0])
   go_wp2
   go_ret2
   rw [HF.out]
   exact DoPost.same HL.out HX4.out (r:=none) rfl
end Go.Proofs.YtmalncfcgcebhaaGreatDoor
