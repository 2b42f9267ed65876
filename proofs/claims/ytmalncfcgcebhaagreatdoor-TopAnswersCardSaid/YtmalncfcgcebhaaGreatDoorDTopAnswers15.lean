/- Part. No condition. -/
import Derived.Test.YtmalncfcgcebhaaGreatDoorDTopAnswers7
import Derived.Test.YtmalncfcgcebhaaGreatDoorDTopAnswers14
import Derived.Test.YtmalncfcgcebhaaGreatDoorDTopAnswers3
namespace Go.Proofs.YtmalncfcgcebhaaGreatDoor
set_option linter.unusedVariables false
open Go.Proofs Go.RowKit
theorem pow6 {lv:Nat} (h:lv≤6):1≤2 ^ (6 - lv)∧2 ^ (6 - lv)≤64∧(64:Int) / 2 ^ lv=((2 ^ (6 - lv):Nat):Int):=by
 match lv,h with
 | 0,_=>decide
 | 1,_=>decide
 | 2,_=>decide
 | 3,_=>decide
 | 4,_=>decide
 | 5,_=>decide
 | 6,_=>decide
theorem row_cell {w:World} {base:Nat} {v:Value} {R:Nat} {xs:List Int} (h:w.ownsRow base 3 1 v R (ints xs)) (hx:xs.length=R) (hR:0 < R):∃ g cap,v=.slice (some ⟨g,0,none⟩) R cap∧g < w.heap.size∧∀ k,k < R → w.cell? ⟨g,k,none⟩=some (.int .i64 (xs.getD k 0)):=by
 obtain ⟨g,cap,rfl⟩:=own_some h (by omega)
 obtain ⟨h1,h2⟩:=own_any h
 refine ⟨g,cap,rfl,h1,fun k hk=>h2 k hk _ ?_⟩
 unfold ints
 rw [List.getElem?_map,List.getElem?_eq_getElem (by omega)]
 simp [List.getD_eq_getElem?_getD,hx,hk]
set_option maxRecDepth 20000 in
set_option maxHeartbeats 8000000 in
theorem TOthers_c {p a:Nat} {C:Cfg} {f:Nat → Nat → Int} {w:World} (H:TWAt w p a C f) (hok:C.Ok) (hb:C.bits=6) (h:Nat) (hh:h < 3) (lv:Nat) (hlv:lv≤6) (idx:Int) (h0:0≤idx) (h1:idx < keys C lv) (row:Nat) (hrow:row < rN C) :
 Calls Tryz.prog 66 #[.pointer (some ⟨p,0,none⟩),.int .i64 (h:Nat),.agg #[.int .i64 (lv:Nat),.int .u64 idx],.int .i64 (row:Nat)] w fun e w'=>e=.returned (.int .i64 (othT C (f h) lv idx row (2 ^ (6 - lv))))∧Ext w w':=by
 obtain ⟨p1,p2,p3⟩:=pow6 hlv
 have hkp:=topKeys hb hlv
 have HC1:=fun W=>Lib.hid (Columns_c C hok (lv:Int) idx (by omega) (by omega) (by omega) h0 h1 W)
 have HC2:=fun (i:Int) (hi0:0≤i) (hi1:i < keys C lv) W=>Lib.hid (Columns_c C hok (lv:Int) i (by omega) (by omega) (by omega) hi0 hi1 W)
 have hr8:=hok.r2
 have hrr:C.rows=(rN C:Int):=rN_eq hok
 have hRt:C.rows.toNat=rN C:=rfl
 rw [hRt] at HC1
 simp only [hRt] at HC2
 have hcl:∀ i,(cols C lv i).length=rN C:=fun i=>by rw [cols_len]; rfl
 obtain ⟨R,hR⟩:∃ R,rN C=R:=⟨_,rfl⟩
 rw [hR] at HC1 hrow hrr hcl
 simp only [hR] at HC2
 have hR8:R≤8:=by omega
 have HBD:=Lib.hid (fun K=>othT_bd (C:=C) (f:=f h) (fun i hi=>H.bd h i hh hi) lv idx row K)
 have HMB:=Lib.hid (fun i=>massT_bd (fun j hj=>H.bd h j hh hj) lv i 64 (Nat.le_refl _))
 obtain ⟨M,hM⟩:∃ M,2 ^ (6 - lv)=M:=⟨_,rfl⟩
 rw [hM] at p1 p2 p3 hkp ⊢
 have HKP:=Lib.hid hkp
 have i0:=Lib.hid (show U64 idx by unfold U64; omega)
 have hidb:0≤idx∧idx < 64:=by omega
 obtain ⟨W1,hW1⟩:∃ W1,w.alloc (.cells #[.int .i64 (lv:Nat),.int .u64 idx] 52)=W1:=⟨_,rfl⟩
 have hb1:=heap_at w (.cells #[.int .i64 (lv:Nat),.int .u64 idx] 52) rfl
 have hx1:=Ext.alloc' w (.cells #[.int .i64 (lv:Nat),.int .u64 idx] 52)
 rw [hW1] at hb1 hx1
 have o0:=(cell_of hb1 0).trans rfl
 have o1:=(cell_of hb1 1).trans rfl
 have ol:=lt_of hb1
 have HTW:=Lib.hid (H.keep (hx1.block p H.lt))
 have hpl:=HTW.out.lt
 obtain ⟨c0,c1,c2,c3,c4,c5⟩:=HTW.out.c0
 have HX1:=Lib.hid hx1
 have HB1:=Lib.hid hb1
 clear H hM hR hkp hb1 hx1 hRt c0 h0 h1 hb hrr hr8
 go_enter Tryz.func66,Tryz.ntmps66
 go_wp2_with fail
 clear hW1
 have hC0:=af_drew W1
 refine pi_start (fun w'=>∃ x:After W1,w'=x.w) [] (by kernel_rfl) ?_
 refine pi_t 0 rfl (by kernel_rfl) (by kernel_rfl) (fun _ _ _ _ h=>h) (fun K hK=>?_)
 go_big_quiet_op
 refine hK _ ?_
 clear hK K
 refine pi_t 1 rfl (by kernel_rfl) (by kernel_rfl) (fun _ _ _ _ h=>h) (fun K hK=>?_)
 go_big_quiet_op
 refine hK _ ?_
 clear hK K
 refine pi_t 2 rfl (by kernel_rfl) (by kernel_rfl) (fun _ _ _ _ h=>h) (fun K hK=>?_)
 go_big_quiet_op
 refine hK _ ?_
 clear hK K
 refine pi_t 4 rfl (by kernel_rfl) (by kernel_rfl) (fun _ _ _ _ h=>h) (fun K hK=>?_)
 go_big_quiet_op
 refine hK _ ?_
 clear hK K
 refine pi_t 6 rfl (by kernel_rfl) (by kernel_rfl) (fun _ _ _ _ h=>h) (fun K hK=>?_)
 go_big_quiet_op
 refine hK _ ?_
 clear hK K
 refine pi_c 3 (by assumption) rfl (by kernel_rfl) (by kernel_rfl) (fun _ _ _ _ h=>h) (fun K hK=>?_)
 go_big_quiet_op
 refine hK _ ?_
 clear hK K
 refine pi_c 5 (by assumption) rfl (by kernel_rfl) (by kernel_rfl) (fun _ _ _ _ h=>h) (fun K hK=>?_)
 go_big_quiet_op
 refine hK _ ?_
 clear hK K
 refine pi_c 7 (by assumption) rfl (by kernel_rfl) (by kernel_rfl) (fun _ _ _ _ h=>h) (fun K hK=>?_)
 go_big_quiet_op
 refine hK _ ?_
 clear hK K
 refine pi_l 8 rfl (by kernel_rfl) (fun K hK=>?_)
 go_wp2_with (go_at_call 24; refine (HC1 _).out.mono ?_; rintro e w2 ⟨v1,rfl,hv1,hx2⟩)
 refine hK _ _ (fun _ h=>af_step h hx2) ?_
 clear hK K
 refine pi_t 9 rfl (by kernel_rfl) (by kernel_rfl) (fun _ _ _ _ h=>h) (fun K hK=>?_)
 go_big_quiet_op
 refine hK _ ?_
 clear hK K
 refine pi_end (by kernel_rfl) ?_
 have hx2':Ext W1 w2:=(Ext.refl W1).drewR.trans' hx2
 obtain ⟨g1,cap1,rfl,hg1,hc1⟩:=row_cell hv1 (hcl _) (by omega)
 have own:=hc1 row hrow
 have HX2:=Lib.hid hx2'
 clear hx2 hx2' hv1 hc1 hC0 o0 o1 c1 c2 c3 c4 c5 HC1
 go_wp2_with fail
 go_loopw [10,11,12] (fun u10 u11 _ wr=>∃ i:Nat,i≤M∧u11=.int .i64 (i:Nat)∧u10=.int .i64 (othT C (f h) lv idx row i)∧Ext w2 wr) (fun _ u11 _ _=>64 - (intOf u11).toNat)
 case atStart=>exact ⟨0,by omega,rfl,rfl,Ext.refl _⟩
 case round =>
  obtain ⟨i,hi,rfl,rfl,hE⟩:=hrel
  have hE1:=HX2.out.trans' hE
  have hbx:=hE1.keep HB1.out
  have o0:=(cell_of hbx 0).trans rfl
  have o1:=(cell_of hbx 1).trans rfl
  have ol:=lt_of hbx
  have HTR:=Lib.hid (HTW.out.keep (hE1.block p hpl))
  have hplr:=HTR.out.lt
  obtain ⟨c0,c1,c2,c3,c4,c5⟩:=HTR.out.c0
  have own':=(hE.cell hg1).trans own
  have hg1r:=Nat.lt_of_lt_of_le hg1 hE.size
  have HE:=Lib.hid hE
  have HE1:=Lib.hid (HX1.out.trans' hE1)
  have hob:=HBD.out i
  by_cases hlt:i < M
  · have HC3:=fun W=>HC2 (i:Int) (by omega) (by rw [HKP.out]; omega) W
    have hmb:=HMB.out (i:Int)
    have hst:othT C (f h) lv idx row (i+1)=othT C (f h) lv idx row i+(if (i:Int) ≠ idx∧(cols C lv (i:Int)).getD row 0=(cols C lv idx).getD row 0 then massT (f h) lv (i:Int) 64 else 0):=rfl
    have HST:=Lib.hid hst
    have hob2:-9000000000000000000≤othT C (f h) lv idx row i∧othT C (f h) lv idx row i≤9000000000000000000:=by omega
    clear hst hE hE1 hbx hob c0
    go_wp2_with fail
    have hC0:=af_drew wr
    refine pi_start (fun w'=>∃ x:After wr,w'=x.w) [] (by kernel_rfl) ?_
    refine pi_t 0 rfl (by kernel_rfl) (by kernel_rfl) (fun _ _ _ _ h=>h) (fun K hK=>?_)
    go_big_quiet_op
    refine hK _ ?_
    clear hK K
    refine pi_t 1 rfl (by kernel_rfl) (by kernel_rfl) (fun _ _ _ _ h=>h) (fun K hK=>?_)
    go_big_quiet_op
    refine hK _ ?_
    clear hK K
    refine pi_t 2 rfl (by kernel_rfl) (by kernel_rfl) (fun _ _ _ _ h=>h) (fun K hK=>?_)
    go_big_quiet_op
    refine hK _ ?_
    clear hK K
    refine pi_t 4 rfl (by kernel_rfl) (by kernel_rfl) (fun _ _ _ _ h=>h) (fun K hK=>?_)
    go_big_quiet_op
    refine hK _ ?_
    clear hK K
    refine pi_t 6 rfl (by kernel_rfl) (by kernel_rfl) (fun _ _ _ _ h=>h) (fun K hK=>?_)
    go_big_quiet_op
    refine hK _ ?_
    clear hK K
    refine pi_t 7 rfl (by kernel_rfl) (by kernel_rfl) (fun _ _ _ _ h=>h) (fun K hK=>?_)
    go_big_quiet_op
    refine hK _ ?_
    clear hK K
    refine pi_c 3 (by assumption) rfl (by kernel_rfl) (by kernel_rfl) (fun _ _ _ _ h=>h) (fun K hK=>?_)
    go_big_quiet_op
    refine hK _ ?_
    clear hK K
    refine pi_c 5 (by assumption) rfl (by kernel_rfl) (by kernel_rfl) (fun _ _ _ _ h=>h) (fun K hK=>?_)
    go_big_quiet_op
    refine hK _ ?_
    clear hK K
    refine pi_l 8 rfl (by kernel_rfl) (fun K hK=>?_)
    go_wp2_with (go_at_call 24; refine (HC3 _).out.mono ?_; rintro e w4 ⟨v2,rfl,hv2,hx4⟩)
    refine hK _ _ (fun _ h=>af_step h hx4) ?_
    clear hK K
    refine pi_t 9 rfl (by kernel_rfl) (by kernel_rfl) (fun _ _ _ _ h=>h) (fun K hK=>?_)
    go_big_quiet_op
    refine hK _ ?_
    clear hK K
    refine pi_end (by kernel_rfl) ?_
    have hx4':Ext wr w4:=(Ext.refl wr).drewR.trans' hx4
    obtain ⟨g2,cap2,rfl,hg2,hc2⟩:=row_cell hv2 (hcl _) (by omega)
    have own2:=hc2 row hrow
    have own4:=(hx4'.cell hg1r).trans own'
    have hg14:=Nat.lt_of_lt_of_le hg1r hx4'.size
    have o0:=(hx4'.cell ol).trans o0
    have o1:=(hx4'.cell ol).trans o1
    have ol:=Nat.lt_of_lt_of_le ol hx4'.size
    have HT4:=Lib.hid (HTR.out.keep (hx4'.block p hplr))
    have HX4:=Lib.hid hx4'
    have HE4:=Lib.hid (HE.out.trans' hx4')
    have HTM:=fun W (hx:Ext w4 W)=>Lib.hid (TMass_c (HT4.out.keep (hx.block p HT4.out.lt)) h hh lv hlv (i:Int) (by unfold U64; omega))
    obtain ⟨z,hz⟩:∃ z,othT C (f h) lv idx row i=z:=⟨_,rfl⟩
    obtain ⟨ms,hms⟩:∃ ms,massT (f h) lv (i:Int) 64=ms:=⟨_,rfl⟩
    obtain ⟨ca,hca⟩:∃ ca,(cols C lv (i:Int)).getD row 0=ca:=⟨_,rfl⟩
    obtain ⟨cb,hcb⟩:∃ cb,(cols C lv idx).getD row 0=cb:=⟨_,rfl⟩
    rw [hz] at hob2 ⊢
    rw [hms] at hmb HTM
    rw [hca] at own2
    rw [hcb] at own4
    rw [hz,hms,hca,hcb] at HST
    clear hx4 hx4' hv2 hc2 hC0 c1 c2 c3 c4 c5 hz hms hca hcb own' HC3
    by_cases hne:(i:Int)=idx
    · have hnb:((i:Int) != idx)=false:=by simpa using hne
      have HS2:Hid (othT C (f h) lv idx row (i+1)=z):=Lib.hid (by rw [HST.out,if_neg (fun h=>h.1 hne),Int.add_zero])
      clear hne
      go_wp2_with fail
      have hC0:=af_drew w4
      refine pi_start (fun w'=>∃ x:After w4,w'=x.w) [] (by kernel_rfl) ?_
      refine pi_t 0 rfl (by kernel_rfl) (by kernel_rfl) (fun _ _ _ _ h=>h) (fun K hK=>?_)
      go_big_quiet_op
      refine hK _ ?_
      clear hK K
      refine pi_t 1 rfl (by kernel_rfl) (by kernel_rfl) (fun _ _ _ _ h=>h) (fun K hK=>?_)
      go_big_quiet_op
      refine hK _ ?_
      clear hK K
      refine pi_t 2 rfl (by kernel_rfl) (by kernel_rfl) (fun _ _ _ _ h=>h) (fun K hK=>?_)
      go_big_quiet_op
      refine hK _ ?_
      clear hK K
      refine pi_c 3 (by assumption) rfl (by kernel_rfl) (by kernel_rfl) (fun _ _ _ _ h=>h) (fun K hK=>?_)
      go_big_quiet_op
      refine hK _ ?_
      clear hK K
      refine pi_t 4 rfl (by kernel_rfl) (by kernel_rfl) (fun _ _ _ _ h=>h) (fun K hK=>?_)
      go_big_quiet_op
      refine hK _ ?_
      clear hK K
      refine pi_t 5 rfl (by kernel_rfl) (by kernel_rfl) (fun _ _ _ _ h=>h) (fun K hK=>?_)
      go_big_quiet_op
      refine hK _ ?_
      clear hK K
      refine pi_no 6 rfl (by kernel_rfl) (by kernel_rfl) (fun _ _ _ _ h=>h) ?_
      simp only [Act.put,List.setIfInBounds_toArray,List.set_cons_zero,List.set_cons_succ]
      refine pi_no 7 rfl (by kernel_rfl) (by kernel_rfl) (fun _ _ _ _ h=>h) ?_
      simp only [Act.put,List.setIfInBounds_toArray,List.set_cons_zero,List.set_cons_succ]
      refine pi_no 8 rfl (by kernel_rfl) (by kernel_rfl) (fun _ _ _ _ h=>h) ?_
      simp only [Act.put,List.setIfInBounds_toArray,List.set_cons_zero,List.set_cons_succ]
      refine pi_no 9 rfl (by kernel_rfl) (by kernel_rfl) (fun _ _ _ _ h=>h) ?_
      simp only [Act.put,List.setIfInBounds_toArray,List.set_cons_zero,List.set_cons_succ]
      refine pi_t 10 rfl (by kernel_rfl) (by kernel_rfl) (fun _ _ _ _ h=>h) (fun K hK=>?_)
      go_big_quiet_op
      refine hK _ ?_
      clear hK K
      refine pi_t 11 rfl (by kernel_rfl) (by kernel_rfl) (fun _ _ _ _ h=>h) (fun K hK=>?_)
      go_big_quiet_op
      refine hK _ ?_
      clear hK K
      refine pi_no 12 rfl (by kernel_rfl) (by kernel_rfl) (fun _ _ _ _ h=>h) ?_
      simp only [Act.put,List.setIfInBounds_toArray,List.set_cons_zero,List.set_cons_succ]
      refine pi_no 13 rfl (by kernel_rfl) (by kernel_rfl) (fun _ _ _ _ h=>h) ?_
      simp only [Act.put,List.setIfInBounds_toArray,List.set_cons_zero,List.set_cons_succ]
      refine pi_no 14 rfl (by kernel_rfl) (by kernel_rfl) (fun _ _ _ _ h=>h) ?_
      simp only [Act.put,List.setIfInBounds_toArray,List.set_cons_zero,List.set_cons_succ]
      refine pi_no 15 rfl (by kernel_rfl) (by kernel_rfl) (fun _ _ _ _ h=>h) ?_
      simp only [Act.put,List.setIfInBounds_toArray,List.set_cons_zero,List.set_cons_succ]
      refine pi_t 16 rfl (by kernel_rfl) (by kernel_rfl) (fun _ _ _ _ h=>h) (fun K hK=>?_)
      go_big_quiet_op
      refine hK _ ?_
      clear hK K
      refine pi_t 17 rfl (by kernel_rfl) (by kernel_rfl) (fun _ _ _ _ h=>h) (fun K hK=>?_)
      go_big_quiet_op
      refine hK _ ?_
      clear hK K
      refine pi_no 18 rfl (by kernel_rfl) (by kernel_rfl) (fun _ _ _ _ h=>h) ?_
      simp only [Act.put,List.setIfInBounds_toArray,List.set_cons_zero,List.set_cons_succ]
      refine pi_no 19 rfl (by kernel_rfl) (by kernel_rfl) (fun _ _ _ _ h=>h) ?_
      simp only [Act.put,List.setIfInBounds_toArray,List.set_cons_zero,List.set_cons_succ]
      refine pi_no 20 rfl (by kernel_rfl) (by kernel_rfl) (fun _ _ _ _ h=>h) ?_
      simp only [Act.put,List.setIfInBounds_toArray,List.set_cons_zero,List.set_cons_succ]
      refine pi_no 22 rfl (by kernel_rfl) (by kernel_rfl) (fun _ _ _ _ h=>h) ?_
      simp only [Act.put,List.setIfInBounds_toArray,List.set_cons_zero,List.set_cons_succ]
      refine pi_no 23 rfl (by kernel_rfl) (by kernel_rfl) (fun _ _ _ _ h=>h) ?_
      simp only [Act.put,List.setIfInBounds_toArray,List.set_cons_zero,List.set_cons_succ]
      refine pi_no 24 rfl (by kernel_rfl) (by kernel_rfl) (fun _ _ _ _ h=>h) ?_
      simp only [Act.put,List.setIfInBounds_toArray,List.set_cons_zero,List.set_cons_succ]
      refine pi_no 21 rfl (by kernel_rfl) (by kernel_rfl) (fun _ _ _ _ h=>h) ?_
      simp only [Act.put,List.setIfInBounds_toArray,List.set_cons_zero,List.set_cons_succ]
      refine pi_no 25 rfl (by kernel_rfl) (by kernel_rfl) (fun _ _ _ _ h=>h) ?_
      simp only [Act.put,List.setIfInBounds_toArray,List.set_cons_zero,List.set_cons_succ]
      refine pi_no 26 rfl (by kernel_rfl) (by kernel_rfl) (fun _ _ _ _ h=>h) ?_
      simp only [Act.put,List.setIfInBounds_toArray,List.set_cons_zero,List.set_cons_succ]
      refine pi_t 27 rfl (by kernel_rfl) (by kernel_rfl) (fun _ _ _ _ h=>h) (fun K hK=>?_)
      go_big_quiet_op
      refine hK _ ?_
      clear hK K
      refine pi_end (by kernel_rfl) ?_
      go_wp2_with fail
      go_roundw
      case rel=>exact ⟨i+1,by omega,by go_num,by rw [HS2.out],HE4.out.drewR⟩
      case measure=>simp [intOf]; omega
    · have hnb:((i:Int) != idx)=true:=by simpa using hne
      by_cases he:ca=cb
      · have heb:(ca == cb)=true:=by simpa using he
        have HS2:Hid (othT C (f h) lv idx row (i+1)=z+ms):=Lib.hid (by rw [HST.out,if_pos ⟨hne,he⟩])
        clear hne he
        go_wp2_with fail
        have hC0:=af_drew w4
        refine pi_start (fun w'=>∃ x:After w4,w'=x.w) [] (by kernel_rfl) ?_
        refine pi_t 0 rfl (by kernel_rfl) (by kernel_rfl) (fun _ _ _ _ h=>h) (fun K hK=>?_)
        go_big_quiet_op
        refine hK _ ?_
        clear hK K
        refine pi_t 1 rfl (by kernel_rfl) (by kernel_rfl) (fun _ _ _ _ h=>h) (fun K hK=>?_)
        go_big_quiet_op
        refine hK _ ?_
        clear hK K
        refine pi_t 2 rfl (by kernel_rfl) (by kernel_rfl) (fun _ _ _ _ h=>h) (fun K hK=>?_)
        go_big_quiet_op
        refine hK _ ?_
        clear hK K
        refine pi_c 3 (by assumption) rfl (by kernel_rfl) (by kernel_rfl) (fun _ _ _ _ h=>h) (fun K hK=>?_)
        go_big_quiet_op
        refine hK _ ?_
        clear hK K
        refine pi_t 4 rfl (by kernel_rfl) (by kernel_rfl) (fun _ _ _ _ h=>h) (fun K hK=>?_)
        go_big_quiet_op
        refine hK _ ?_
        clear hK K
        refine pi_t 5 rfl (by kernel_rfl) (by kernel_rfl) (fun _ _ _ _ h=>h) (fun K hK=>?_)
        go_big_quiet_op
        refine hK _ ?_
        clear hK K
        refine pi_t 6 rfl (by kernel_rfl) (by kernel_rfl) (fun _ _ _ _ h=>h) (fun K hK=>?_)
        go_big_quiet_op
        refine hK _ ?_
        clear hK K
        refine pi_t 7 rfl (by kernel_rfl) (by kernel_rfl) (fun _ _ _ _ h=>h) (fun K hK=>?_)
        go_big_quiet_op
        refine hK _ ?_
        clear hK K
        refine pi_t 8 rfl (by kernel_rfl) (by kernel_rfl) (fun _ _ _ _ h=>h) (fun K hK=>?_)
        go_big_quiet_op
        refine hK _ ?_
        clear hK K
        refine pi_t 9 rfl (by kernel_rfl) (by kernel_rfl) (fun _ _ _ _ h=>h) (fun K hK=>?_)
        go_big_quiet_op
        refine hK _ ?_
        clear hK K
        refine pi_t 10 rfl (by kernel_rfl) (by kernel_rfl) (fun _ _ _ _ h=>h) (fun K hK=>?_)
        go_big_quiet_op
        refine hK _ ?_
        clear hK K
        refine pi_t 11 rfl (by kernel_rfl) (by kernel_rfl) (fun _ _ _ _ h=>h) (fun K hK=>?_)
        go_big_quiet_op
        refine hK _ ?_
        clear hK K
        refine pi_t 12 rfl (by kernel_rfl) (by kernel_rfl) (fun _ _ _ _ h=>h) (fun K hK=>?_)
        go_big_quiet_op
        refine hK _ ?_
        clear hK K
        refine pi_t 13 rfl (by kernel_rfl) (by kernel_rfl) (fun _ _ _ _ h=>h) (fun K hK=>?_)
        go_big_quiet_op
        refine hK _ ?_
        clear hK K
        refine pi_t 14 rfl (by kernel_rfl) (by kernel_rfl) (fun _ _ _ _ h=>h) (fun K hK=>?_)
        go_big_quiet_op
        refine hK _ ?_
        clear hK K
        refine pi_t 15 rfl (by kernel_rfl) (by kernel_rfl) (fun _ _ _ _ h=>h) (fun K hK=>?_)
        go_big_quiet_op
        refine hK _ ?_
        clear hK K
        refine pi_t 16 rfl (by kernel_rfl) (by kernel_rfl) (fun _ _ _ _ h=>h) (fun K hK=>?_)
        go_big_quiet_op
        refine hK _ ?_
        clear hK K
        refine pi_t 17 rfl (by kernel_rfl) (by kernel_rfl) (fun _ _ _ _ h=>h) (fun K hK=>?_)
        go_big_quiet_op
        refine hK _ ?_
        clear hK K
        refine pi_t 18 rfl (by kernel_rfl) (by kernel_rfl) (fun _ _ _ _ h=>h) (fun K hK=>?_)
        go_big_quiet_op
        refine hK _ ?_
        clear hK K
        refine pi_t 19 rfl (by kernel_rfl) (by kernel_rfl) (fun _ _ _ _ h=>h) (fun K hK=>?_)
        go_big_quiet_op
        refine hK _ ?_
        clear hK K
        refine pi_t 20 rfl (by kernel_rfl) (by kernel_rfl) (fun _ _ _ _ h=>h) (fun K hK=>?_)
        go_big_quiet_op
        refine hK _ ?_
        clear hK K
        refine pi_t 22 rfl (by kernel_rfl) (by kernel_rfl) (fun _ _ _ _ h=>h) (fun K hK=>?_)
        go_big_quiet_op
        refine hK _ ?_
        clear hK K
        refine pi_t 23 rfl (by kernel_rfl) (by kernel_rfl) (fun _ _ _ _ h=>h) (fun K hK=>?_)
        go_big_quiet_op
        refine hK _ ?_
        clear hK K
        refine pi_t 24 rfl (by kernel_rfl) (by kernel_rfl) (fun _ _ _ _ h=>h) (fun K hK=>?_)
        go_big_quiet_op
        refine hK _ ?_
        clear hK K
        refine pi_c 21 (by assumption) rfl (by kernel_rfl) (by kernel_rfl) (fun _ _ _ _ h=>h) (fun K hK=>?_)
        go_big_quiet_op
        refine hK _ ?_
        clear hK K
        refine pi_c 25 (by assumption) rfl (by kernel_rfl) (by kernel_rfl) (fun _ _ _ _ h=>h) (fun K hK=>?_)
        go_big_quiet_op
        refine hK _ ?_
        clear hK K
        refine pi_t 26 rfl (by kernel_rfl) (by kernel_rfl) (fun _ _ _ _ h=>h) (fun K hK=>?_)
        go_big_quiet_op
        refine hK _ ?_
        clear hK K
        refine pi_t 27 rfl (by kernel_rfl) (by kernel_rfl) (fun _ _ _ _ h=>h) (fun K hK=>?_)
        go_big_quiet_op
        refine hK _ ?_
        clear hK K
        refine pi_end (by kernel_rfl) ?_
        go_wp2_with fail
        refine Calls.mono (HTM _ (by (repeat' (first | exact Ext.refl _ | assumption | apply Ext.allocR | apply Ext.drewR | apply Ext.drewNR | (refine Ext.trans' ?_ (by assumption)))))).out ?_
        rintro e w5 ⟨rfl,hx5⟩
        have HE5:=Lib.hid (HE4.out.trans' (by first | exact hx5 | exact (Ext.refl _).drewR.trans' hx5))
        clear hx5
        go_wp2_with fail
        go_roundw
        case rel=>exact ⟨i+1,by omega,by go_num,by rw [HS2.out],HE5.out⟩
        case measure=>simp [intOf]; omega
      · have heb:(ca == cb)=false:=by simpa using he
        have HS2:Hid (othT C (f h) lv idx row (i+1)=z):=Lib.hid (by rw [HST.out,if_neg (fun h=>he h.2),Int.add_zero])
        clear hne he
        go_wp2_with fail
        have hC0:=af_drew w4
        refine pi_start (fun w'=>∃ x:After w4,w'=x.w) [] (by kernel_rfl) ?_
        refine pi_t 0 rfl (by kernel_rfl) (by kernel_rfl) (fun _ _ _ _ h=>h) (fun K hK=>?_)
        go_big_quiet_op
        refine hK _ ?_
        clear hK K
        refine pi_t 1 rfl (by kernel_rfl) (by kernel_rfl) (fun _ _ _ _ h=>h) (fun K hK=>?_)
        go_big_quiet_op
        refine hK _ ?_
        clear hK K
        refine pi_t 2 rfl (by kernel_rfl) (by kernel_rfl) (fun _ _ _ _ h=>h) (fun K hK=>?_)
        go_big_quiet_op
        refine hK _ ?_
        clear hK K
        refine pi_c 3 (by assumption) rfl (by kernel_rfl) (by kernel_rfl) (fun _ _ _ _ h=>h) (fun K hK=>?_)
        go_big_quiet_op
        refine hK _ ?_
        clear hK K
        refine pi_t 4 rfl (by kernel_rfl) (by kernel_rfl) (fun _ _ _ _ h=>h) (fun K hK=>?_)
        go_big_quiet_op
        refine hK _ ?_
        clear hK K
        refine pi_t 5 rfl (by kernel_rfl) (by kernel_rfl) (fun _ _ _ _ h=>h) (fun K hK=>?_)
        go_big_quiet_op
        refine hK _ ?_
        clear hK K
        refine pi_t 6 rfl (by kernel_rfl) (by kernel_rfl) (fun _ _ _ _ h=>h) (fun K hK=>?_)
        go_big_quiet_op
        refine hK _ ?_
        clear hK K
        refine pi_t 7 rfl (by kernel_rfl) (by kernel_rfl) (fun _ _ _ _ h=>h) (fun K hK=>?_)
        go_big_quiet_op
        refine hK _ ?_
        clear hK K
        refine pi_t 8 rfl (by kernel_rfl) (by kernel_rfl) (fun _ _ _ _ h=>h) (fun K hK=>?_)
        go_big_quiet_op
        refine hK _ ?_
        clear hK K
        refine pi_t 9 rfl (by kernel_rfl) (by kernel_rfl) (fun _ _ _ _ h=>h) (fun K hK=>?_)
        go_big_quiet_op
        refine hK _ ?_
        clear hK K
        refine pi_t 10 rfl (by kernel_rfl) (by kernel_rfl) (fun _ _ _ _ h=>h) (fun K hK=>?_)
        go_big_quiet_op
        refine hK _ ?_
        clear hK K
        refine pi_t 11 rfl (by kernel_rfl) (by kernel_rfl) (fun _ _ _ _ h=>h) (fun K hK=>?_)
        go_big_quiet_op
        refine hK _ ?_
        clear hK K
        refine pi_t 12 rfl (by kernel_rfl) (by kernel_rfl) (fun _ _ _ _ h=>h) (fun K hK=>?_)
        go_big_quiet_op
        refine hK _ ?_
        clear hK K
        refine pi_t 13 rfl (by kernel_rfl) (by kernel_rfl) (fun _ _ _ _ h=>h) (fun K hK=>?_)
        go_big_quiet_op
        refine hK _ ?_
        clear hK K
        refine pi_t 14 rfl (by kernel_rfl) (by kernel_rfl) (fun _ _ _ _ h=>h) (fun K hK=>?_)
        go_big_quiet_op
        refine hK _ ?_
        clear hK K
        refine pi_t 15 rfl (by kernel_rfl) (by kernel_rfl) (fun _ _ _ _ h=>h) (fun K hK=>?_)
        go_big_quiet_op
        refine hK _ ?_
        clear hK K
        refine pi_t 16 rfl (by kernel_rfl) (by kernel_rfl) (fun _ _ _ _ h=>h) (fun K hK=>?_)
        go_big_quiet_op
        refine hK _ ?_
        clear hK K
        refine pi_t 17 rfl (by kernel_rfl) (by kernel_rfl) (fun _ _ _ _ h=>h) (fun K hK=>?_)
        go_big_quiet_op
        refine hK _ ?_
        clear hK K
        refine pi_t 18 rfl (by kernel_rfl) (by kernel_rfl) (fun _ _ _ _ h=>h) (fun K hK=>?_)
        go_big_quiet_op
        refine hK _ ?_
        clear hK K
        refine pi_t 19 rfl (by kernel_rfl) (by kernel_rfl) (fun _ _ _ _ h=>h) (fun K hK=>?_)
        go_big_quiet_op
        refine hK _ ?_
        clear hK K
        refine pi_t 20 rfl (by kernel_rfl) (by kernel_rfl) (fun _ _ _ _ h=>h) (fun K hK=>?_)
        go_big_quiet_op
        refine hK _ ?_
        clear hK K
        refine pi_t 22 rfl (by kernel_rfl) (by kernel_rfl) (fun _ _ _ _ h=>h) (fun K hK=>?_)
        go_big_quiet_op
        refine hK _ ?_
        clear hK K
        refine pi_t 23 rfl (by kernel_rfl) (by kernel_rfl) (fun _ _ _ _ h=>h) (fun K hK=>?_)
        go_big_quiet_op
        refine hK _ ?_
        clear hK K
        refine pi_t 24 rfl (by kernel_rfl) (by kernel_rfl) (fun _ _ _ _ h=>h) (fun K hK=>?_)
        go_big_quiet_op
        refine hK _ ?_
        clear hK K
        refine pi_c 21 (by assumption) rfl (by kernel_rfl) (by kernel_rfl) (fun _ _ _ _ h=>h) (fun K hK=>?_)
        go_big_quiet_op
        refine hK _ ?_
        clear hK K
        refine pi_c 25 (by assumption) rfl (by kernel_rfl) (by kernel_rfl) (fun _ _ _ _ h=>h) (fun K hK=>?_)
        go_big_quiet_op
        refine hK _ ?_
        clear hK K
        refine pi_t 26 rfl (by kernel_rfl) (by kernel_rfl) (fun _ _ _ _ h=>h) (fun K hK=>?_)
        go_big_quiet_op
        refine hK _ ?_
        clear hK K
        refine pi_t 27 rfl (by kernel_rfl) (by kernel_rfl) (fun _ _ _ _ h=>h) (fun K hK=>?_)
        go_big_quiet_op
        refine hK _ ?_
        clear hK K
        refine pi_end (by kernel_rfl) ?_
        go_wp2_with fail
        go_roundw
        case rel=>exact ⟨i+1,by omega,by go_num,by rw [HS2.out],HE4.out.drewR⟩
        case measure=>simp [intOf]; omega
  · obtain rfl:i=M:=by omega
    clear hE hE1 hbx c0 c1 c2 c3 c4 c5 own'
    go_wp2
    go_ret
    exact ⟨rfl,HE1.out⟩
theorem leastF_one (F:Nat → Int):leastF F 1=F 0:=by
 show min (F 0) (F 0)=F 0
 omega
set_option maxRecDepth 20000 in
set_option maxHeartbeats 8000000 in
theorem TGuess_c {p a:Nat} {C:Cfg} {f:Nat → Nat → Int} {w:World} (H:TWAt w p a C f) (hok:C.Ok) (hb:C.bits=6) (h:Nat) (hh:h < 3) (lv:Nat) (hlv:lv≤6) (idx:Int) (h0:0≤idx) (h1:idx < keys C lv) :
 Calls Tryz.prog 28 #[.pointer (some ⟨p,0,none⟩),.int .i64 (h:Nat),.agg #[.int .i64 (lv:Nat),.int .u64 idx]] w fun e w'=>e=.returned (.int .i64 (guessT C (f h) lv idx))∧Ext w w':=by
 obtain ⟨p1,p2,p3⟩:=pow6 hlv
 have hkp:=topKeys hb hlv
 have HO:=fun (row:Nat) (hr:row < rN C) W (HW:TWAt W p a C f)=>Lib.hid (TOthers_c HW hok hb h hh lv hlv idx h0 h1 row hr)
 have HX:=fun W=>Lib.hid (ExactR_c C hok (lv:Int) (by omega) (by omega) W)
 have HM:=fun W (HW:TWAt W p a C f)=>Lib.hid (TMass_c HW h hh lv hlv idx (by unfold U64; omega))
 have hr1:=hok.r1
 have hr8:=hok.r2
 have hrr:C.rows=(rN C:Int):=rN_eq hok
 have HBD:=Lib.hid (fun row K=>othT_bd (C:=C) (f:=f h) (fun i hi=>H.bd h i hh hi) lv idx row K)
 have HMB:=massT_bd (fun j hj=>H.bd h j hh hj) lv idx 64 (Nat.le_refl _)
 obtain ⟨ms,hms⟩:∃ ms,massT (f h) lv idx 64=ms:=⟨_,rfl⟩
 obtain ⟨F,hF⟩:∃ F:Nat → Int,(fun r=>othT C (f h) lv idx r (2 ^ (6 - lv)))=F:=⟨_,rfl⟩
 have hFr:∀ r,othT C (f h) lv idx r (2 ^ (6 - lv))=F r:=fun r=>congrFun hF r
 have hFb:∀ r,-5000000000000000000≤F r∧F r≤5000000000000000000:=fun r=>by
  rw [← hFr r]
  have:=HBD.out r (2 ^ (6 - lv))
  omega
 have hLb:=leastF_bd F 5000000000000000000 hFb
 have HG:Hid (guessT C (f h) lv idx=ms+if isX C lv=true then 0 else leastF F (rN C)):=Lib.hid (by unfold guessT; rw [hms,hF])
 rw [hms] at HM HMB
 simp only [hFr] at HO
 obtain ⟨R,hR⟩:∃ R,rN C=R:=⟨_,rfl⟩
 rw [hR] at HG hrr
 simp only [hR] at HO
 have hR1:1≤R∧R≤8:=by omega
 obtain ⟨W1,hW1⟩:∃ W1,w.alloc (.cells #[.int .i64 (lv:Nat),.int .u64 idx] 52)=W1:=⟨_,rfl⟩
 have hb1:=heap_at w (.cells #[.int .i64 (lv:Nat),.int .u64 idx] 52) rfl
 have hx1:=Ext.alloc' w (.cells #[.int .i64 (lv:Nat),.int .u64 idx] 52)
 rw [hW1] at hb1 hx1
 have o0:=(cell_of hb1 0).trans rfl
 have o1:=(cell_of hb1 1).trans rfl
 have ol:=lt_of hb1
 have HTW:=Lib.hid (H.keep (hx1.block p H.lt))
 have hpl:=HTW.out.lt
 obtain ⟨c0,c1,c2,c3,c4,c5⟩:=HTW.out.c0
 have HX1:=Lib.hid hx1
 have HB1:=Lib.hid hb1
 have HRR:=Lib.hid hrr
 have HFB:=Lib.hid hFb
 have HLB:=Lib.hid hLb
 clear H hR hkp hb1 hx1 c0 h0 h1 hb hrr hr8 hr1 hms hF hFr hFb hLb HBD p1 p2 p3
 go_enter Tryz.func28,Tryz.ntmps28
 go_wp2_with fail
 clear hW1
 refine Calls.mono (HM _ HTW.out).out ?_
 rintro e w2 ⟨rfl,hx2⟩
 have c1:=(hx2.cell hpl).trans c1
 have c2:=(hx2.cell hpl).trans c2
 have c3:=(hx2.cell hpl).trans c3
 have c4:=(hx2.cell hpl).trans c4
 have c5:=(hx2.cell hpl).trans c5
 have hpl2:=Nat.lt_of_lt_of_le hpl hx2.size
 have o0:=(hx2.cell ol).trans o0
 have o1:=(hx2.cell ol).trans o1
 have ol2:=Nat.lt_of_lt_of_le ol hx2.size
 have HT2:=Lib.hid (HTW.out.keep (hx2.block p hpl))
 have HX2:=Lib.hid (HX1.out.trans' hx2)
 have HX12:=Lib.hid hx2
 clear hx2
 go_wp2_with fail
 have hC0:=af_drew w2
 refine pi_start (fun w'=>∃ x:After w2,w'=x.w) [] (by kernel_rfl) ?_
 refine pi_t 0 rfl (by kernel_rfl) (by kernel_rfl) (fun _ _ _ _ h=>h) (fun K hK=>?_)
 go_big_quiet_op
 refine hK _ ?_
 clear hK K
 refine pi_t 1 rfl (by kernel_rfl) (by kernel_rfl) (fun _ _ _ _ h=>h) (fun K hK=>?_)
 go_big_quiet_op
 refine hK _ ?_
 clear hK K
 refine pi_t 2 rfl (by kernel_rfl) (by kernel_rfl) (fun _ _ _ _ h=>h) (fun K hK=>?_)
 go_big_quiet_op
 refine hK _ ?_
 clear hK K
 refine pi_t 4 rfl (by kernel_rfl) (by kernel_rfl) (fun _ _ _ _ h=>h) (fun K hK=>?_)
 go_big_quiet_op
 refine hK _ ?_
 clear hK K
 refine pi_c 3 (by assumption) rfl (by kernel_rfl) (by kernel_rfl) (fun _ _ _ _ h=>h) (fun K hK=>?_)
 go_big_quiet_op
 refine hK _ ?_
 clear hK K
 refine pi_c 5 (by assumption) rfl (by kernel_rfl) (by kernel_rfl) (fun _ _ _ _ h=>h) (fun K hK=>?_)
 go_big_quiet_op
 refine hK _ ?_
 clear hK K
 refine pi_l 6 rfl (by kernel_rfl) (fun K hK=>?_)
 go_wp2_with (go_at_call 23; refine (HX _).out.mono ?_; rintro e w3 ⟨rfl,hx3⟩)
 refine hK _ _ (fun _ h=>af_step h hx3) ?_
 clear hK K
 refine pi_end (by kernel_rfl) ?_
 have hx3':Ext w2 w3:=(Ext.refl w2).drewR.trans' hx3
 have HT3:=Lib.hid (HT2.out.keep (hx3'.block p hpl2))
 have HX3:=Lib.hid (HX2.out.trans' hx3')
 have c2:=(hx3'.cell hpl2).trans c2
 have hpl3:=Nat.lt_of_lt_of_le hpl2 hx3'.size
 have HBX:=Lib.hid ((HX12.out.trans' hx3').keep HB1.out)
 have o0:=(hx3'.cell ol2).trans o0
 have o1:=(hx3'.cell ol2).trans o1
 have ol3:=Nat.lt_of_lt_of_le ol2 hx3'.size
 clear hx3 hx3' hC0 c1 c3 c4 c5
 cases hix:isX C (lv:Int) with
 | true =>
   rw [hix] at HG
   have HG1:Hid (guessT C (f h) lv idx=ms):=Lib.hid (by rw [HG.out,if_pos rfl,Int.add_zero])
   clear HG
   go_wp2
   go_ret
   exact ⟨by rw [HG1.out]; rfl,HX3.out⟩
 | false =>
   rw [hix] at HG
   have HO0:=fun W HW=>HO 0 (by omega) W HW
   go_wp2_with fail
   refine Calls.mono (HO0 _ HT3.out).out ?_
   rintro e w4 ⟨rfl,hx4⟩
   have HX4:=Lib.hid (HX3.out.trans' hx4)
   have HT4:=Lib.hid (HT3.out.keep (hx4.block p hpl3))
   have HBX4:=Lib.hid (hx4.keep HBX.out)
   clear hx4
   go_wp2_with fail
   go_loopw [8,9] (fun u8 u9 wr=>∃ i:Nat,1≤i∧i≤R∧u9=.int .i64 (i:Nat)∧u8=.int .i64 (leastF F i)∧Ext w4 wr) (fun _ u9 _=>8 - (intOf u9).toNat)
   case atStart=>exact ⟨1,by omega,by omega,rfl,by rw [leastF_one],Ext.refl _⟩
   case round =>
    obtain ⟨i,hi1,hi,rfl,rfl,hE⟩:=hrel
    have HTR:=Lib.hid (HT4.out.keep (hE.block p HT4.out.lt))
    have hplr:=HTR.out.lt
    have d2:=HTR.out.c0.2.2.1
    have hbx:=hE.keep HBX4.out
    have o0:=(cell_of hbx 0).trans rfl
    have o1:=(cell_of hbx 1).trans rfl
    have ol:=lt_of hbx
    have HE:=Lib.hid hE
    have hlb:=HLB.out i
    rw [HRR.out] at d2
    by_cases hlt:i < R
    · have HOi:=fun W HW=>HO i (by omega) W HW
      have hls:=leastF_succ F i
      have HLS:=Lib.hid hls
      have hfb:=HFB.out i
      generalize leastF F i=z at *
      generalize F i=y at *
      clear hls hE hbx c2
      go_wp2_with fail
      refine Calls.mono (HOi _ HTR.out).out ?_
      rintro e w5 ⟨rfl,hx5⟩
      have HE5:=Lib.hid (HE.out.trans' hx5)
      clear hx5
      go_wp2
      go_roundw
      case rel=>exact ⟨i+1,by omega,by omega,by go_num,by rw [HLS.out],HE5.out⟩
      case measure=>simp [intOf]; omega
    · obtain rfl:i=R:=by omega
      have HGG:Hid (guessT C (f h) lv idx=ms+leastF F i):=Lib.hid (by rw [HG.out,if_neg (by decide)])
      have HEE:=Lib.hid (HX4.out.trans' hE)
      generalize leastF F i=z at *
      clear hE hbx c2 HG
      go_wp2
      go_ret
      exact ⟨by rw [HGG.out]; rfl,HEE.out⟩
end Go.Proofs.YtmalncfcgcebhaaGreatDoor
namespace Go.Proofs.YtmalncfcgcebhaaGreatDoor
set_option linter.unusedVariables false
open Go.Proofs Go.RowKit
section
variable {w w':World} {q:Nat} {cw:Array Value} {fz:Nat × Nat}
theorem LvAt.keepT {L:Lev} {C:Cfg} {lv:Int} {l:List Int} (h:LvAt w L C lv l) (hq:w.heap[q]?=some (.cells cw 36 fz)) (hk:∀ b,b ≠ q → w'.heap[b]?=w.heap[b]?):LvAt w' L C lv l:=by
 obtain ⟨cur,h3⟩:=h.isc
 refine h.keep (hk _ ?_) (hk _ ?_) (hk _ (blk_ne h3 hq (by decide)))
 · rcases h with ⟨_,h⟩ | ⟨_,h⟩ <;> exact blk_ne h.ex hq (by decide)
 · rcases h with ⟨_,h⟩ | ⟨_,h⟩ <;> (obtain ⟨cap,h1,_⟩:=h.g.ex; exact blk_ne h1 hq (by decide))
theorem KAt.keepT {s g:Nat} {C:Cfg} {B:Nat} {L:Nat → Lev} {ls:Nat → List Int} (h:KAt w s g C B L ls) (hq:w.heap[q]?=some (.cells cw 36 fz)) (hk:∀ b,b ≠ q → w'.heap[b]?=w.heap[b]?):KAt w' s g C B L ls:=by
 refine ⟨?_, ?_,fun n hn=>(h.lev n hn).keepT hq hk,h.sep,h.ok,h.hB⟩
 · obtain ⟨cap,h1,h2⟩:=h.ex
   exact ⟨cap,(hk _ (blk_ne h1 hq (by decide))).trans h1,h2⟩
 · obtain ⟨cur,h1,h2⟩:=h.row
   exact ⟨cur,(hk _ (blk_ne h1 hq (by decide))).trans h1,h2⟩
theorem WAt.keepT {N p b:Nat} {C:Cfg} {B n:Nat} {sm:Bk} {bk:Nat → Bk} (h:WAt w N p b C B n sm bk) (hq:w.heap[q]?=some (.cells cw 36 fz)) (hk:∀ b,b ≠ q → w'.heap[b]?=w.heap[b]?):WAt w' N p b C B n sm bk:=by
 refine ⟨?_, ?_, ?_,fun i hi=>?_,h.sepS,h.sepB,h.n1,h.n2,h.md,h.loP,h.loB,h.loC⟩
 · obtain ⟨cap,h1,h2⟩:=h.st
   exact ⟨cap,(hk _ (blk_ne h1 hq (by decide))).trans h1,h2⟩
 · obtain ⟨cur,h1,h2⟩:=h.row
   exact ⟨cur,(hk _ (blk_ne h1 hq (by decide))).trans h1,h2⟩
 · exact KAt.keepT h.sum hq hk
 · exact KAt.keepT (h.bks i hi) hq hk
theorem AgAt.keepT {N p m:Nat} {l:List (Nat × Th)} {last:Nat} (h:AgAt w N p m l last) (hq:w.heap[q]?=some (.cells cw 36 fz)) (hk:∀ b,b ≠ q → w'.heap[b]?=w.heap[b]?):AgAt w' N p m l last:=by
 refine ⟨(hk _ (blk_ne h.hp hq (by decide))).trans h.hp, ?_,fun x hx=>?_,h.sep,h.up,h.le,h.len,h.lo⟩
 · obtain ⟨n,h1,h2⟩:=h.hm
   obtain ⟨es,c,h3⟩:=h.ism
   refine ⟨n,owns_keep h1 (hk _ fun e=>?_),h2⟩
   subst e
   rw [h3] at hq
   cases hq
 · have:=h.th x hx
   obtain ⟨i,t⟩:=x
   cases t with
   | st k C B=>exact KAt.keepT this hq hk
   | wi p b C B n sm bk=>exact WAt.keepT this hq hk
end
theorem PlAt.put {w:World} {N p a m:Nat} {l:List (Nat × Th)} {C:Cfg} {f:Nat → Nat → Int} (htw:TWAt w p a C f) (hag:AgAt w N a m l 3) (hnp:¬ AgF a m l p) (htb:Tabs w) (hlo:10≤N) (hlp:N≤p) {h i:Nat} (hh:h < 3) (hi:i < 64) {v:Int} (hv:-1125899906842624≤v∧v≤1125899906842624) :
 TWAt (w.setCell ⟨p,6+h * 64+i,none⟩ (.int .i64 v)) p a C (fun h' j=>if h'=h∧j=i then v else f h' j)∧AgAt (w.setCell ⟨p,6+h * 64+i,none⟩ (.int .i64 v)) N a m l 3∧Tabs (w.setCell ⟨p,6+h * 64+i,none⟩ (.int .i64 v))∧Below N w (w.setCell ⟨p,6+h * 64+i,none⟩ (.int .i64 v)):=by
 obtain ⟨cur,h1,_⟩:=htw.ex
 have hB:Below N w (w.setCell ⟨p,6+h * 64+i,none⟩ (.int .i64 v)):=Below.setCell (Below.refl _ _) hlp _
 exact ⟨htw.set hh hi hv,hag.keepT h1 fun b hb=>setCell_other _ _ hb,htb.below hlo hB,hB⟩
end Go.Proofs.YtmalncfcgcebhaaGreatDoor
namespace Go.Proofs.YtmalncfcgcebhaaGreatDoor
set_option linter.unusedVariables false
open Go.Proofs Go.RowKit
def DoesPost (w:World) (N p a m:Nat) (C:Cfg) (T:Int) (e:Ending) (w':World):Prop :=
 e=.returned (.bool true)∧∃ l' g' f',PlAt w' N p a m l' C (T+T) g' f'∧Below N w w'
theorem PlAt.below_ext {w w':World} {N p a m:Nat} {l:List (Nat × Th)} {C:Cfg} {T:Int} {g:Nat → Nat → List Int} {f:Nat → Nat → Int} (H:PlAt w N p a m l C T g f) (hx:Ext w w'):Below N w w' :=
 Below.mono hx (Nat.le_trans H.lp (Nat.le_of_lt H.tw.lt))
theorem hand3 (x:Int):∃ h:Nat,(h:Int)=x % 65536 % 3∧h < 3:=⟨(x % 65536 % 3).toNat,by omega,by omega⟩
theorem smallZ_bd (mode d:Int):-1048576 < smallZ mode d∧smallZ mode d < 1048576∧(mode=2 → 0≤smallZ mode d):=by
 have h:=tmod_b20 (d:=d) (k:=1048576) (by decide)
 unfold smallZ
 split
 · exact ⟨by omega,by omega,fun _=>by omega⟩
 · exact ⟨by omega,by omega,fun h=>absurd h (by assumption)⟩
theorem done_ba:(⟨(repT .done).toArray⟩:ByteArray)=⟨#[100,111,110,101]⟩:=rfl
set_option maxRecDepth 20000 in
set_option maxHeartbeats 8000000 in
theorem TDoesAdd_c {w:World} {N p a m:Nat} {l:List (Nat × Th)} {C:Cfg} {T:Int} {g:Nat → Nat → List Int} {f:Nat → Nat → Int} (H:PlAt w N p a m l C T g f) (hT1:1048576≤T) (hT2:T≤35184372088832) (kd ho oo key d:Int) (h1:I64 ho) (h2:I64 oo) (h3:U64 key) (h4:I64 d) (hk3:kd ≠ 3) (hk4:kd ≠ 4) :
 Calls Tryz.prog 48 #[.pointer (some ⟨p,0,none⟩),.agg #[.int .i64 kd,.int .i64 ho,.int .i64 oo,.int .u64 key,.int .i64 d]] w (DoesPost w N p a m C T):=by
 have HH:=Lib.hid H
 have hpl:=H.tw.lt
 obtain ⟨c0,c1,c2,c3,c4,c5⟩:=H.tw.c0
 have b3:(kd == 3)=false:=by simpa using hk3
 have b4:(kd == 4)=false:=by simpa using hk4
 obtain ⟨h,hh,hh3⟩:=hand3 ho
 obtain ⟨o,ho',ho3⟩:=hand3 oo
 have HH1:=fun W=>Lib.hid (THandle_c ho h1 W)
 have HO1:=fun W=>Lib.hid (THandle_c oo h2 W)
 rw [← hh] at HH1
 rw [← ho'] at HO1
 clear hh ho'
 obtain ⟨k,hk⟩:∃ k:Nat,(k:Int)=key % 64:=⟨(key % 64).toNat,by omega⟩
 have hk64:k < 64:=by omega
 have hkt:key.tmod 64=(k:Int):=by rw [hk,Int.tmod_eq_emod_of_nonneg h3.1]
 clear hk
 have hsm:=smallZ_bd C.mode d
 have HSM:=fun W=>Lib.hid (TSmall_c C d h4 W)
 generalize smallZ C.mode d=z at *
 have hzI:I64 z:=by unfold I64; omega
 have hadd:=H.hd.add H.ok H.hb hh3 hk64 (d:=z) (by omega) hsm.2.2 (by omega)
 have hfb:=H.hd.f_bd hh3 hk64
 have HADD:=Lib.hid hadd
 have HL:=fun W (hx:Ext w W)=>Lib.hid ((H.ext hx).line (top_add hh3 (show (0:Int)≤(k:Int) by omega) (by omega) hzI hadd.2))
 have HT1:=fun W=>Lib.hid (TText_c ((h+1:Nat):Int) (hI hh3) W)
 have hkI:I64 (k:Int):=by unfold I64; omega
 have HT2:=fun W=>Lib.hid (TText_c (k:Int) hkI W)
 have HT3:=fun W=>Lib.hid (TText_c z hzI W)
 have z1:=tb_size (hI hh3)
 have z2:=tb_size hkI
 have z3:=tb_size hzI
 have hcat:=cat_three vAdd ((h+1:Nat):Int) (k:Int) z
 obtain ⟨t1,e1⟩:∃ t,(⟨(Lib.itoa ((h+1:Nat):Int)).toArray⟩:ByteArray)=t:=⟨_,rfl⟩
 obtain ⟨t2,e2⟩:∃ t,(⟨(Lib.itoa (k:Int)).toArray⟩:ByteArray)=t:=⟨_,rfl⟩
 obtain ⟨t3,e3⟩:∃ t,(⟨(Lib.itoa z).toArray⟩:ByteArray)=t:=⟨_,rfl⟩
 obtain ⟨sb,e4⟩:∃ t,lineB vAdd [((h+1:Nat):Int),(k:Int),z]=t:=⟨_,rfl⟩
 have hv:(⟨(vAdd ++ [32]).toArray⟩:ByteArray)=⟨#[97,100,100,32]⟩:=rfl
 rw [e1,e2,e3,e4,hv] at hcat
 rw [e1] at z1
 rw [e2] at z2
 rw [e3] at z3
 unfold strV at HT1 HT2 HT3 HL
 rw [e1] at HT1
 rw [e2] at HT2
 rw [e3] at HT3
 rw [e4,done_ba] at HL
 have hzb:-1048576 < z∧z < 1048576:=⟨hsm.1,hsm.2.1⟩
 have hhc:(h:Int)+1=((h+1:Nat):Int):=by omega
 have HHC:=Lib.hid hhc
 clear e1 e2 e3 e4 hv hadd hhc hsm H
 obtain ⟨W1,hW1⟩:∃ W1,w.alloc (.cells #[.int .i64 kd,.int .i64 ho,.int .i64 oo,.int .u64 key,.int .i64 d] 102)=W1:=⟨_,rfl⟩
 have hb1:=heap_at w (.cells #[.int .i64 kd,.int .i64 ho,.int .i64 oo,.int .u64 key,.int .i64 d] 102) rfl
 have hx1:=Ext.alloc' w (.cells #[.int .i64 kd,.int .i64 ho,.int .i64 oo,.int .u64 key,.int .i64 d] 102)
 rw [hW1] at hb1 hx1
 have o0:=(cell_of hb1 0).trans rfl
 have o1:=(cell_of hb1 1).trans rfl
 have o2:=(cell_of hb1 2).trans rfl
 have o3:=(cell_of hb1 3).trans rfl
 have o4:=(cell_of hb1 4).trans rfl
 have ol:=lt_of hb1
 have c0:=(hx1.cell hpl).trans c0
 have c1:=(hx1.cell hpl).trans c1
 have c2:=(hx1.cell hpl).trans c2
 have c3:=(hx1.cell hpl).trans c3
 have c4:=(hx1.cell hpl).trans c4
 have c5:=(hx1.cell hpl).trans c5
 have hpl1:=Nat.lt_of_lt_of_le hpl hx1.size
 have HX1:=Lib.hid hx1
 have hNs:∀ k,AgF a m l k → k < w.heap.size:=fun k hk=>HH.out.ag.flt hk
 obtain ⟨S,hS⟩:∃ S,AgF a m l=S:=⟨_,rfl⟩
 have nS1:¬ S w.heap.size:=by
  rw [← hS]
  intro h
  have:=hNs _ h
  omega
 have nS2:¬ S p:=by rw [← hS]; exact HH.out.np
 have HSS:=Lib.hid hS
 clear hS hNs hb1 hx1
 go_enter Tryz.func48,Tryz.ntmps48
 go_wp2_with fail
 clear hW1
 refine Calls.mono (HH1 _).out ?_
 rintro e v1 ⟨rfl,rfl⟩
 go_wp2_with fail
 refine Calls.mono (HO1 _).out ?_
 rintro e v2 ⟨rfl,rfl⟩
 go_wp2_with fail
 have hC0:=af_drew v2
 refine pi_start (fun w'=>∃ x:After v2,w'=x.w) [] (by kernel_rfl) ?_
 refine pi_t 0 rfl (by kernel_rfl) (by kernel_rfl) (fun _ _ _ _ h=>h) (fun K hK=>?_)
 go_big_quiet_op
 refine hK _ ?_
 clear hK K
 refine pi_t 1 rfl (by kernel_rfl) (by kernel_rfl) (fun _ _ _ _ h=>h) (fun K hK=>?_)
 go_big_quiet_op
 refine hK _ ?_
 clear hK K
 refine pi_t 2 rfl (by kernel_rfl) (by kernel_rfl) (fun _ _ _ _ h=>h) (fun K hK=>?_)
 go_big_quiet_op
 refine hK _ ?_
 clear hK K
 refine pi_t 4 rfl (by kernel_rfl) (by kernel_rfl) (fun _ _ _ _ h=>h) (fun K hK=>?_)
 go_big_quiet_op
 refine hK _ ?_
 clear hK K
 refine pi_c 3 (by assumption) rfl (by kernel_rfl) (by kernel_rfl) (fun _ _ _ _ h=>h) (fun K hK=>?_)
 go_big_quiet_op
 refine hK _ ?_
 clear hK K
 refine pi_c 5 (by assumption) rfl (by kernel_rfl) (by kernel_rfl) (fun _ _ _ _ h=>h) (fun K hK=>?_)
 go_big_quiet_op
 refine hK _ ?_
 clear hK K
 refine pi_l 6 rfl (by kernel_rfl) (fun K hK=>?_)
 go_wp2_with (go_at_call 96; refine (HSM _).out.mono ?_; rintro e v3 ⟨rfl,hx3⟩)
 refine hK _ _ (fun _ h=>af_step h hx3) ?_
 clear hK K
 refine pi_t 7 rfl (by kernel_rfl) (by kernel_rfl) (fun _ _ _ _ h=>h) (fun K hK=>?_)
 go_big_quiet_op
 refine hK _ ?_
 clear hK K
 refine pi_end (by kernel_rfl) ?_
 have hx3':Ext v2 v3:=(Ext.refl v2).drewR.trans' hx3
 have HX3:=Lib.hid (HX1.out.trans' hx3')
 have c0:=(hx3'.cell hpl1).trans c0
 have hpl3:=Nat.lt_of_lt_of_le hpl1 hx3'.size
 have HX23:=Lib.hid hx3'
 clear hx3 hx3' hC0 c1 c2 c3 c4 c5
 go_wp2_with fail
 have hC0:=afs_drew S v3
 refine pi_start (fun w'=>∃ x:AftS S v3,w'=x.w) [] (by kernel_rfl) ?_
 refine pi_t 0 rfl (by kernel_rfl) (by kernel_rfl) (fun _ _ _ _ h=>h) (fun K hK=>?_)
 go_big_quiet_op
 refine hK _ ?_
 clear hK K
 refine pi_t 1 rfl (by kernel_rfl) (by kernel_rfl) (fun _ _ _ _ h=>h) (fun K hK=>?_)
 go_big_quiet_op
 refine hK _ ?_
 clear hK K
 refine pi_t 2 rfl (by kernel_rfl) (by kernel_rfl) (fun _ _ _ _ h=>h) (fun K hK=>?_)
 go_big_quiet_op
 refine hK _ ?_
 clear hK K
 refine pi_t 4 rfl (by kernel_rfl) (by kernel_rfl) (fun _ _ _ _ h=>h) (fun K hK=>?_)
 go_big_quiet_op
 refine hK _ ?_
 clear hK K
 refine pi_t 5 rfl (by kernel_rfl) (by kernel_rfl) (fun _ _ _ _ h=>h) (fun K hK=>?_)
 go_big_quiet_op
 refine hK _ ?_
 clear hK K
 refine pi_t 9 rfl (by kernel_rfl) (by kernel_rfl) (fun _ _ _ _ h=>h) (fun K hK=>?_)
 go_big_quiet_op
 refine hK _ ?_
 clear hK K
 refine pi_t 10 rfl (by kernel_rfl) (by kernel_rfl) (fun _ _ _ _ h=>h) (fun K hK=>?_)
 go_big_quiet_op
 refine hK _ ?_
 clear hK K
 refine pi_t 14 rfl (by kernel_rfl) (by kernel_rfl) (fun _ _ _ _ h=>h) (fun K hK=>?_)
 go_big_quiet_op
 refine hK _ ?_
 clear hK K
 refine pi_c 3 (by assumption) rfl (by kernel_rfl) (by kernel_rfl) (fun _ _ _ _ h=>h) (fun K hK=>?_)
 go_big_quiet_op
 refine hK _ ?_
 clear hK K
 refine pi_l 6 rfl (by kernel_rfl) (fun K hK=>?_)
 go_wp2_with (go_at_call 16; rw [HHC.out]; refine (HT1 _).out.mono ?_; rintro e y1 ⟨rfl,hy1⟩)
 refine hK _ _ (fun _ h=>afs_step h hy1) ?_
 clear hK K
 refine pi_t 7 rfl (by kernel_rfl) (by kernel_rfl) (fun _ _ _ _ h=>h) (fun K hK=>?_)
 go_big_quiet_op
 refine hK _ ?_
 clear hK K
 refine pi_t 8 rfl (by kernel_rfl) (by kernel_rfl) (fun _ _ _ _ h=>h) (fun K hK=>?_)
 go_big_quiet_op
 refine hK _ ?_
 clear hK K
 refine pi_l 11 rfl (by kernel_rfl) (fun K hK=>?_)
 go_wp2_with (go_at_call 16; refine (HT2 _).out.mono ?_; rintro e y2 ⟨rfl,hy2⟩)
 refine hK _ _ (fun _ h=>afs_step h hy2) ?_
 clear hK K
 refine pi_t 12 rfl (by kernel_rfl) (by kernel_rfl) (fun _ _ _ _ h=>h) (fun K hK=>?_)
 go_big_quiet_op
 refine hK _ ?_
 clear hK K
 refine pi_t 13 rfl (by kernel_rfl) (by kernel_rfl) (fun _ _ _ _ h=>h) (fun K hK=>?_)
 go_big_quiet_op
 refine hK _ ?_
 clear hK K
 refine pi_l 15 rfl (by kernel_rfl) (fun K hK=>?_)
 go_wp2_with (go_at_call 16; refine (HT3 _).out.mono ?_; rintro e y3 ⟨rfl,hy3⟩)
 refine hK _ _ (fun _ h=>afs_step h hy3) ?_
 clear hK K
 have hy:Ext v3 y3:=((((Ext.refl v3).drewR.trans' hy1).trans' hy2).trans' hy3)
 have HY:=Lib.hid hy
 clear hy1 hy2 hy3 hy
 refine pi_t 16 rfl (by kernel_rfl) (by kernel_rfl) (fun _ _ _ _ h=>h) (fun K hK=>?_)
 go_big_quiet_op
 refine hK _ ?_
 clear hK K
 refine pi_l 17 rfl (by kernel_rfl) (fun K hK=>?_)
 go_wp2_with (go_at_call 15; refine (HL y3 (HX3.out.trans' HY.out)).out.mono ?_; rintro e v4 ⟨rfl,l',hA',hst',hnp',htw',htb',hM,hfr⟩)
 have hM3:Mod S v3 v4:=by rw [← HSS.out]; exact (HY.out.mod _).trans hM
 refine hK _ _ (fun _ _=>⟨⟨_,hM3⟩,rfl⟩) ?_
 clear hK K
 refine pi_t 18 rfl (by kernel_rfl) (by kernel_rfl) (fun _ _ _ _ h=>h) (fun K hK=>?_)
 go_big_quiet_op
 refine hK _ ?_
 clear hK K
 refine pi_t 19 rfl (by kernel_rfl) (by kernel_rfl) (fun _ _ _ _ h=>h) (fun K hK=>?_)
 go_big_quiet_op
 refine hK _ ?_
 clear hK K
 refine pi_t 20 rfl (by kernel_rfl) (by kernel_rfl) (fun _ _ _ _ h=>h) (fun K hK=>?_)
 go_big_quiet_op
 refine hK _ ?_
 clear hK K
 refine pi_t 21 rfl (by kernel_rfl) (by kernel_rfl) (fun _ _ _ _ h=>h) (fun K hK=>?_)
 go_big_quiet_op
 refine hK _ ?_
 clear hK K
 refine pi_t 22 rfl (by kernel_rfl) (by kernel_rfl) (fun _ _ _ _ h=>h) (fun K hK=>?_)
 go_big_quiet_op
 refine hK _ ?_
 clear hK K
 refine pi_end (by kernel_rfl) ?_
 have hB4:Below N w v4:=Below.trans (HH.out.below_ext (HX3.out.trans' HY.out)) ((HH.out.ag.ext (HX3.out.trans' HY.out)).below hM)
 have hcl:=htw'.cell hh3 hk64
 have hfz:=htw'.frz (6+h * 64+k)
 have hp4:=htw'.lt
 have HF1:=Lib.hid (And.intro hA' (And.intro hst' (And.intro hnp' (And.intro htw' (And.intro htb' hB4)))))
 obtain ⟨y,hyy⟩:∃ y,f h k=y:=⟨_,rfl⟩
 have HYY:=Lib.hid hyy
 rw [hyy] at hfb hcl
 have hwr:wrap64 (y+z)=y+z:=by unfold wrap64; omega
 clear hyy hM hM3 hA' hst' hnp' htw' htb' hB4 hfr hC0 c0
 go_wp2_with fail
 have hC0:=af_drew v4
 refine pi_start (fun w'=>∃ x:After v4,w'=x.w) [17] (by kernel_rfl) ?_
 refine pi_t 0 rfl (by kernel_rfl) (by kernel_rfl) (fun _ _ _ _ h=>h) (fun K hK=>?_)
 go_big_quiet_op
 refine hK _ ?_
 clear hK K
 refine pi_t 1 rfl (by kernel_rfl) (by kernel_rfl) (fun _ _ _ _ h=>h) (fun K hK=>?_)
 go_big_quiet_op
 refine hK _ ?_
 clear hK K
 refine pi_t 2 rfl (by kernel_rfl) (by kernel_rfl) (fun _ _ _ _ h=>h) (fun K hK=>?_)
 go_big_quiet_op
 refine hK _ ?_
 clear hK K
 refine pi_t 3 rfl (by kernel_rfl) (by kernel_rfl) (fun _ _ _ _ h=>h) (fun K hK=>?_)
 go_big_quiet_op
 refine hK _ ?_
 clear hK K
 refine pi_t 4 rfl (by kernel_rfl) (by kernel_rfl) (fun _ _ _ _ h=>h) (fun K hK=>?_)
 go_big_quiet_op
 refine hK _ ?_
 clear hK K
 refine pi_t 5 rfl (by kernel_rfl) (by kernel_rfl) (fun _ _ _ _ h=>h) (fun K hK=>?_)
 go_big_quiet_op
 refine hK _ ?_
 clear hK K
 refine pi_t 6 rfl (by kernel_rfl) (by kernel_rfl) (fun _ _ _ _ h=>h) (fun K hK=>?_)
 go_big_quiet_op
 refine hK _ ?_
 clear hK K
 refine pi_t 7 rfl (by kernel_rfl) (by kernel_rfl) (fun _ _ _ _ h=>h) (fun K hK=>?_)
 go_big_quiet_op
 refine hK _ ?_
 clear hK K
 refine pi_t 8 rfl (by kernel_rfl) (by kernel_rfl) (fun _ _ _ _ h=>h) (fun K hK=>?_)
 go_big_quiet_op
 refine hK _ ?_
 clear hK K
 refine pi_t 9 rfl (by kernel_rfl) (by kernel_rfl) (fun _ _ _ _ h=>h) (fun K hK=>?_)
 go_big_quiet_op
 refine hK _ ?_
 clear hK K
 refine pi_t 11 rfl (by kernel_rfl) (by kernel_rfl) (fun _ _ _ _ h=>h) (fun K hK=>?_)
 go_big_quiet_op
 refine hK _ ?_
 clear hK K
 refine pi_t 13 rfl (by kernel_rfl) (by kernel_rfl) (fun _ _ _ _ h=>h) (fun K hK=>?_)
 go_big_quiet_op
 refine hK _ ?_
 clear hK K
 refine pi_t 14 rfl (by kernel_rfl) (by kernel_rfl) (fun _ _ _ _ h=>h) (fun K hK=>?_)
 go_big_quiet_op
 refine hK _ ?_
 clear hK K
 refine pi_t 15 rfl (by kernel_rfl) (by kernel_rfl) (fun _ _ _ _ h=>h) (fun K hK=>?_)
 go_big_quiet_op
 refine hK _ ?_
 clear hK K
 refine pi_c 10 (by assumption) rfl (by kernel_rfl) (by kernel_rfl) (fun _ _ _ _ h=>h) (fun K hK=>?_)
 go_big_quiet_op
 refine hK _ ?_
 clear hK K
 refine pi_t 12 rfl (by kernel_rfl) (by kernel_rfl) (fun _ _ _ _ h=>h) (fun K hK=>?_)
 go_big_quiet_op
 refine hK _ ?_
 clear hK K
 refine pi_t 16 rfl (by kernel_rfl) (by kernel_rfl) (fun _ _ _ _ h=>h) (fun K hK=>?_)
 go_big_quiet_op
 refine hK _ ?_
 clear hK K
 refine pi_l 17 rfl (by kernel_rfl) (fun K hK=>?_)
 go_wp2
 refine hK _ _ (by simp) ?_
 clear hK K
 refine pi_end (by kernel_rfl) ?_
 have hv5:-1125899906842624≤y+z∧y+z≤1125899906842624:=by omega
 obtain ⟨g1,g2,g3,g4,g5,g6⟩:=HF1.out
 obtain ⟨q1,q2,q3,q4⟩:=PlAt.put g4 g1 g3 g5 HH.out.lo HH.out.lp hh3 hk64 hv5
 obtain ⟨W5,hW5⟩:∃ W5,v4.setCell ⟨p,6+h * 64+k,none⟩ (.int .i64 (y+z))=W5:=⟨_,rfl⟩
 rw [hW5] at q1 q2 q3 q4
 have hfn:(fun h' j=>if h'=h∧j=k then y+z else f h' j)=addFn f h k z:=by
  funext h' j
  unfold addFn
  by_cases e:h'=h∧j=k
  · rw [if_pos e,if_pos e,e.1,e.2,HYY.out]
  · rw [if_neg e,if_neg e]
 rw [hfn] at q1
 have HF:Hid (PlAt W5.drew N p a m l' C (T+T) (setG g h (updK C (g h) (k:Int) z)) (addFn f h k z)∧Below N w W5.drew):=Lib.hid ⟨PlAt.ext ⟨q1,q2,g2,g3,HH.out.ok,HH.out.hb,HADD.out.1,q3,HH.out.lo,HH.out.lp⟩ (Ext.refl W5).drewR,Below.drew (Below.trans g6 q4)⟩
 clear q1 q2 q3 q4 g1 g2 g3 g4 g5 g6 hfn hcl hfz hC0
 go_wp2
 go_ret
 exact ⟨rfl,_,_,_,HF.out.1,HF.out.2⟩
end Go.Proofs.YtmalncfcgcebhaaGreatDoor
namespace Go.Proofs.YtmalncfcgcebhaaGreatDoor
set_option linter.unusedVariables false
open Go.Proofs Go.RowKit
def rowV (f:Nat → Int):List Value:=(List.range 64).map fun j=>.int .i64 (f j)
theorem rowV_get {f:Nat → Int} {i:Nat} (h:i < 64):(rowV f)[i]?=some (.int .i64 (f i)):=by
 unfold rowV
 rw [List.getElem?_map,List.getElem?_range h]
 rfl
theorem TWAt.row {w:World} {p a:Nat} {C:Cfg} {f:Nat → Nat → Int} (H:TWAt w p a C f) {o:Nat} (ho:o < 3):w.rangeAt p (6+o * 64) (rowV (f o)):=by
 intro j v hv
 have hj:j < 64:=by
  have:=(List.getElem?_eq_some_iff.1 hv).1
  simpa [rowV] using this
 rw [rowV_get hj] at hv
 cases hv
 exact H.cell ho hj
def mixFn (op:Int → Int → Int) (f:Nat → Nat → Int) (h o i:Nat):Nat → Nat → Int:=fun h' j=>if h'=h∧j < i then op (f h j) (f o j) else f h' j
theorem mixFn_zero (op:Int → Int → Int) (f:Nat → Nat → Int) (h o:Nat):mixFn op f h o 0=f:=by
 funext h' j
 unfold mixFn
 rw [if_neg (by omega)]
theorem mixFn_here (op:Int → Int → Int) (f:Nat → Nat → Int) (h o i:Nat):mixFn op f h o i h i=f h i:=by
 unfold mixFn
 rw [if_neg (by omega)]
theorem mixFn_step (op:Int → Int → Int) (f:Nat → Nat → Int) (h o i:Nat):(fun h' j=>if h'=h∧j=i then op (f h i) (f o i) else mixFn op f h o i h' j)=mixFn op f h o (i+1):=by
 funext h' j
 unfold mixFn
 by_cases e:h'=h∧j=i
 · obtain ⟨rfl,rfl⟩:=e
   rw [if_pos ⟨rfl,rfl⟩,if_pos ⟨rfl,by omega⟩]
 · rw [if_neg e]
   by_cases e2:h'=h∧j < i
   · rw [if_pos e2,if_pos ⟨e2.1,by omega⟩]
   · rw [if_neg e2,if_neg]
     rintro ⟨a,b⟩
     by_cases e3:j=i
     · exact e ⟨a,e3⟩
     · exact e2 ⟨a,by omega⟩
theorem TWAt.congr {w:World} {p a:Nat} {C:Cfg} {f f':Nat → Nat → Int} (H:TWAt w p a C f) (h:∀ h' j,h' < 3 → j < 64 → f h' j=f' h' j):TWAt w p a C f':=by
 obtain ⟨cur,h1,a0,a1,a2,a3,a4,a5,h2⟩:=H.ex
 exact ⟨⟨cur,h1,a0,a1,a2,a3,a4,a5,fun h' j hh hj=>by rw [← h h' j hh hj]; exact h2 h' j hh hj⟩,fun h' j hh hj=>by rw [← h h' j hh hj]; exact H.bd h' j hh hj⟩
theorem mixFn_plus (f:Nat → Nat → Int) (h o:Nat):∀ h' j,h' < 3 → j < 64 → mixFn (fun x y=>x+y) f h o 64 h' j=plusFn f h o h' j:=by
 intro h' j _ hj
 unfold mixFn plusFn
 by_cases e:h'=h
 · rw [if_pos ⟨e,hj⟩,if_pos e]
 · rw [if_neg (fun h=>e h.1),if_neg e]
theorem mixFn_minus (f:Nat → Nat → Int) (h o:Nat):∀ h' j,h' < 3 → j < 64 → mixFn (fun x y=>x - y) f h o 64 h' j=minusFn f h o h' j:=by
 intro h' j _ hj
 unfold mixFn minusFn
 by_cases e:h'=h
 · rw [if_pos ⟨e,hj⟩,if_pos e]
 · rw [if_neg (fun h=>e h.1),if_neg e]
set_option maxRecDepth 20000 in
set_option maxHeartbeats 8000000 in
theorem TDoesMerge_c {w:World} {N p a m:Nat} {l:List (Nat × Th)} {C:Cfg} {T:Int} {g:Nat → Nat → List Int} {f:Nat → Nat → Int} (H:PlAt w N p a m l C T g f) (hT1:1048576≤T) (hT2:T≤35184372088832) (ho oo key d:Int) (h1:I64 ho) (h2:I64 oo) (h3:U64 key) (h4:I64 d) :
 Calls Tryz.prog 48 #[.pointer (some ⟨p,0,none⟩),.agg #[.int .i64 3,.int .i64 ho,.int .i64 oo,.int .u64 key,.int .i64 d]] w (DoesPost w N p a m C T):=by
 have HH:=Lib.hid H
 have hpl:=H.tw.lt
 obtain ⟨c0,c1,c2,c3,c4,c5⟩:=H.tw.c0
 obtain ⟨h,hh,hh3⟩:=hand3 ho
 obtain ⟨o,ho',ho3⟩:=hand3 oo
 have HH1:=fun W=>Lib.hid (THandle_c ho h1 W)
 have HO1:=fun W=>Lib.hid (THandle_c oo h2 W)
 rw [← hh] at HH1
 rw [← ho'] at HO1
 have hadd:=H.hd.plus H.ok hh3 ho3 (by omega)
 have HADD:=Lib.hid hadd
 have HL:=fun W (hx:Ext w W)=>Lib.hid ((H.ext hx).line (top_merge hh3 ho3 hadd.2))
 have HT1:=fun W=>Lib.hid (TText_c ((h+1:Nat):Int) (hI hh3) W)
 have HT2:=fun W=>Lib.hid (TText_c ((o+1:Nat):Int) (hI ho3) W)
 have z1:=tb_size (hI hh3)
 have z2:=tb_size (hI ho3)
 have hcat:=cat_two vMerge ((h+1:Nat):Int) ((o+1:Nat):Int)
 obtain ⟨t1,e1⟩:∃ t,(⟨(Lib.itoa ((h+1:Nat):Int)).toArray⟩:ByteArray)=t:=⟨_,rfl⟩
 obtain ⟨t2,e2⟩:∃ t,(⟨(Lib.itoa ((o+1:Nat):Int)).toArray⟩:ByteArray)=t:=⟨_,rfl⟩
 obtain ⟨sb,e4⟩:∃ t,lineB vMerge [((h+1:Nat):Int),((o+1:Nat):Int)]=t:=⟨_,rfl⟩
 have hv:(⟨(vMerge ++ [32]).toArray⟩:ByteArray)=⟨#[109,101,114,103,101,32]⟩:=rfl
 rw [e1,e2,e4,hv] at hcat
 rw [e1] at z1
 rw [e2] at z2
 unfold strV at HT1 HT2 HL
 rw [e1] at HT1
 rw [e2] at HT2
 rw [e4,done_ba] at HL
 have HHC:=Lib.hid (show (h:Int)+1=((h+1:Nat):Int) by omega)
 have HOC:=Lib.hid (show (o:Int)+1=((o+1:Nat):Int) by omega)
 clear hh ho' e1 e2 e4 hv hadd H
 obtain ⟨W1,hW1⟩:∃ W1,w.alloc (.cells #[.int .i64 3,.int .i64 ho,.int .i64 oo,.int .u64 key,.int .i64 d] 102)=W1:=⟨_,rfl⟩
 have hb1:=heap_at w (.cells #[.int .i64 3,.int .i64 ho,.int .i64 oo,.int .u64 key,.int .i64 d] 102) rfl
 have hx1:=Ext.alloc' w (.cells #[.int .i64 3,.int .i64 ho,.int .i64 oo,.int .u64 key,.int .i64 d] 102)
 rw [hW1] at hb1 hx1
 have o0:=(cell_of hb1 0).trans rfl
 have o1:=(cell_of hb1 1).trans rfl
 have o2:=(cell_of hb1 2).trans rfl
 have o3:=(cell_of hb1 3).trans rfl
 have o4:=(cell_of hb1 4).trans rfl
 have ol:=lt_of hb1
 have c0:=(hx1.cell hpl).trans c0
 have c1:=(hx1.cell hpl).trans c1
 have c2:=(hx1.cell hpl).trans c2
 have c3:=(hx1.cell hpl).trans c3
 have c4:=(hx1.cell hpl).trans c4
 have c5:=(hx1.cell hpl).trans c5
 have hpl1:=Nat.lt_of_lt_of_le hpl hx1.size
 have HX1:=Lib.hid hx1
 have hNs:∀ k,AgF a m l k → k < w.heap.size:=fun k hk=>HH.out.ag.flt hk
 obtain ⟨S,hS⟩:∃ S,AgF a m l=S:=⟨_,rfl⟩
 have nS1:¬ S w.heap.size:=by
  rw [← hS]
  intro h
  have:=hNs _ h
  omega
 have nS2:¬ S p:=by rw [← hS]; exact HH.out.np
 have HSS:=Lib.hid hS
 have HOB:=Lib.hid hb1
 clear hS hNs hb1 hx1
 go_enter Tryz.func48,Tryz.ntmps48
 go_wp2_with fail
 clear hW1
 refine Calls.mono (HH1 _).out ?_
 rintro e v1 ⟨rfl,rfl⟩
 go_wp2_with fail
 refine Calls.mono (HO1 _).out ?_
 rintro e v3 ⟨rfl,rfl⟩
 go_wp2_with fail
 have hC0:=afs_drew S v3
 refine pi_start (fun w'=>∃ x:AftS S v3,w'=x.w) [] (by kernel_rfl) ?_
 refine pi_t 0 rfl (by kernel_rfl) (by kernel_rfl) (fun _ _ _ _ h=>h) (fun K hK=>?_)
 go_big_quiet_op
 refine hK _ ?_
 clear hK K
 refine pi_t 1 rfl (by kernel_rfl) (by kernel_rfl) (fun _ _ _ _ h=>h) (fun K hK=>?_)
 go_big_quiet_op
 refine hK _ ?_
 clear hK K
 refine pi_t 2 rfl (by kernel_rfl) (by kernel_rfl) (fun _ _ _ _ h=>h) (fun K hK=>?_)
 go_big_quiet_op
 refine hK _ ?_
 clear hK K
 refine pi_t 4 rfl (by kernel_rfl) (by kernel_rfl) (fun _ _ _ _ h=>h) (fun K hK=>?_)
 go_big_quiet_op
 refine hK _ ?_
 clear hK K
 refine pi_t 5 rfl (by kernel_rfl) (by kernel_rfl) (fun _ _ _ _ h=>h) (fun K hK=>?_)
 go_big_quiet_op
 refine hK _ ?_
 clear hK K
 refine pi_t 6 rfl (by kernel_rfl) (by kernel_rfl) (fun _ _ _ _ h=>h) (fun K hK=>?_)
 go_big_quiet_op
 refine hK _ ?_
 clear hK K
 refine pi_t 10 rfl (by kernel_rfl) (by kernel_rfl) (fun _ _ _ _ h=>h) (fun K hK=>?_)
 go_big_quiet_op
 refine hK _ ?_
 clear hK K
 refine pi_t 11 rfl (by kernel_rfl) (by kernel_rfl) (fun _ _ _ _ h=>h) (fun K hK=>?_)
 go_big_quiet_op
 refine hK _ ?_
 clear hK K
 refine pi_c 3 (by assumption) rfl (by kernel_rfl) (by kernel_rfl) (fun _ _ _ _ h=>h) (fun K hK=>?_)
 go_big_quiet_op
 refine hK _ ?_
 clear hK K
 refine pi_l 7 rfl (by kernel_rfl) (fun K hK=>?_)
 go_wp2_with (go_at_call 16; rw [HHC.out]; refine (HT1 _).out.mono ?_; rintro e y1 ⟨rfl,hy1⟩)
 refine hK _ _ (fun _ h=>afs_step h hy1) ?_
 clear hK K
 refine pi_t 8 rfl (by kernel_rfl) (by kernel_rfl) (fun _ _ _ _ h=>h) (fun K hK=>?_)
 go_big_quiet_op
 refine hK _ ?_
 clear hK K
 refine pi_t 9 rfl (by kernel_rfl) (by kernel_rfl) (fun _ _ _ _ h=>h) (fun K hK=>?_)
 go_big_quiet_op
 refine hK _ ?_
 clear hK K
 refine pi_l 12 rfl (by kernel_rfl) (fun K hK=>?_)
 go_wp2_with (go_at_call 16; rw [HOC.out]; refine (HT2 _).out.mono ?_; rintro e y2 ⟨rfl,hy2⟩)
 refine hK _ _ (fun _ h=>afs_step h hy2) ?_
 clear hK K
 have hy:Ext v3 y2:=(((Ext.refl v3).drewR.trans' hy1).trans' hy2)
 have HY:=Lib.hid hy
 clear hy1 hy2 hy
 refine pi_t 13 rfl (by kernel_rfl) (by kernel_rfl) (fun _ _ _ _ h=>h) (fun K hK=>?_)
 go_big_quiet_op
 refine hK _ ?_
 clear hK K
 refine pi_l 14 rfl (by kernel_rfl) (fun K hK=>?_)
 go_wp2_with (go_at_call 15; refine (HL y2 (HX1.out.trans' HY.out)).out.mono ?_; rintro e v4 ⟨rfl,l',hA',hst',hnp',htw',htb',hM,hfr⟩)
 have hM3:Mod S v3 v4:=by rw [← HSS.out]; exact (HY.out.mod _).trans hM
 refine hK _ _ (fun _ _=>⟨⟨_,hM3⟩,rfl⟩) ?_
 clear hK K
 refine pi_t 15 rfl (by kernel_rfl) (by kernel_rfl) (fun _ _ _ _ h=>h) (fun K hK=>?_)
 go_big_quiet_op
 refine hK _ ?_
 clear hK K
 refine pi_t 16 rfl (by kernel_rfl) (by kernel_rfl) (fun _ _ _ _ h=>h) (fun K hK=>?_)
 go_big_quiet_op
 refine hK _ ?_
 clear hK K
 refine pi_t 17 rfl (by kernel_rfl) (by kernel_rfl) (fun _ _ _ _ h=>h) (fun K hK=>?_)
 go_big_quiet_op
 refine hK _ ?_
 clear hK K
 refine pi_t 18 rfl (by kernel_rfl) (by kernel_rfl) (fun _ _ _ _ h=>h) (fun K hK=>?_)
 go_big_quiet_op
 refine hK _ ?_
 clear hK K
 refine pi_t 19 rfl (by kernel_rfl) (by kernel_rfl) (fun _ _ _ _ h=>h) (fun K hK=>?_)
 go_big_quiet_op
 refine hK _ ?_
 clear hK K
 refine pi_end (by kernel_rfl) ?_
 have hB4:Below N w v4:=Below.trans (HH.out.below_ext (HX1.out.trans' HY.out)) ((HH.out.ag.ext (HX1.out.trans' HY.out)).below hM)
 have hp4:=htw'.lt
 have HRO:=Lib.hid (htw'.row ho3)
 have HF1:=Lib.hid (And.intro hA' (And.intro hst' (And.intro hnp' (And.intro htw' (And.intro htb' hB4)))))
 obtain ⟨d0,d1,d2,d3,d4,d5⟩:=htw'.c0
 have ob:v4.heap[w.heap.size]?=some (.cells #[.int .i64 3,.int .i64 ho,.int .i64 oo,.int .u64 key,.int .i64 d] 102 (0,0)):=(hM3.block _ ol nS1).trans HOB.out
 have o0:=(cell_of ob 0).trans rfl
 have ol4:=lt_of ob
 have HOB4:=Lib.hid ob
 have hv4s:w.heap.size+1≤v4.heap.size:=by omega
 clear hM hA' hst' hnp' htw' htb' hB4 hfr hC0 c0 c1 c2 c3 c4 c5 o1 o2 o3 o4 hM3 ob
 go_wp2_with (first | (refine wpList_load_mid (ty:=33) rfl _ rfl p (6+o * 64) rfl (rowV (f o)) _ HRO.out Tryz.underlying33 rfl (by kernel_rfl) ?_) | (refine wpList_store_rowTo (ty:=33) rfl _ _ rfl rfl v4.heap.size (rowV (f o)).toArray rfl rfl 33 _ (heap_at v4 _ rfl) (by kernel_rfl) (by kernel_rfl) (by kernel_rfl) ?_))
 have hx0:Ext v4 ((v4.alloc (.cells #[.int .i64 0,.int .i64 0,.int .i64 0,.int .i64 0,.int .i64 0,.int .i64 0,.int .i64 0,.int .i64 0,.int .i64 0,.int .i64 0,.int .i64 0,.int .i64 0,.int .i64 0,.int .i64 0,.int .i64 0,.int .i64 0,.int .i64 0,.int .i64 0,.int .i64 0,.int .i64 0,.int .i64 0,.int .i64 0,.int .i64 0,.int .i64 0,.int .i64 0,.int .i64 0,.int .i64 0,.int .i64 0,.int .i64 0,.int .i64 0,.int .i64 0,.int .i64 0,.int .i64 0,.int .i64 0,.int .i64 0,.int .i64 0,.int .i64 0,.int .i64 0,.int .i64 0,.int .i64 0,.int .i64 0,.int .i64 0,.int .i64 0,.int .i64 0,.int .i64 0,.int .i64 0,.int .i64 0,.int .i64 0,.int .i64 0,.int .i64 0,.int .i64 0,.int .i64 0,.int .i64 0,.int .i64 0,.int .i64 0,.int .i64 0,.int .i64 0,.int .i64 0,.int .i64 0,.int .i64 0,.int .i64 0,.int .i64 0,.int .i64 0,.int .i64 0] 33)).setRow v4.heap.size (rowV (f o)).toArray):=below_setRow (Ext.alloc' v4 _) (Nat.le_refl _) _
 have hr0:((v4.alloc (.cells #[.int .i64 0,.int .i64 0,.int .i64 0,.int .i64 0,.int .i64 0,.int .i64 0,.int .i64 0,.int .i64 0,.int .i64 0,.int .i64 0,.int .i64 0,.int .i64 0,.int .i64 0,.int .i64 0,.int .i64 0,.int .i64 0,.int .i64 0,.int .i64 0,.int .i64 0,.int .i64 0,.int .i64 0,.int .i64 0,.int .i64 0,.int .i64 0,.int .i64 0,.int .i64 0,.int .i64 0,.int .i64 0,.int .i64 0,.int .i64 0,.int .i64 0,.int .i64 0,.int .i64 0,.int .i64 0,.int .i64 0,.int .i64 0,.int .i64 0,.int .i64 0,.int .i64 0,.int .i64 0,.int .i64 0,.int .i64 0,.int .i64 0,.int .i64 0,.int .i64 0,.int .i64 0,.int .i64 0,.int .i64 0,.int .i64 0,.int .i64 0,.int .i64 0,.int .i64 0,.int .i64 0,.int .i64 0,.int .i64 0,.int .i64 0,.int .i64 0,.int .i64 0,.int .i64 0,.int .i64 0,.int .i64 0,.int .i64 0,.int .i64 0,.int .i64 0] 33)).setRow v4.heap.size (rowV (f o)).toArray).heap[v4.heap.size]?=some (.cells (rowV (f o)).toArray 33 (0,0)):=setRow_heap _ _ _ _ _ _ (heap_at v4 (.cells #[.int .i64 0,.int .i64 0,.int .i64 0,.int .i64 0,.int .i64 0,.int .i64 0,.int .i64 0,.int .i64 0,.int .i64 0,.int .i64 0,.int .i64 0,.int .i64 0,.int .i64 0,.int .i64 0,.int .i64 0,.int .i64 0,.int .i64 0,.int .i64 0,.int .i64 0,.int .i64 0,.int .i64 0,.int .i64 0,.int .i64 0,.int .i64 0,.int .i64 0,.int .i64 0,.int .i64 0,.int .i64 0,.int .i64 0,.int .i64 0,.int .i64 0,.int .i64 0,.int .i64 0,.int .i64 0,.int .i64 0,.int .i64 0,.int .i64 0,.int .i64 0,.int .i64 0,.int .i64 0,.int .i64 0,.int .i64 0,.int .i64 0,.int .i64 0,.int .i64 0,.int .i64 0,.int .i64 0,.int .i64 0,.int .i64 0,.int .i64 0,.int .i64 0,.int .i64 0,.int .i64 0,.int .i64 0,.int .i64 0,.int .i64 0,.int .i64 0,.int .i64 0,.int .i64 0,.int .i64 0,.int .i64 0,.int .i64 0,.int .i64 0,.int .i64 0] 33) rfl)
 generalize (v4.alloc (.cells #[.int .i64 0,.int .i64 0,.int .i64 0,.int .i64 0,.int .i64 0,.int .i64 0,.int .i64 0,.int .i64 0,.int .i64 0,.int .i64 0,.int .i64 0,.int .i64 0,.int .i64 0,.int .i64 0,.int .i64 0,.int .i64 0,.int .i64 0,.int .i64 0,.int .i64 0,.int .i64 0,.int .i64 0,.int .i64 0,.int .i64 0,.int .i64 0,.int .i64 0,.int .i64 0,.int .i64 0,.int .i64 0,.int .i64 0,.int .i64 0,.int .i64 0,.int .i64 0,.int .i64 0,.int .i64 0,.int .i64 0,.int .i64 0,.int .i64 0,.int .i64 0,.int .i64 0,.int .i64 0,.int .i64 0,.int .i64 0,.int .i64 0,.int .i64 0,.int .i64 0,.int .i64 0,.int .i64 0,.int .i64 0,.int .i64 0,.int .i64 0,.int .i64 0,.int .i64 0,.int .i64 0,.int .i64 0,.int .i64 0,.int .i64 0,.int .i64 0,.int .i64 0,.int .i64 0,.int .i64 0,.int .i64 0,.int .i64 0,.int .i64 0,.int .i64 0] 33)).setRow v4.heap.size (rowV (f o)).toArray=W0 at *
 have HX0:=Lib.hid hx0
 have HR0:=Lib.hid hr0
 have HBD:=Lib.hid (fun (j:Nat) (hj:j < 64)=>And.intro (HH.out.hd.f_bd hh3 hj) (HH.out.hd.f_bd ho3 hj))
 have hopb:=hx0.keep HOB4.out
 have HOPB:=Lib.hid hopb
 have hW0s:=hx0.size
 have hr0l:=lt_of hr0
 clear hx0 hr0 o0 d0 d1 d2 d3 d4 d5 hopb
 go_loopw [11] (fun u11 wr=>∃ i:Nat,i≤64∧u11=.int .i64 (i:Nat)∧TWAt wr p a C (mixFn (fun x y=>x+y) f h o i)∧AgAt wr N a m l' 3∧Tabs wr∧wr.heap[v4.heap.size]?=some (.cells (rowV (f o)).toArray 33 (0,0))∧wr.heap[w.heap.size]?=some (.cells #[.int .i64 3,.int .i64 ho,.int .i64 oo,.int .u64 key,.int .i64 d] 102 (0,0))∧Below N v4 wr) (fun u11 _=>64 - (intOf u11).toNat)
 case atStart =>
  refine ⟨0,by omega,rfl, ?_,HF1.out.1.ext HX0.out,HF1.out.2.2.2.2.1.ext HX0.out,HR0.out,HOPB.out,Below.mono HX0.out (by have:=HH.out.lp; omega)⟩
  rw [mixFn_zero]
  exact HF1.out.2.2.2.1.keep (HX0.out.block _ hp4)
 case round =>
  obtain ⟨i,hi,rfl,htw,hag,htb,hrow,hopb,hBw⟩:=hrel
  have o0:=(cell_of hopb 0).trans rfl
  have ol:=lt_of hopb
  have HTW:=Lib.hid htw
  have HAG:=Lib.hid hag
  have HTB:=Lib.hid htb
  have HROW:=Lib.hid hrow
  have HOPW:=Lib.hid hopb
  have HBW:=Lib.hid hBw
  have hpr:=htw.lt
  by_cases hlt:i < 64
  · have e1:=htw.cell hh3 hlt
    rw [mixFn_here] at e1
    have e2:=(cell_of hrow i).trans (show (rowV (f o)).toArray[i]?=some (.int .i64 (f o i)) from by rw [List.getElem?_toArray]; exact rowV_get hlt)
    have rl:=lt_of hrow
    have fz:=htw.frz (6+h * 64+i)
    have hbd:=HBD.out i hlt
    obtain ⟨y,hyy⟩:∃ y,f h i=y:=⟨_,rfl⟩
    obtain ⟨x,hxx⟩:∃ x,f o i=x:=⟨_,rfl⟩
    rw [hyy] at e1 hbd
    rw [hxx] at e2 hbd
    have hwr:wrap64 (y+x)=y+x:=by unfold wrap64; omega
    have hv5:-1125899906842624≤y+x∧y+x≤1125899906842624:=by omega
    have hput:=PlAt.put htw hag HF1.out.2.2.1 htb HH.out.lo HH.out.lp hh3 hlt hv5
    rw [← hyy,← hxx,mixFn_step (fun x y=>x+y) f h o i,hyy,hxx] at hput
    have HPUT:=Lib.hid hput
    clear hyy hxx htw hag htb hrow hopb hBw hput
    go_wp2_with fail
    have hC0:=af_drew wr
    refine pi_start (fun w'=>∃ x:After wr,w'=x.w) [19] (by kernel_rfl) ?_
    refine pi_t 0 rfl (by kernel_rfl) (by kernel_rfl) (fun _ _ _ _ h=>h) (fun K hK=>?_)
    go_big_quiet_op
    refine hK _ ?_
    clear hK K
    refine pi_t 1 rfl (by kernel_rfl) (by kernel_rfl) (fun _ _ _ _ h=>h) (fun K hK=>?_)
    go_big_quiet_op
    refine hK _ ?_
    clear hK K
    refine pi_t 2 rfl (by kernel_rfl) (by kernel_rfl) (fun _ _ _ _ h=>h) (fun K hK=>?_)
    go_big_quiet_op
    refine hK _ ?_
    clear hK K
    refine pi_t 3 rfl (by kernel_rfl) (by kernel_rfl) (fun _ _ _ _ h=>h) (fun K hK=>?_)
    go_big_quiet_op
    refine hK _ ?_
    clear hK K
    refine pi_t 4 rfl (by kernel_rfl) (by kernel_rfl) (fun _ _ _ _ h=>h) (fun K hK=>?_)
    go_big_quiet_op
    refine hK _ ?_
    clear hK K
    refine pi_t 5 rfl (by kernel_rfl) (by kernel_rfl) (fun _ _ _ _ h=>h) (fun K hK=>?_)
    go_big_quiet_op
    refine hK _ ?_
    clear hK K
    refine pi_t 6 rfl (by kernel_rfl) (by kernel_rfl) (fun _ _ _ _ h=>h) (fun K hK=>?_)
    go_big_quiet_op
    refine hK _ ?_
    clear hK K
    refine pi_t 7 rfl (by kernel_rfl) (by kernel_rfl) (fun _ _ _ _ h=>h) (fun K hK=>?_)
    go_big_quiet_op
    refine hK _ ?_
    clear hK K
    refine pi_t 8 rfl (by kernel_rfl) (by kernel_rfl) (fun _ _ _ _ h=>h) (fun K hK=>?_)
    go_big_quiet_op
    refine hK _ ?_
    clear hK K
    refine pi_t 9 rfl (by kernel_rfl) (by kernel_rfl) (fun _ _ _ _ h=>h) (fun K hK=>?_)
    go_big_quiet_op
    refine hK _ ?_
    clear hK K
    refine pi_t 11 rfl (by kernel_rfl) (by kernel_rfl) (fun _ _ _ _ h=>h) (fun K hK=>?_)
    go_big_quiet_op
    refine hK _ ?_
    clear hK K
    refine pi_t 12 rfl (by kernel_rfl) (by kernel_rfl) (fun _ _ _ _ h=>h) (fun K hK=>?_)
    go_big_quiet_op
    refine hK _ ?_
    clear hK K
    refine pi_t 15 rfl (by kernel_rfl) (by kernel_rfl) (fun _ _ _ _ h=>h) (fun K hK=>?_)
    go_big_quiet_op
    refine hK _ ?_
    clear hK K
    refine pi_t 16 rfl (by kernel_rfl) (by kernel_rfl) (fun _ _ _ _ h=>h) (fun K hK=>?_)
    go_big_quiet_op
    refine hK _ ?_
    clear hK K
    refine pi_t 17 rfl (by kernel_rfl) (by kernel_rfl) (fun _ _ _ _ h=>h) (fun K hK=>?_)
    go_big_quiet_op
    refine hK _ ?_
    clear hK K
    refine pi_c 10 (by assumption) rfl (by kernel_rfl) (by kernel_rfl) (fun _ _ _ _ h=>h) (fun K hK=>?_)
    go_big_quiet_op
    refine hK _ ?_
    clear hK K
    refine pi_c 13 (by assumption) rfl (by kernel_rfl) (by kernel_rfl) (fun _ _ _ _ h=>h) (fun K hK=>?_)
    go_big_quiet_op
    refine hK _ ?_
    clear hK K
    refine pi_t 14 rfl (by kernel_rfl) (by kernel_rfl) (fun _ _ _ _ h=>h) (fun K hK=>?_)
    go_big_quiet_op
    refine hK _ ?_
    clear hK K
    refine pi_t 18 rfl (by kernel_rfl) (by kernel_rfl) (fun _ _ _ _ h=>h) (fun K hK=>?_)
    go_big_quiet_op
    refine hK _ ?_
    clear hK K
    refine pi_l 19 rfl (by kernel_rfl) (fun K hK=>?_)
    go_wp2
    refine hK _ _ (by simp) ?_
    clear hK K
    refine pi_end (by kernel_rfl) ?_
    obtain ⟨q1,q2,q3,q4⟩:=HPUT.out
    have n1:v4.heap.size ≠ p:=by omega
    have n2:w.heap.size ≠ p:=by omega
    have r1:=(setCell_other (w:=wr) (6+h * 64+i) (.int .i64 (y+x)) n1).trans HROW.out
    have r2:=(setCell_other (w:=wr) (6+h * 64+i) (.int .i64 (y+x)) n2).trans HOPW.out
    obtain ⟨W5,hW5⟩:∃ W5,wr.setCell ⟨p,6+h * 64+i,none⟩ (.int .i64 (y+x))=W5:=⟨_,rfl⟩
    rw [hW5] at q1 q2 q3 q4 r1 r2
    have HF:Hid (TWAt W5.drew p a C (mixFn (fun x y=>x+y) f h o (i+1))∧AgAt W5.drew N a m l' 3∧Tabs W5.drew∧W5.drew.heap[v4.heap.size]?=some (.cells (rowV (f o)).toArray 33 (0,0))∧W5.drew.heap[w.heap.size]?=some (.cells #[.int .i64 3,.int .i64 ho,.int .i64 oo,.int .u64 key,.int .i64 d] 102 (0,0))∧Below N v4 W5.drew):=Lib.hid ⟨q1.keep rfl,q2.ext (Ext.refl _).drewR,q3.ext (Ext.refl _).drewR,r1,r2,Below.drew (Below.trans HBW.out q4)⟩
    clear q1 q2 q3 q4 r1 r2 e1 e2 fz hC0
    go_wp2
    go_roundw
    case rel=>exact ⟨i+1,by omega,by go_num,HF.out.1,HF.out.2.1,HF.out.2.2.1,HF.out.2.2.2.1,HF.out.2.2.2.2.1,HF.out.2.2.2.2.2⟩
    case measure=>simp [intOf]; omega
  · obtain rfl:i=64:=by omega
    have HF:Hid (PlAt wr N p a m l' C (T+T) (setG g h fun n=>plusL (g h n) (g o n)) (plusFn f h o)∧Below N w wr):=Lib.hid ⟨⟨htw.congr (mixFn_plus f h o),hag,HF1.out.2.1,HF1.out.2.2.1,HH.out.ok,HH.out.hb,HADD.out.1,htb,HH.out.lo,HH.out.lp⟩,Below.trans HF1.out.2.2.2.2.2 hBw⟩
    clear htw hag htb hrow hopb hBw
    go_wp2
    go_ret
    exact ⟨rfl,_,_,_,HF.out.1,HF.out.2⟩
end Go.Proofs.YtmalncfcgcebhaaGreatDoor
namespace Go.Proofs.YtmalncfcgcebhaaGreatDoor
set_option linter.unusedVariables false
open Go.Proofs Go.RowKit
set_option maxRecDepth 20000 in
set_option maxHeartbeats 8000000 in
theorem TDoesSub_c {w:World} {N p a m:Nat} {l:List (Nat × Th)} {C:Cfg} {T:Int} {g:Nat → Nat → List Int} {f:Nat → Nat → Int} (H:PlAt w N p a m l C T g f) (hm:C.mode ≠ 2) (hT1:1048576≤T) (hT2:T≤35184372088832) (ho oo key d:Int) (h1:I64 ho) (h2:I64 oo) (h3:U64 key) (h4:I64 d) :
 Calls Tryz.prog 48 #[.pointer (some ⟨p,0,none⟩),.agg #[.int .i64 4,.int .i64 ho,.int .i64 oo,.int .u64 key,.int .i64 d]] w (DoesPost w N p a m C T):=by
 have HH:=Lib.hid H
 have hmb:(C.mode == 2)=false:=by simpa using hm
 have hpl:=H.tw.lt
 obtain ⟨c0,c1,c2,c3,c4,c5⟩:=H.tw.c0
 obtain ⟨h,hh,hh3⟩:=hand3 ho
 obtain ⟨o,ho',ho3⟩:=hand3 oo
 have HH1:=fun W=>Lib.hid (THandle_c ho h1 W)
 have HO1:=fun W=>Lib.hid (THandle_c oo h2 W)
 rw [← hh] at HH1
 rw [← ho'] at HO1
 have hadd:=H.hd.minus H.ok hm hh3 ho3 (by omega)
 have HADD:=Lib.hid hadd
 have HL:=fun W (hx:Ext w W)=>Lib.hid ((H.ext hx).line (top_sub hh3 ho3 hadd.2))
 have HT1:=fun W=>Lib.hid (TText_c ((h+1:Nat):Int) (hI hh3) W)
 have HT2:=fun W=>Lib.hid (TText_c ((o+1:Nat):Int) (hI ho3) W)
 have z1:=tb_size (hI hh3)
 have z2:=tb_size (hI ho3)
 have hcat:=cat_two vSub ((h+1:Nat):Int) ((o+1:Nat):Int)
 obtain ⟨t1,e1⟩:∃ t,(⟨(Lib.itoa ((h+1:Nat):Int)).toArray⟩:ByteArray)=t:=⟨_,rfl⟩
 obtain ⟨t2,e2⟩:∃ t,(⟨(Lib.itoa ((o+1:Nat):Int)).toArray⟩:ByteArray)=t:=⟨_,rfl⟩
 obtain ⟨sb,e4⟩:∃ t,lineB vSub [((h+1:Nat):Int),((o+1:Nat):Int)]=t:=⟨_,rfl⟩
 have hv:(⟨(vSub ++ [32]).toArray⟩:ByteArray)=⟨#[115,117,98,116,114,97,99,116,32]⟩:=rfl
 rw [e1,e2,e4,hv] at hcat
 rw [e1] at z1
 rw [e2] at z2
 unfold strV at HT1 HT2 HL
 rw [e1] at HT1
 rw [e2] at HT2
 rw [e4,done_ba] at HL
 have HHC:=Lib.hid (show (h:Int)+1=((h+1:Nat):Int) by omega)
 have HOC:=Lib.hid (show (o:Int)+1=((o+1:Nat):Int) by omega)
 clear hh ho' e1 e2 e4 hv hadd H
 obtain ⟨W1,hW1⟩:∃ W1,w.alloc (.cells #[.int .i64 4,.int .i64 ho,.int .i64 oo,.int .u64 key,.int .i64 d] 102)=W1:=⟨_,rfl⟩
 have hb1:=heap_at w (.cells #[.int .i64 4,.int .i64 ho,.int .i64 oo,.int .u64 key,.int .i64 d] 102) rfl
 have hx1:=Ext.alloc' w (.cells #[.int .i64 4,.int .i64 ho,.int .i64 oo,.int .u64 key,.int .i64 d] 102)
 rw [hW1] at hb1 hx1
 have o0:=(cell_of hb1 0).trans rfl
 have o1:=(cell_of hb1 1).trans rfl
 have o2:=(cell_of hb1 2).trans rfl
 have o3:=(cell_of hb1 3).trans rfl
 have o4:=(cell_of hb1 4).trans rfl
 have ol:=lt_of hb1
 have c0:=(hx1.cell hpl).trans c0
 have c1:=(hx1.cell hpl).trans c1
 have c2:=(hx1.cell hpl).trans c2
 have c3:=(hx1.cell hpl).trans c3
 have c4:=(hx1.cell hpl).trans c4
 have c5:=(hx1.cell hpl).trans c5
 have hpl1:=Nat.lt_of_lt_of_le hpl hx1.size
 have HX1:=Lib.hid hx1
 have hNs:∀ k,AgF a m l k → k < w.heap.size:=fun k hk=>HH.out.ag.flt hk
 obtain ⟨S,hS⟩:∃ S,AgF a m l=S:=⟨_,rfl⟩
 have nS1:¬ S w.heap.size:=by
  rw [← hS]
  intro h
  have:=hNs _ h
  omega
 have nS2:¬ S p:=by rw [← hS]; exact HH.out.np
 have HSS:=Lib.hid hS
 have HOB:=Lib.hid hb1
 clear hS hNs hb1 hx1
 go_enter Tryz.func48,Tryz.ntmps48
 go_wp2_with fail
 clear hW1
 refine Calls.mono (HH1 _).out ?_
 rintro e v1 ⟨rfl,rfl⟩
 go_wp2_with fail
 refine Calls.mono (HO1 _).out ?_
 rintro e v3 ⟨rfl,rfl⟩
 go_wp2_with fail
 have hC0:=afs_drew S v3
 refine pi_start (fun w'=>∃ x:AftS S v3,w'=x.w) [] (by kernel_rfl) ?_
 refine pi_t 0 rfl (by kernel_rfl) (by kernel_rfl) (fun _ _ _ _ h=>h) (fun K hK=>?_)
 go_big_quiet_op
 refine hK _ ?_
 clear hK K
 refine pi_t 1 rfl (by kernel_rfl) (by kernel_rfl) (fun _ _ _ _ h=>h) (fun K hK=>?_)
 go_big_quiet_op
 refine hK _ ?_
 clear hK K
 refine pi_t 2 rfl (by kernel_rfl) (by kernel_rfl) (fun _ _ _ _ h=>h) (fun K hK=>?_)
 go_big_quiet_op
 refine hK _ ?_
 clear hK K
 refine pi_t 4 rfl (by kernel_rfl) (by kernel_rfl) (fun _ _ _ _ h=>h) (fun K hK=>?_)
 go_big_quiet_op
 refine hK _ ?_
 clear hK K
 refine pi_t 5 rfl (by kernel_rfl) (by kernel_rfl) (fun _ _ _ _ h=>h) (fun K hK=>?_)
 go_big_quiet_op
 refine hK _ ?_
 clear hK K
 refine pi_t 6 rfl (by kernel_rfl) (by kernel_rfl) (fun _ _ _ _ h=>h) (fun K hK=>?_)
 go_big_quiet_op
 refine hK _ ?_
 clear hK K
 refine pi_t 10 rfl (by kernel_rfl) (by kernel_rfl) (fun _ _ _ _ h=>h) (fun K hK=>?_)
 go_big_quiet_op
 refine hK _ ?_
 clear hK K
 refine pi_t 11 rfl (by kernel_rfl) (by kernel_rfl) (fun _ _ _ _ h=>h) (fun K hK=>?_)
 go_big_quiet_op
 refine hK _ ?_
 clear hK K
 refine pi_c 3 (by assumption) rfl (by kernel_rfl) (by kernel_rfl) (fun _ _ _ _ h=>h) (fun K hK=>?_)
 go_big_quiet_op
 refine hK _ ?_
 clear hK K
 refine pi_l 7 rfl (by kernel_rfl) (fun K hK=>?_)
 go_wp2_with (go_at_call 16; rw [HHC.out]; refine (HT1 _).out.mono ?_; rintro e y1 ⟨rfl,hy1⟩)
 refine hK _ _ (fun _ h=>afs_step h hy1) ?_
 clear hK K
 refine pi_t 8 rfl (by kernel_rfl) (by kernel_rfl) (fun _ _ _ _ h=>h) (fun K hK=>?_)
 go_big_quiet_op
 refine hK _ ?_
 clear hK K
 refine pi_t 9 rfl (by kernel_rfl) (by kernel_rfl) (fun _ _ _ _ h=>h) (fun K hK=>?_)
 go_big_quiet_op
 refine hK _ ?_
 clear hK K
 refine pi_l 12 rfl (by kernel_rfl) (fun K hK=>?_)
 go_wp2_with (go_at_call 16; rw [HOC.out]; refine (HT2 _).out.mono ?_; rintro e y2 ⟨rfl,hy2⟩)
 refine hK _ _ (fun _ h=>afs_step h hy2) ?_
 clear hK K
 have hy:Ext v3 y2:=(((Ext.refl v3).drewR.trans' hy1).trans' hy2)
 have HY:=Lib.hid hy
 clear hy1 hy2 hy
 refine pi_t 13 rfl (by kernel_rfl) (by kernel_rfl) (fun _ _ _ _ h=>h) (fun K hK=>?_)
 go_big_quiet_op
 refine hK _ ?_
 clear hK K
 refine pi_l 14 rfl (by kernel_rfl) (fun K hK=>?_)
 go_wp2_with (go_at_call 15; refine (HL y2 (HX1.out.trans' HY.out)).out.mono ?_; rintro e v4 ⟨rfl,l',hA',hst',hnp',htw',htb',hM,hfr⟩)
 have hM3:Mod S v3 v4:=by rw [← HSS.out]; exact (HY.out.mod _).trans hM
 refine hK _ _ (fun _ _=>⟨⟨_,hM3⟩,rfl⟩) ?_
 clear hK K
 refine pi_t 15 rfl (by kernel_rfl) (by kernel_rfl) (fun _ _ _ _ h=>h) (fun K hK=>?_)
 go_big_quiet_op
 refine hK _ ?_
 clear hK K
 refine pi_t 16 rfl (by kernel_rfl) (by kernel_rfl) (fun _ _ _ _ h=>h) (fun K hK=>?_)
 go_big_quiet_op
 refine hK _ ?_
 clear hK K
 refine pi_t 17 rfl (by kernel_rfl) (by kernel_rfl) (fun _ _ _ _ h=>h) (fun K hK=>?_)
 go_big_quiet_op
 refine hK _ ?_
 clear hK K
 refine pi_t 18 rfl (by kernel_rfl) (by kernel_rfl) (fun _ _ _ _ h=>h) (fun K hK=>?_)
 go_big_quiet_op
 refine hK _ ?_
 clear hK K
 refine pi_t 19 rfl (by kernel_rfl) (by kernel_rfl) (fun _ _ _ _ h=>h) (fun K hK=>?_)
 go_big_quiet_op
 refine hK _ ?_
 clear hK K
 refine pi_end (by kernel_rfl) ?_
 have hB4:Below N w v4:=Below.trans (HH.out.below_ext (HX1.out.trans' HY.out)) ((HH.out.ag.ext (HX1.out.trans' HY.out)).below hM)
 have hp4:=htw'.lt
 have HRO:=Lib.hid (htw'.row ho3)
 have HF1:=Lib.hid (And.intro hA' (And.intro hst' (And.intro hnp' (And.intro htw' (And.intro htb' hB4)))))
 obtain ⟨d0,d1,d2,d3,d4,d5⟩:=htw'.c0
 have ob:v4.heap[w.heap.size]?=some (.cells #[.int .i64 4,.int .i64 ho,.int .i64 oo,.int .u64 key,.int .i64 d] 102 (0,0)):=(hM3.block _ ol nS1).trans HOB.out
 have o0:=(cell_of ob 0).trans rfl
 have ol4:=lt_of ob
 have HOB4:=Lib.hid ob
 have hv4s:w.heap.size+1≤v4.heap.size:=by omega
 clear hM hA' hst' hnp' htw' htb' hB4 hfr hC0 c0 c1 c2 c3 c4 c5 o1 o2 o3 o4 hM3 ob
 go_wp2_with (first | (refine wpList_load_mid (ty:=33) rfl _ rfl p (6+o * 64) rfl (rowV (f o)) _ HRO.out Tryz.underlying33 rfl (by kernel_rfl) ?_) | (refine wpList_store_rowTo (ty:=33) rfl _ _ rfl rfl v4.heap.size (rowV (f o)).toArray rfl rfl 33 _ (heap_at v4 _ rfl) (by kernel_rfl) (by kernel_rfl) (by kernel_rfl) ?_))
 have hx0:Ext v4 ((v4.alloc (.cells #[.int .i64 0,.int .i64 0,.int .i64 0,.int .i64 0,.int .i64 0,.int .i64 0,.int .i64 0,.int .i64 0,.int .i64 0,.int .i64 0,.int .i64 0,.int .i64 0,.int .i64 0,.int .i64 0,.int .i64 0,.int .i64 0,.int .i64 0,.int .i64 0,.int .i64 0,.int .i64 0,.int .i64 0,.int .i64 0,.int .i64 0,.int .i64 0,.int .i64 0,.int .i64 0,.int .i64 0,.int .i64 0,.int .i64 0,.int .i64 0,.int .i64 0,.int .i64 0,.int .i64 0,.int .i64 0,.int .i64 0,.int .i64 0,.int .i64 0,.int .i64 0,.int .i64 0,.int .i64 0,.int .i64 0,.int .i64 0,.int .i64 0,.int .i64 0,.int .i64 0,.int .i64 0,.int .i64 0,.int .i64 0,.int .i64 0,.int .i64 0,.int .i64 0,.int .i64 0,.int .i64 0,.int .i64 0,.int .i64 0,.int .i64 0,.int .i64 0,.int .i64 0,.int .i64 0,.int .i64 0,.int .i64 0,.int .i64 0,.int .i64 0,.int .i64 0] 33)).setRow v4.heap.size (rowV (f o)).toArray):=below_setRow (Ext.alloc' v4 _) (Nat.le_refl _) _
 have hr0:((v4.alloc (.cells #[.int .i64 0,.int .i64 0,.int .i64 0,.int .i64 0,.int .i64 0,.int .i64 0,.int .i64 0,.int .i64 0,.int .i64 0,.int .i64 0,.int .i64 0,.int .i64 0,.int .i64 0,.int .i64 0,.int .i64 0,.int .i64 0,.int .i64 0,.int .i64 0,.int .i64 0,.int .i64 0,.int .i64 0,.int .i64 0,.int .i64 0,.int .i64 0,.int .i64 0,.int .i64 0,.int .i64 0,.int .i64 0,.int .i64 0,.int .i64 0,.int .i64 0,.int .i64 0,.int .i64 0,.int .i64 0,.int .i64 0,.int .i64 0,.int .i64 0,.int .i64 0,.int .i64 0,.int .i64 0,.int .i64 0,.int .i64 0,.int .i64 0,.int .i64 0,.int .i64 0,.int .i64 0,.int .i64 0,.int .i64 0,.int .i64 0,.int .i64 0,.int .i64 0,.int .i64 0,.int .i64 0,.int .i64 0,.int .i64 0,.int .i64 0,.int .i64 0,.int .i64 0,.int .i64 0,.int .i64 0,.int .i64 0,.int .i64 0,.int .i64 0,.int .i64 0] 33)).setRow v4.heap.size (rowV (f o)).toArray).heap[v4.heap.size]?=some (.cells (rowV (f o)).toArray 33 (0,0)):=setRow_heap _ _ _ _ _ _ (heap_at v4 (.cells #[.int .i64 0,.int .i64 0,.int .i64 0,.int .i64 0,.int .i64 0,.int .i64 0,.int .i64 0,.int .i64 0,.int .i64 0,.int .i64 0,.int .i64 0,.int .i64 0,.int .i64 0,.int .i64 0,.int .i64 0,.int .i64 0,.int .i64 0,.int .i64 0,.int .i64 0,.int .i64 0,.int .i64 0,.int .i64 0,.int .i64 0,.int .i64 0,.int .i64 0,.int .i64 0,.int .i64 0,.int .i64 0,.int .i64 0,.int .i64 0,.int .i64 0,.int .i64 0,.int .i64 0,.int .i64 0,.int .i64 0,.int .i64 0,.int .i64 0,.int .i64 0,.int .i64 0,.int .i64 0,.int .i64 0,.int .i64 0,.int .i64 0,.int .i64 0,.int .i64 0,.int .i64 0,.int .i64 0,.int .i64 0,.int .i64 0,.int .i64 0,.int .i64 0,.int .i64 0,.int .i64 0,.int .i64 0,.int .i64 0,.int .i64 0,.int .i64 0,.int .i64 0,.int .i64 0,.int .i64 0,.int .i64 0,.int .i64 0,.int .i64 0,.int .i64 0] 33) rfl)
 generalize (v4.alloc (.cells #[.int .i64 0,.int .i64 0,.int .i64 0,.int .i64 0,.int .i64 0,.int .i64 0,.int .i64 0,.int .i64 0,.int .i64 0,.int .i64 0,.int .i64 0,.int .i64 0,.int .i64 0,.int .i64 0,.int .i64 0,.int .i64 0,.int .i64 0,.int .i64 0,.int .i64 0,.int .i64 0,.int .i64 0,.int .i64 0,.int .i64 0,.int .i64 0,.int .i64 0,.int .i64 0,.int .i64 0,.int .i64 0,.int .i64 0,.int .i64 0,.int .i64 0,.int .i64 0,.int .i64 0,.int .i64 0,.int .i64 0,.int .i64 0,.int .i64 0,.int .i64 0,.int .i64 0,.int .i64 0,.int .i64 0,.int .i64 0,.int .i64 0,.int .i64 0,.int .i64 0,.int .i64 0,.int .i64 0,.int .i64 0,.int .i64 0,.int .i64 0,.int .i64 0,.int .i64 0,.int .i64 0,.int .i64 0,.int .i64 0,.int .i64 0,.int .i64 0,.int .i64 0,.int .i64 0,.int .i64 0,.int .i64 0,.int .i64 0,.int .i64 0,.int .i64 0] 33)).setRow v4.heap.size (rowV (f o)).toArray=W0 at *
 have HX0:=Lib.hid hx0
 have HR0:=Lib.hid hr0
 have HBD:=Lib.hid (fun (j:Nat) (hj:j < 64)=>And.intro (HH.out.hd.f_bd hh3 hj) (HH.out.hd.f_bd ho3 hj))
 have hopb:=hx0.keep HOB4.out
 have HOPB:=Lib.hid hopb
 have hW0s:=hx0.size
 have hr0l:=lt_of hr0
 clear hx0 hr0 o0 d0 d1 d2 d3 d4 d5 hopb
 go_loopw [11] (fun u11 wr=>∃ i:Nat,i≤64∧u11=.int .i64 (i:Nat)∧TWAt wr p a C (mixFn (fun x y=>x - y) f h o i)∧AgAt wr N a m l' 3∧Tabs wr∧wr.heap[v4.heap.size]?=some (.cells (rowV (f o)).toArray 33 (0,0))∧wr.heap[w.heap.size]?=some (.cells #[.int .i64 4,.int .i64 ho,.int .i64 oo,.int .u64 key,.int .i64 d] 102 (0,0))∧Below N v4 wr) (fun u11 _=>64 - (intOf u11).toNat)
 case atStart =>
  refine ⟨0,by omega,rfl, ?_,HF1.out.1.ext HX0.out,HF1.out.2.2.2.2.1.ext HX0.out,HR0.out,HOPB.out,Below.mono HX0.out (by have:=HH.out.lp; omega)⟩
  rw [mixFn_zero]
  exact HF1.out.2.2.2.1.keep (HX0.out.block _ hp4)
 case round =>
  obtain ⟨i,hi,rfl,htw,hag,htb,hrow,hopb,hBw⟩:=hrel
  have o0:=(cell_of hopb 0).trans rfl
  have ol:=lt_of hopb
  have HTW:=Lib.hid htw
  have HAG:=Lib.hid hag
  have HTB:=Lib.hid htb
  have HROW:=Lib.hid hrow
  have HOPW:=Lib.hid hopb
  have HBW:=Lib.hid hBw
  have hpr:=htw.lt
  by_cases hlt:i < 64
  · have e1:=htw.cell hh3 hlt
    rw [mixFn_here] at e1
    have e2:=(cell_of hrow i).trans (show (rowV (f o)).toArray[i]?=some (.int .i64 (f o i)) from by rw [List.getElem?_toArray]; exact rowV_get hlt)
    have rl:=lt_of hrow
    have fz:=htw.frz (6+h * 64+i)
    have hbd:=HBD.out i hlt
    obtain ⟨y,hyy⟩:∃ y,f h i=y:=⟨_,rfl⟩
    obtain ⟨x,hxx⟩:∃ x,f o i=x:=⟨_,rfl⟩
    rw [hyy] at e1 hbd
    rw [hxx] at e2 hbd
    have hwr:wrap64 (y - x)=y - x:=by unfold wrap64; omega
    have hv5:-1125899906842624≤y - x∧y - x≤1125899906842624:=by omega
    have hput:=PlAt.put htw hag HF1.out.2.2.1 htb HH.out.lo HH.out.lp hh3 hlt hv5
    rw [← hyy,← hxx,mixFn_step (fun x y=>x - y) f h o i,hyy,hxx] at hput
    have HPUT:=Lib.hid hput
    clear hyy hxx htw hag htb hrow hopb hBw hput
    go_wp2_with fail
    have hC0:=af_drew wr
    refine pi_start (fun w'=>∃ x:After wr,w'=x.w) [19] (by kernel_rfl) ?_
    refine pi_t 0 rfl (by kernel_rfl) (by kernel_rfl) (fun _ _ _ _ h=>h) (fun K hK=>?_)
    go_big_quiet_op
    refine hK _ ?_
    clear hK K
    refine pi_t 1 rfl (by kernel_rfl) (by kernel_rfl) (fun _ _ _ _ h=>h) (fun K hK=>?_)
    go_big_quiet_op
    refine hK _ ?_
    clear hK K
    refine pi_t 2 rfl (by kernel_rfl) (by kernel_rfl) (fun _ _ _ _ h=>h) (fun K hK=>?_)
    go_big_quiet_op
    refine hK _ ?_
    clear hK K
    refine pi_t 3 rfl (by kernel_rfl) (by kernel_rfl) (fun _ _ _ _ h=>h) (fun K hK=>?_)
    go_big_quiet_op
    refine hK _ ?_
    clear hK K
    refine pi_t 4 rfl (by kernel_rfl) (by kernel_rfl) (fun _ _ _ _ h=>h) (fun K hK=>?_)
    go_big_quiet_op
    refine hK _ ?_
    clear hK K
    refine pi_t 5 rfl (by kernel_rfl) (by kernel_rfl) (fun _ _ _ _ h=>h) (fun K hK=>?_)
    go_big_quiet_op
    refine hK _ ?_
    clear hK K
    refine pi_t 6 rfl (by kernel_rfl) (by kernel_rfl) (fun _ _ _ _ h=>h) (fun K hK=>?_)
    go_big_quiet_op
    refine hK _ ?_
    clear hK K
    refine pi_t 7 rfl (by kernel_rfl) (by kernel_rfl) (fun _ _ _ _ h=>h) (fun K hK=>?_)
    go_big_quiet_op
    refine hK _ ?_
    clear hK K
    refine pi_t 8 rfl (by kernel_rfl) (by kernel_rfl) (fun _ _ _ _ h=>h) (fun K hK=>?_)
    go_big_quiet_op
    refine hK _ ?_
    clear hK K
    refine pi_t 9 rfl (by kernel_rfl) (by kernel_rfl) (fun _ _ _ _ h=>h) (fun K hK=>?_)
    go_big_quiet_op
    refine hK _ ?_
    clear hK K
    refine pi_t 11 rfl (by kernel_rfl) (by kernel_rfl) (fun _ _ _ _ h=>h) (fun K hK=>?_)
    go_big_quiet_op
    refine hK _ ?_
    clear hK K
    refine pi_t 12 rfl (by kernel_rfl) (by kernel_rfl) (fun _ _ _ _ h=>h) (fun K hK=>?_)
    go_big_quiet_op
    refine hK _ ?_
    clear hK K
    refine pi_t 15 rfl (by kernel_rfl) (by kernel_rfl) (fun _ _ _ _ h=>h) (fun K hK=>?_)
    go_big_quiet_op
    refine hK _ ?_
    clear hK K
    refine pi_t 16 rfl (by kernel_rfl) (by kernel_rfl) (fun _ _ _ _ h=>h) (fun K hK=>?_)
    go_big_quiet_op
    refine hK _ ?_
    clear hK K
    refine pi_t 17 rfl (by kernel_rfl) (by kernel_rfl) (fun _ _ _ _ h=>h) (fun K hK=>?_)
    go_big_quiet_op
    refine hK _ ?_
    clear hK K
    refine pi_c 10 (by assumption) rfl (by kernel_rfl) (by kernel_rfl) (fun _ _ _ _ h=>h) (fun K hK=>?_)
    go_big_quiet_op
    refine hK _ ?_
    clear hK K
    refine pi_c 13 (by assumption) rfl (by kernel_rfl) (by kernel_rfl) (fun _ _ _ _ h=>h) (fun K hK=>?_)
    go_big_quiet_op
    refine hK _ ?_
    clear hK K
    refine pi_t 14 rfl (by kernel_rfl) (by kernel_rfl) (fun _ _ _ _ h=>h) (fun K hK=>?_)
    go_big_quiet_op
    refine hK _ ?_
    clear hK K
    refine pi_t 18 rfl (by kernel_rfl) (by kernel_rfl) (fun _ _ _ _ h=>h) (fun K hK=>?_)
    go_big_quiet_op
    refine hK _ ?_
    clear hK K
    refine pi_l 19 rfl (by kernel_rfl) (fun K hK=>?_)
    go_wp2
    refine hK _ _ (by simp) ?_
    clear hK K
    refine pi_end (by kernel_rfl) ?_
    obtain ⟨q1,q2,q3,q4⟩:=HPUT.out
    have n1:v4.heap.size ≠ p:=by omega
    have n2:w.heap.size ≠ p:=by omega
    have r1:=(setCell_other (w:=wr) (6+h * 64+i) (.int .i64 (y - x)) n1).trans HROW.out
    have r2:=(setCell_other (w:=wr) (6+h * 64+i) (.int .i64 (y - x)) n2).trans HOPW.out
    obtain ⟨W5,hW5⟩:∃ W5,wr.setCell ⟨p,6+h * 64+i,none⟩ (.int .i64 (y - x))=W5:=⟨_,rfl⟩
    rw [hW5] at q1 q2 q3 q4 r1 r2
    have HF:Hid (TWAt W5.drew p a C (mixFn (fun x y=>x - y) f h o (i+1))∧AgAt W5.drew N a m l' 3∧Tabs W5.drew∧W5.drew.heap[v4.heap.size]?=some (.cells (rowV (f o)).toArray 33 (0,0))∧W5.drew.heap[w.heap.size]?=some (.cells #[.int .i64 4,.int .i64 ho,.int .i64 oo,.int .u64 key,.int .i64 d] 102 (0,0))∧Below N v4 W5.drew):=Lib.hid ⟨q1.keep rfl,q2.ext (Ext.refl _).drewR,q3.ext (Ext.refl _).drewR,r1,r2,Below.drew (Below.trans HBW.out q4)⟩
    clear q1 q2 q3 q4 r1 r2 e1 e2 fz hC0
    go_wp2
    go_roundw
    case rel=>exact ⟨i+1,by omega,by go_num,HF.out.1,HF.out.2.1,HF.out.2.2.1,HF.out.2.2.2.1,HF.out.2.2.2.2.1,HF.out.2.2.2.2.2⟩
    case measure=>simp [intOf]; omega
  · obtain rfl:i=64:=by omega
    have HF:Hid (PlAt wr N p a m l' C (T+T) (setG g h fun n=>minusL (g h n) (g o n)) (minusFn f h o)∧Below N w wr):=Lib.hid ⟨⟨htw.congr (mixFn_minus f h o),hag,HF1.out.2.1,HF1.out.2.2.1,HH.out.ok,HH.out.hb,HADD.out.1,htb,HH.out.lo,HH.out.lp⟩,Below.trans HF1.out.2.2.2.2.2 hBw⟩
    clear htw hag htb hrow hopb hBw
    go_wp2
    go_ret
    exact ⟨rfl,_,_,_,HF.out.1,HF.out.2⟩
end Go.Proofs.YtmalncfcgcebhaaGreatDoor
namespace Go.Proofs.YtmalncfcgcebhaaGreatDoor
set_option linter.unusedVariables false
open Go.Proofs Go.RowKit
theorem err3_ba:(⟨(errT 3).toArray⟩:ByteArray)=⟨#[101,114,114,111,114,32,51]⟩:=by kernel_rfl
set_option maxRecDepth 20000 in
set_option maxHeartbeats 8000000 in
theorem TDoesSubNo_c {w:World} {N p a m:Nat} {l:List (Nat × Th)} {C:Cfg} {T:Int} {g:Nat → Nat → List Int} {f:Nat → Nat → Int} (H:PlAt w N p a m l C T g f) (hm:C.mode=2) (hT1:1048576≤T) (hT2:T≤35184372088832) (ho oo key d:Int) (h1:I64 ho) (h2:I64 oo) (h3:U64 key) (h4:I64 d) :
 Calls Tryz.prog 48 #[.pointer (some ⟨p,0,none⟩),.agg #[.int .i64 4,.int .i64 ho,.int .i64 oo,.int .u64 key,.int .i64 d]] w (DoesPost w N p a m C T):=by
 have HH:=Lib.hid H
 have hmb:(C.mode == 2)=true:=by simpa using hm
 have hpl:=H.tw.lt
 obtain ⟨c0,c1,c2,c3,c4,c5⟩:=H.tw.c0
 obtain ⟨h,hh,hh3⟩:=hand3 ho
 obtain ⟨o,ho',ho3⟩:=hand3 oo
 have HH1:=fun W=>Lib.hid (THandle_c ho h1 W)
 have HO1:=fun W=>Lib.hid (THandle_c oo h2 W)
 rw [← hh] at HH1
 rw [← ho'] at HO1
 have HL:=fun W (hx:Ext w W)=>Lib.hid ((H.ext hx).line (top_subno hh3 ho3 (sub_mode hm)))
 have HT1:=fun W=>Lib.hid (TText_c ((h+1:Nat):Int) (hI hh3) W)
 have HT2:=fun W=>Lib.hid (TText_c ((o+1:Nat):Int) (hI ho3) W)
 have z1:=tb_size (hI hh3)
 have z2:=tb_size (hI ho3)
 have hcat:=cat_two vSub ((h+1:Nat):Int) ((o+1:Nat):Int)
 obtain ⟨t1,e1⟩:∃ t,(⟨(Lib.itoa ((h+1:Nat):Int)).toArray⟩:ByteArray)=t:=⟨_,rfl⟩
 obtain ⟨t2,e2⟩:∃ t,(⟨(Lib.itoa ((o+1:Nat):Int)).toArray⟩:ByteArray)=t:=⟨_,rfl⟩
 obtain ⟨sb,e4⟩:∃ t,lineB vSub [((h+1:Nat):Int),((o+1:Nat):Int)]=t:=⟨_,rfl⟩
 have hv:(⟨(vSub ++ [32]).toArray⟩:ByteArray)=⟨#[115,117,98,116,114,97,99,116,32]⟩:=rfl
 rw [e1,e2,e4,hv] at hcat
 rw [e1] at z1
 rw [e2] at z2
 unfold strV at HT1 HT2 HL
 rw [e1] at HT1
 rw [e2] at HT2
 rw [e4,err3_ba] at HL
 have HHC:=Lib.hid (show (h:Int)+1=((h+1:Nat):Int) by omega)
 have HOC:=Lib.hid (show (o:Int)+1=((o+1:Nat):Int) by omega)
 clear hh ho' e1 e2 e4 hv H
 obtain ⟨W1,hW1⟩:∃ W1,w.alloc (.cells #[.int .i64 4,.int .i64 ho,.int .i64 oo,.int .u64 key,.int .i64 d] 102)=W1:=⟨_,rfl⟩
 have hb1:=heap_at w (.cells #[.int .i64 4,.int .i64 ho,.int .i64 oo,.int .u64 key,.int .i64 d] 102) rfl
 have hx1:=Ext.alloc' w (.cells #[.int .i64 4,.int .i64 ho,.int .i64 oo,.int .u64 key,.int .i64 d] 102)
 rw [hW1] at hb1 hx1
 have o0:=(cell_of hb1 0).trans rfl
 have o1:=(cell_of hb1 1).trans rfl
 have o2:=(cell_of hb1 2).trans rfl
 have o3:=(cell_of hb1 3).trans rfl
 have o4:=(cell_of hb1 4).trans rfl
 have ol:=lt_of hb1
 have c0:=(hx1.cell hpl).trans c0
 have c1:=(hx1.cell hpl).trans c1
 have c2:=(hx1.cell hpl).trans c2
 have c3:=(hx1.cell hpl).trans c3
 have c4:=(hx1.cell hpl).trans c4
 have c5:=(hx1.cell hpl).trans c5
 have hpl1:=Nat.lt_of_lt_of_le hpl hx1.size
 have HX1:=Lib.hid hx1
 have hNs:∀ k,AgF a m l k → k < w.heap.size:=fun k hk=>HH.out.ag.flt hk
 obtain ⟨S,hS⟩:∃ S,AgF a m l=S:=⟨_,rfl⟩
 have nS1:¬ S w.heap.size:=by
  rw [← hS]
  intro h
  have:=hNs _ h
  omega
 have nS2:¬ S p:=by rw [← hS]; exact HH.out.np
 have HSS:=Lib.hid hS
 have HOB:=Lib.hid hb1
 clear hS hNs hb1 hx1
 go_enter Tryz.func48,Tryz.ntmps48
 go_wp2_with fail
 clear hW1
 refine Calls.mono (HH1 _).out ?_
 rintro e v1 ⟨rfl,rfl⟩
 go_wp2_with fail
 refine Calls.mono (HO1 _).out ?_
 rintro e v3 ⟨rfl,rfl⟩
 go_wp2_with fail
 have hC0:=afs_drew S v3
 refine pi_start (fun w'=>∃ x:AftS S v3,w'=x.w) [] (by kernel_rfl) ?_
 refine pi_t 0 rfl (by kernel_rfl) (by kernel_rfl) (fun _ _ _ _ h=>h) (fun K hK=>?_)
 go_big_quiet_op
 refine hK _ ?_
 clear hK K
 refine pi_t 1 rfl (by kernel_rfl) (by kernel_rfl) (fun _ _ _ _ h=>h) (fun K hK=>?_)
 go_big_quiet_op
 refine hK _ ?_
 clear hK K
 refine pi_t 2 rfl (by kernel_rfl) (by kernel_rfl) (fun _ _ _ _ h=>h) (fun K hK=>?_)
 go_big_quiet_op
 refine hK _ ?_
 clear hK K
 refine pi_t 4 rfl (by kernel_rfl) (by kernel_rfl) (fun _ _ _ _ h=>h) (fun K hK=>?_)
 go_big_quiet_op
 refine hK _ ?_
 clear hK K
 refine pi_t 5 rfl (by kernel_rfl) (by kernel_rfl) (fun _ _ _ _ h=>h) (fun K hK=>?_)
 go_big_quiet_op
 refine hK _ ?_
 clear hK K
 refine pi_t 6 rfl (by kernel_rfl) (by kernel_rfl) (fun _ _ _ _ h=>h) (fun K hK=>?_)
 go_big_quiet_op
 refine hK _ ?_
 clear hK K
 refine pi_t 10 rfl (by kernel_rfl) (by kernel_rfl) (fun _ _ _ _ h=>h) (fun K hK=>?_)
 go_big_quiet_op
 refine hK _ ?_
 clear hK K
 refine pi_t 11 rfl (by kernel_rfl) (by kernel_rfl) (fun _ _ _ _ h=>h) (fun K hK=>?_)
 go_big_quiet_op
 refine hK _ ?_
 clear hK K
 refine pi_c 3 (by assumption) rfl (by kernel_rfl) (by kernel_rfl) (fun _ _ _ _ h=>h) (fun K hK=>?_)
 go_big_quiet_op
 refine hK _ ?_
 clear hK K
 refine pi_l 7 rfl (by kernel_rfl) (fun K hK=>?_)
 go_wp2_with (go_at_call 16; rw [HHC.out]; refine (HT1 _).out.mono ?_; rintro e y1 ⟨rfl,hy1⟩)
 refine hK _ _ (fun _ h=>afs_step h hy1) ?_
 clear hK K
 refine pi_t 8 rfl (by kernel_rfl) (by kernel_rfl) (fun _ _ _ _ h=>h) (fun K hK=>?_)
 go_big_quiet_op
 refine hK _ ?_
 clear hK K
 refine pi_t 9 rfl (by kernel_rfl) (by kernel_rfl) (fun _ _ _ _ h=>h) (fun K hK=>?_)
 go_big_quiet_op
 refine hK _ ?_
 clear hK K
 refine pi_l 12 rfl (by kernel_rfl) (fun K hK=>?_)
 go_wp2_with (go_at_call 16; rw [HOC.out]; refine (HT2 _).out.mono ?_; rintro e y2 ⟨rfl,hy2⟩)
 refine hK _ _ (fun _ h=>afs_step h hy2) ?_
 clear hK K
 have hy:Ext v3 y2:=(((Ext.refl v3).drewR.trans' hy1).trans' hy2)
 have HY:=Lib.hid hy
 clear hy1 hy2 hy
 refine pi_t 13 rfl (by kernel_rfl) (by kernel_rfl) (fun _ _ _ _ h=>h) (fun K hK=>?_)
 go_big_quiet_op
 refine hK _ ?_
 clear hK K
 refine pi_l 14 rfl (by kernel_rfl) (fun K hK=>?_)
 go_wp2_with (go_at_call 15; refine (HL y2 (HX1.out.trans' HY.out)).out.mono ?_; rintro e v4 ⟨rfl,l',hA',hst',hnp',htw',htb',hM,hfr⟩)
 have hM3:Mod S v3 v4:=by rw [← HSS.out]; exact (HY.out.mod _).trans hM
 refine hK _ _ (fun _ _=>⟨⟨_,hM3⟩,rfl⟩) ?_
 clear hK K
 refine pi_t 15 rfl (by kernel_rfl) (by kernel_rfl) (fun _ _ _ _ h=>h) (fun K hK=>?_)
 go_big_quiet_op
 refine hK _ ?_
 clear hK K
 refine pi_t 16 rfl (by kernel_rfl) (by kernel_rfl) (fun _ _ _ _ h=>h) (fun K hK=>?_)
 go_big_quiet_op
 refine hK _ ?_
 clear hK K
 refine pi_t 17 rfl (by kernel_rfl) (by kernel_rfl) (fun _ _ _ _ h=>h) (fun K hK=>?_)
 go_big_quiet_op
 refine hK _ ?_
 clear hK K
 refine pi_t 18 rfl (by kernel_rfl) (by kernel_rfl) (fun _ _ _ _ h=>h) (fun K hK=>?_)
 go_big_quiet_op
 refine hK _ ?_
 clear hK K
 refine pi_t 19 rfl (by kernel_rfl) (by kernel_rfl) (fun _ _ _ _ h=>h) (fun K hK=>?_)
 go_big_quiet_op
 refine hK _ ?_
 clear hK K
 refine pi_end (by kernel_rfl) ?_
 have hB4:Below N w v4:=Below.trans (HH.out.below_ext (HX1.out.trans' HY.out)) ((HH.out.ag.ext (HX1.out.trans' HY.out)).below hM)
 have HF:Hid (PlAt v4 N p a m l' C (T+T) g f∧Below N w v4):=Lib.hid ⟨⟨htw',hA',hst',hnp',HH.out.ok,HH.out.hb,HH.out.hd.mono (by omega),htb',HH.out.lo,HH.out.lp⟩,hB4⟩
 obtain ⟨d0,d1,d2,d3,d4,d5⟩:=htw'.c0
 have hp4:=htw'.lt
 have ob:v4.heap[w.heap.size]?=some (.cells #[.int .i64 4,.int .i64 ho,.int .i64 oo,.int .u64 key,.int .i64 d] 102 (0,0)):=(hM3.block _ ol nS1).trans HOB.out
 have o0:=(cell_of ob 0).trans rfl
 have ol4:=lt_of ob
 clear hM hA' hst' hnp' htw' htb' hB4 hfr hC0 c0 c1 c2 c3 c4 c5 o1 o2 o3 o4 hM3 ob
 go_wp2
 go_ret
 exact ⟨rfl,_,_,_,HF.out.1,HF.out.2⟩
theorem TDoes_c {w:World} {N p a m:Nat} {l:List (Nat × Th)} {C:Cfg} {T:Int} {g:Nat → Nat → List Int} {f:Nat → Nat → Int} (H:PlAt w N p a m l C T g f) (hT1:1048576≤T) (hT2:T≤35184372088832) (kd ho oo key d:Int) (h0:I64 kd) (h1:I64 ho) (h2:I64 oo) (h3:U64 key) (h4:I64 d) :
 Calls Tryz.prog 48 #[.pointer (some ⟨p,0,none⟩),.agg #[.int .i64 kd,.int .i64 ho,.int .i64 oo,.int .u64 key,.int .i64 d]] w (DoesPost w N p a m C T):=by
 by_cases k3:kd=3
 · subst k3
   exact TDoesMerge_c H hT1 hT2 ho oo key d h1 h2 h3 h4
 · by_cases k4:kd=4
   · subst k4
     by_cases hm:C.mode=2
     · exact TDoesSubNo_c H hm hT1 hT2 ho oo key d h1 h2 h3 h4
     · exact TDoesSub_c H hm hT1 hT2 ho oo key d h1 h2 h3 h4
   · exact TDoesAdd_c H hT1 hT2 kd ho oo key d h1 h2 h3 h4 k3 k4
end Go.Proofs.YtmalncfcgcebhaaGreatDoor
namespace Go.Proofs.YtmalncfcgcebhaaGreatDoor
set_option linter.unusedVariables false
open Go.RowKit
abbrev Opn5:=Int × Int × Int × Int × Int
def Ops5At (w:World) (v:Value) (os:List Opn5):Prop :=
 ((∃ p,v=.slice p 0 0)∧os=[]) ∨ ∃ g off cap,v=.slice (some ⟨g,off,none⟩) os.length cap∧g < w.heap.size ∧
  ∀ k,k < os.length → w.cell? ⟨g,off+k * 5,none⟩=some (.int .i64 (os.getD k (0,0,0,0,0)).1)∧w.cell? ⟨g,off+k * 5+1,none⟩=some (.int .i64 (os.getD k (0,0,0,0,0)).2.1)∧w.cell? ⟨g,off+k * 5+2,none⟩=some (.int .i64 (os.getD k (0,0,0,0,0)).2.2.1)∧w.cell? ⟨g,off+k * 5+3,none⟩=some (.int .u64 (os.getD k (0,0,0,0,0)).2.2.2.1)∧w.cell? ⟨g,off+k * 5+4,none⟩=some (.int .i64 (os.getD k (0,0,0,0,0)).2.2.2.2)
def Ops5Ok (os:List Opn5):Prop:=∀ u ∈ os,I64 u.1∧I64 u.2.1∧I64 u.2.2.1∧U64 u.2.2.2.1∧I64 u.2.2.2.2
theorem Ops5At.ext {w w':World} {v:Value} {os:List Opn5} (h:Ops5At w v os) (he:Ext w w'):Ops5At w' v os:=by
 rcases h with h | ⟨g,off,cap,h1,h2,h3⟩
 · exact .inl h
 · exact .inr ⟨g,off,cap,h1,Nat.lt_of_lt_of_le h2 he.size,fun k hk=>⟨((bcell he).1 _ _ h2).trans (h3 k hk).1,((bcell he).1 _ _ h2).trans (h3 k hk).2.1,((bcell he).1 _ _ h2).trans (h3 k hk).2.2.1,((bcell he).1 _ _ h2).trans (h3 k hk).2.2.2.1,((bcell he).1 _ _ h2).trans (h3 k hk).2.2.2.2⟩⟩
theorem Ops5At.sl {w:World} {v:Value} {os:List Opn5} (h:Ops5At w v os):∃ p c,v=.slice p os.length c:=by
 rcases h with ⟨⟨p,rfl⟩,rfl⟩ | ⟨g,off,cap,rfl,_⟩
 · exact ⟨p,0,rfl⟩
 · exact ⟨_,cap,rfl⟩
theorem Ops5At.one {w:World} {p:Option Addr} {n c:Nat} {os:List Opn5} (h:Ops5At w (.slice p n c) os) {k:Nat} (hk:k < os.length) :
 ∃ g off,p=some ⟨g,off,none⟩∧g < w.heap.size∧w.cell? ⟨g,off+k * 5,none⟩=some (.int .i64 os[k].1)∧w.cell? ⟨g,off+k * 5+1,none⟩=some (.int .i64 os[k].2.1)∧w.cell? ⟨g,off+k * 5+2,none⟩=some (.int .i64 os[k].2.2.1)∧w.cell? ⟨g,off+k * 5+3,none⟩=some (.int .u64 os[k].2.2.2.1)∧w.cell? ⟨g,off+k * 5+4,none⟩=some (.int .i64 os[k].2.2.2.2):=by
 rcases h with ⟨_,rfl⟩ | ⟨g,off,cap,h1,h2,h3⟩
 · exact absurd hk (Nat.not_lt_zero _)
 · have e:=Value.slice.inj h1
   have hg:os.getD k (0,0,0,0,0)=os[k]:=by simp [hk]
   have:=h3 k hk
   rw [hg] at this
   exact ⟨g,off,e.1,h2,this⟩
end Go.Proofs.YtmalncfcgcebhaaGreatDoor
