/- Part. No condition. -/
import Derived.Test.YtmalncfcgcebhaaGreatDoorDTopHeavy8
import Derived.Test.YtmalncfcgcebhaaGreatDoorDTopHeavy10
import Derived.Test.YtmalncfcgcebhaaGreatDoorDTopHeavy4
namespace Go.Proofs.YtmalncfcgcebhaaGreatDoor
set_option linter.unusedVariables false
open Go.Proofs Go.RowKit
def keyF (k e:Int):Option Rep × Int:=if e=0 then (some (.key k),0) else (none,e)
def listF (D:List Fd) (e:Int):Option Rep × Int:=if e=0 then (some (.list D),0) else (none,e)
theorem uw (x:Int):U64 (uu x):=uu_u x
set_option maxRecDepth 20000 in
set_option maxHeartbeats 8000000 in
theorem AQuery_point {w:World} {N p m:Nat} {l:List (Nat × Th)} {last:Nat} (h:AgAt w N p m l last) (k:Int) (hk:I64 k) (g:Nat) (a b:Int) (ha:I64 a) (hb:I64 b) (hgl:g < w.heap.size) (hg1:w.cell? ⟨g,1,none⟩=some (.int .i64 a)) (hg2:w.cell? ⟨g,2,none⟩=some (.int .i64 b)) {z:Nat × Th} (hf:fnd l k=some z) :
 Calls Tryz.prog 86 #[.pointer (some ⟨p,0,none⟩),.agg #[.string ⟨#[112,111,105,110,116]⟩,.int .i64 k,.slice (some ⟨g,1,none⟩) 2 2]] w (DoPost w N p m l last (numF (pointR z.2.C z.2.B z.2.ls a (uu b)).1 (pointR z.2.C z.2.B z.2.ls a (uu b)).2,stOf l last)):=by
 have hs1:(Value.slice (some ⟨g,1,none⟩) 2 2).oneCell'=true:=rfl
 obtain ⟨x,y,hv⟩:=z.2.v_two
 have HS:=fun w' (hw:Ext w w')=>Lib.hid (AStack_c z.2 w' ((h.th z (fnd_mem hf).1).ext hw))
 have hpl:=h.ltp
 have hx1:Ext w (w.alloc (.cells #[.string ⟨#[112,111,105,110,116]⟩,.int .i64 k,.slice (some ⟨g,1,none⟩) 2 2] 179)):=Ext.alloc' _ _
 have hlk:=h.look_a hx1 hk hf
 rw [hv] at hlk
 have HL:=Lib.hid h
 have hhp:=hx1.keep h.hp
 have hb:=heap_at w (.cells #[.string ⟨#[112,111,105,110,116]⟩,.int .i64 k,.slice (some ⟨g,1,none⟩) 2 2] 179) rfl
 clear h
 go_enter Tryz.func86,Tryz.ntmps86
 go_wp2_with fail
 obtain ⟨W1,hW1⟩:∃ W1,w.alloc (.cells #[.string ⟨#[112,111,105,110,116]⟩,.int .i64 k,.slice (some ⟨g,1,none⟩) 2 2] 179)=W1:=⟨_,rfl⟩
 rw [hW1] at hx1 hlk hhp hb ⊢
 clear hW1
 have p0:=(cell_of hhp 0).trans rfl
 have p1:=(cell_of hhp 1).trans rfl
 have pl1:=lt_of hhp
 have b0:=(cell_of hb 0).trans rfl
 have b1:=(cell_of hb 1).trans rfl
 have b2:=(cell_of hb 2).trans rfl
 have bl:=lt_of hb
 have HX1:=Lib.hid hx1
 have HB:=Lib.hid hb
 have HP:=Lib.hid hhp
 clear hx1 hhp hb
 have hC0:=af_drew W1
 refine pi_start (fun w'=>∃ x:After W1,w'=x.w) [] (by kernel_rfl) ?_
 refine pi_t 0 rfl (by kernel_rfl) (by kernel_rfl) (fun _ _ _ _ h=>h) (fun K hK=>?_)
 go_big_quiet_op
 refine hK _ ?_
 clear hK K
 refine pi_t 1 rfl (by kernel_rfl) (by kernel_rfl) (fun _ _ _ _ h=>h) (fun K hK=>?_)
 go_big_quiet_op
 refine hK _ ?_
 clear hK K
 refine pi_t 2 rfl (by kernel_rfl) (by kernel_rfl) (fun _ _ _ _ h=>h) (fun K hK=>?_)
 go_big_quiet_op
 refine hK _ ?_
 clear hK K
 refine pi_t 4 rfl (by kernel_rfl) (by kernel_rfl) (fun _ _ _ _ h=>h) (fun K hK=>?_)
 go_big_quiet_op
 refine hK _ ?_
 clear hK K
 refine pi_c 3 (by assumption) rfl (by kernel_rfl) (by kernel_rfl) (fun _ _ _ _ h=>h) (fun K hK=>?_)
 go_big_quiet_op
 refine hK _ ?_
 clear hK K
 refine pi_c 5 (by assumption) rfl (by kernel_rfl) (by kernel_rfl) (fun _ _ _ _ h=>h) (fun K hK=>?_)
 go_big_quiet_op
 refine hK _ ?_
 clear hK K
 refine pi_c 6 (by assumption) rfl (by kernel_rfl) (by kernel_rfl) (fun _ _ _ _ h=>h) (fun K hK=>?_)
 go_big_quiet_op
 refine hK _ ?_
 clear hK K
 refine pi_t 7 rfl (by kernel_rfl) (by kernel_rfl) (fun _ _ _ _ h=>h) (fun K hK=>?_)
 go_big_quiet_op
 refine hK _ ?_
 clear hK K
 refine pi_t 8 rfl (by kernel_rfl) (by kernel_rfl) (fun _ _ _ _ h=>h) (fun K hK=>?_)
 go_big_quiet_op
 refine hK _ ?_
 clear hK K
 refine pi_t 9 rfl (by kernel_rfl) (by kernel_rfl) (fun _ _ _ _ h=>h) (fun K hK=>?_)
 go_big_quiet_op
 refine hK _ ?_
 clear hK K
 refine pi_l 10 rfl (by kernel_rfl) (fun K hK=>?_)
 go_wp2
 refine hK _ _ (fun _ h=>af_step h (Ext.alloc' _ _)) ?_
 clear hK K
 refine pi_l 11 rfl (by kernel_rfl) (fun K hK=>?_)
 go_wp2
 refine hK _ _ (fun _ _=>⟨⟨_,(Ext.alloc' W1 _).drewR⟩,rfl⟩) ?_
 clear hK K
 refine pi_t 12 rfl (by kernel_rfl) (by kernel_rfl) (fun _ _ _ _ h=>h) (fun K hK=>?_)
 go_big_quiet_op
 refine hK _ ?_
 clear hK K
 refine pi_end (by kernel_rfl) ?_
 have hx2:Ext W1 (W1.alloc (.cells #[.pointer x,.pointer y] 152)).drew:=(Ext.alloc' W1 _).drewR
 have hb2:(W1.alloc (.cells #[.pointer x,.pointer y] 152)).drew.heap[W1.heap.size]?=some (.cells #[.pointer x,.pointer y] 152 (0,0)):=heap_at W1 _ rfl
 obtain ⟨W2,hW2⟩:∃ W2,(W1.alloc (.cells #[.pointer x,.pointer y] 152)).drew=W2:=⟨_,rfl⟩
 rw [hW2] at hx2 hb2 ⊢
 clear hW2 hC0 hlk
 have HX2:=Lib.hid (HX1.out.trans' hx2)
 have t0:=(cell_of hb2 0).trans rfl
 have t1:=(cell_of hb2 1).trans rfl
 have tl:=lt_of hb2
 have hb':=hx2.keep HB.out
 have hp':=hx2.keep HP.out
 clear b0 b1 b2 bl p0 p1 pl1
 have b0:=(cell_of hb' 0).trans rfl
 have b1:=(cell_of hb' 1).trans rfl
 have b2:=(cell_of hb' 2).trans rfl
 have bl:=lt_of hb'
 have p0:=(cell_of hp' 0).trans rfl
 have p1:=(cell_of hp' 1).trans rfl
 have pl1:=lt_of hp'
 clear hb' hp' hb2 hx2
 rw [hv] at HS
 go_wp2_with fail
 refine Calls.mono (HS _ HX2.out).out ?_
 rintro e w3 ⟨s3,g3,L3,rfl,hK3,hx3⟩
 have hx23:=HX2.out.trans' hx3
 have HX3:=Lib.hid hx23
 have HK3:=Lib.hid hK3
 have c0:=(hx3.cell (p:=⟨w.heap.size,0,none⟩) bl).trans b0
 have c2:=(hx3.cell (p:=⟨w.heap.size,2,none⟩) bl).trans b2
 have bl3:=Nat.lt_of_lt_of_le bl hx3.size
 have q1:=(hx23.cell hgl).trans hg1
 have q2:=(HX3.out.cell hgl).trans hg2
 have ql:=Nat.lt_of_lt_of_le hgl hx23.size
 clear b0 b1 b2 bl p0 p1 pl1 t0 t1 tl hx3 hK3 hx23
 have e1:=u64_wrap a
 have e2:=u64_wrap b
 go_wp2_with fail
 have hC0:=af_drew w3
 refine pi_start (fun w'=>∃ x:After w3,w'=x.w) [] (by kernel_rfl) ?_
 refine pi_t 0 rfl (by kernel_rfl) (by kernel_rfl) (fun _ _ _ _ h=>h) (fun K hK=>?_)
 go_big_quiet_op
 refine hK _ ?_
 clear hK K
 refine pi_t 1 rfl (by kernel_rfl) (by kernel_rfl) (fun _ _ _ _ h=>h) (fun K hK=>?_)
 go_big_quiet_op
 refine hK _ ?_
 clear hK K
 refine pi_t 5 rfl (by kernel_rfl) (by kernel_rfl) (fun _ _ _ _ h=>h) (fun K hK=>?_)
 go_big_quiet_op
 refine hK _ ?_
 clear hK K
 refine pi_c 2 (by assumption) rfl (by kernel_rfl) (by kernel_rfl) (fun _ _ _ _ h=>h) (fun K hK=>?_)
 go_big_quiet_op
 refine hK _ ?_
 clear hK K
 refine pi_t 3 rfl (by kernel_rfl) (by kernel_rfl) (fun _ _ _ _ h=>h) (fun K hK=>?_)
 go_big_quiet_op
 refine hK _ ?_
 clear hK K
 refine pi_c 4 (by assumption) rfl (by kernel_rfl) (by kernel_rfl) (fun _ _ _ _ h=>h) (fun K hK=>?_)
 go_big_quiet_op
 refine hK _ ?_
 clear hK K
 refine pi_c 6 (by assumption) rfl (by kernel_rfl) (by kernel_rfl) (fun _ _ _ _ h=>h) (fun K hK=>?_)
 go_big_quiet_op
 refine hK _ ?_
 clear hK K
 refine pi_t 7 rfl (by kernel_rfl) (by kernel_rfl) (fun _ _ _ _ h=>h) (fun K hK=>?_)
 go_big_quiet_op
 refine hK _ ?_
 clear hK K
 refine pi_c 8 (by assumption) rfl (by kernel_rfl) (by kernel_rfl) (fun _ _ _ _ h=>h) (fun K hK=>?_)
 go_big_quiet_op
 refine hK _ ?_
 clear hK K
 refine pi_t 9 rfl (by kernel_rfl) (by kernel_rfl) (fun _ _ _ _ h=>h) (fun K hK=>?_)
 go_big_quiet_op
 refine hK _ ?_
 clear hK K
 refine pi_t 10 rfl (by kernel_rfl) (by kernel_rfl) (fun _ _ _ _ h=>h) (fun K hK=>?_)
 go_big_quiet_op
 refine hK _ ?_
 clear hK K
 refine pi_l 11 rfl (by kernel_rfl) (fun K hK=>?_)
 go_wp2_with fail
 refine (KPointR_c _ _ _ _ _ _ _ (KAt.ext HK3.out (Below.drew (Ext.refl _))) a (uu b) (uw b)).mono ?_
 rintro e w4 ⟨rfl,hx4⟩
 go_wp2
 refine hK _ _ (fun _ h=>af_step h hx4) ?_
 clear hK K
 generalize hR:pointR z.2.C z.2.B z.2.ls a (uu b)=R at *
 obtain ⟨rn,re⟩:=R
 have HX4:=Lib.hid (HX3.out.trans' (Ext.trans' (Below.drew (Ext.refl _)) hx4))
 have HX35:=Ext.trans' (Below.drew (Ext.refl w3)) hx4
 have HR:=Lib.hid hR
 clear hR hx4
 refine pi_t 12 rfl (by kernel_rfl) (by kernel_rfl) (fun _ _ _ _ h=>h) (fun K hK=>?_)
 go_big_quiet_op
 refine hK _ ?_
 clear hK K
 refine pi_t 13 rfl (by kernel_rfl) (by kernel_rfl) (fun _ _ _ _ h=>h) (fun K hK=>?_)
 go_big_quiet_op
 refine hK _ ?_
 clear hK K
 refine pi_l 14 rfl (by kernel_rfl) (fun K hK=>?_)
 go_wp2_with fail
 refine (ANum_c rn re _).mono ?_
 rintro e w5 ⟨v,rfl,hnv,hx5⟩
 go_wp2
 have HX5:=Lib.hid (HX4.out.trans' hx5)
 have HNV:=Lib.hid hnv
 refine hK _ _ (fun _ _=>⟨⟨_,HX35.trans' hx5⟩,rfl⟩) ?_
 clear hK K
 refine pi_t 15 rfl (by kernel_rfl) (by kernel_rfl) (fun _ _ _ _ h=>h) (fun K hK=>?_)
 go_big_quiet_op
 refine hK _ ?_
 clear hK K
 refine pi_t 16 rfl (by kernel_rfl) (by kernel_rfl) (fun _ _ _ _ h=>h) (fun K hK=>?_)
 go_big_quiet_op
 refine hK _ ?_
 clear hK K
 refine pi_t 17 rfl (by kernel_rfl) (by kernel_rfl) (fun _ _ _ _ h=>h) (fun K hK=>?_)
 go_big_quiet_op
 refine hK _ ?_
 clear hK K
 refine pi_t 18 rfl (by kernel_rfl) (by kernel_rfl) (fun _ _ _ _ h=>h) (fun K hK=>?_)
 go_big_quiet_op
 refine hK _ ?_
 clear hK K
 refine pi_end (by kernel_rfl) ?_
 go_wp2
 go_ret2
 exact DoPost.same HL.out HX5.out (HNV.out _ _)
set_option maxRecDepth 20000 in
set_option maxHeartbeats 8000000 in
theorem AQuery_range {w:World} {N p m:Nat} {l:List (Nat × Th)} {last:Nat} (h:AgAt w N p m l last) (k:Int) (hk:I64 k) (g:Nat) (a b:Int) (ha:I64 a) (hb:I64 b) (hgl:g < w.heap.size) (hg1:w.cell? ⟨g,1,none⟩=some (.int .i64 a)) (hg2:w.cell? ⟨g,2,none⟩=some (.int .i64 b)) {z:Nat × Th} (hf:fnd l k=some z) :
 Calls Tryz.prog 86 #[.pointer (some ⟨p,0,none⟩),.agg #[.string ⟨#[114,97,110,103,101]⟩,.int .i64 k,.slice (some ⟨g,1,none⟩) 2 2]] w (DoPost w N p m l last (numF (rangeR (ptU z.2.C z.2.ls) z.2.B (uu a) (uu b)).1 (rangeR (ptU z.2.C z.2.ls) z.2.B (uu a) (uu b)).2,stOf l last)):=by
 have hs1:(Value.slice (some ⟨g,1,none⟩) 2 2).oneCell'=true:=rfl
 obtain ⟨x,y,hv⟩:=z.2.v_two
 have HS:=fun w' (hw:Ext w w')=>Lib.hid (AStack_c z.2 w' ((h.th z (fnd_mem hf).1).ext hw))
 have hpl:=h.ltp
 have hx1:Ext w (w.alloc (.cells #[.string ⟨#[114,97,110,103,101]⟩,.int .i64 k,.slice (some ⟨g,1,none⟩) 2 2] 179)):=Ext.alloc' _ _
 have hlk:=h.look_a hx1 hk hf
 rw [hv] at hlk
 have HL:=Lib.hid h
 have hhp:=hx1.keep h.hp
 have hb:=heap_at w (.cells #[.string ⟨#[114,97,110,103,101]⟩,.int .i64 k,.slice (some ⟨g,1,none⟩) 2 2] 179) rfl
 clear h
 go_enter Tryz.func86,Tryz.ntmps86
 go_wp2_with fail
 obtain ⟨W1,hW1⟩:∃ W1,w.alloc (.cells #[.string ⟨#[114,97,110,103,101]⟩,.int .i64 k,.slice (some ⟨g,1,none⟩) 2 2] 179)=W1:=⟨_,rfl⟩
 rw [hW1] at hx1 hlk hhp hb ⊢
 clear hW1
 have p0:=(cell_of hhp 0).trans rfl
 have p1:=(cell_of hhp 1).trans rfl
 have pl1:=lt_of hhp
 have b0:=(cell_of hb 0).trans rfl
 have b1:=(cell_of hb 1).trans rfl
 have b2:=(cell_of hb 2).trans rfl
 have bl:=lt_of hb
 have HX1:=Lib.hid hx1
 have HB:=Lib.hid hb
 have HP:=Lib.hid hhp
 clear hx1 hhp hb
 have hC0:=af_drew W1
 refine pi_start (fun w'=>∃ x:After W1,w'=x.w) [] (by kernel_rfl) ?_
 refine pi_t 0 rfl (by kernel_rfl) (by kernel_rfl) (fun _ _ _ _ h=>h) (fun K hK=>?_)
 go_big_quiet_op
 refine hK _ ?_
 clear hK K
 refine pi_t 1 rfl (by kernel_rfl) (by kernel_rfl) (fun _ _ _ _ h=>h) (fun K hK=>?_)
 go_big_quiet_op
 refine hK _ ?_
 clear hK K
 refine pi_t 2 rfl (by kernel_rfl) (by kernel_rfl) (fun _ _ _ _ h=>h) (fun K hK=>?_)
 go_big_quiet_op
 refine hK _ ?_
 clear hK K
 refine pi_t 4 rfl (by kernel_rfl) (by kernel_rfl) (fun _ _ _ _ h=>h) (fun K hK=>?_)
 go_big_quiet_op
 refine hK _ ?_
 clear hK K
 refine pi_c 3 (by assumption) rfl (by kernel_rfl) (by kernel_rfl) (fun _ _ _ _ h=>h) (fun K hK=>?_)
 go_big_quiet_op
 refine hK _ ?_
 clear hK K
 refine pi_c 5 (by assumption) rfl (by kernel_rfl) (by kernel_rfl) (fun _ _ _ _ h=>h) (fun K hK=>?_)
 go_big_quiet_op
 refine hK _ ?_
 clear hK K
 refine pi_c 6 (by assumption) rfl (by kernel_rfl) (by kernel_rfl) (fun _ _ _ _ h=>h) (fun K hK=>?_)
 go_big_quiet_op
 refine hK _ ?_
 clear hK K
 refine pi_t 7 rfl (by kernel_rfl) (by kernel_rfl) (fun _ _ _ _ h=>h) (fun K hK=>?_)
 go_big_quiet_op
 refine hK _ ?_
 clear hK K
 refine pi_t 8 rfl (by kernel_rfl) (by kernel_rfl) (fun _ _ _ _ h=>h) (fun K hK=>?_)
 go_big_quiet_op
 refine hK _ ?_
 clear hK K
 refine pi_t 9 rfl (by kernel_rfl) (by kernel_rfl) (fun _ _ _ _ h=>h) (fun K hK=>?_)
 go_big_quiet_op
 refine hK _ ?_
 clear hK K
 refine pi_l 10 rfl (by kernel_rfl) (fun K hK=>?_)
 go_wp2
 refine hK _ _ (fun _ h=>af_step h (Ext.alloc' _ _)) ?_
 clear hK K
 refine pi_l 11 rfl (by kernel_rfl) (fun K hK=>?_)
 go_wp2
 refine hK _ _ (fun _ _=>⟨⟨_,(Ext.alloc' W1 _).drewR⟩,rfl⟩) ?_
 clear hK K
 refine pi_t 12 rfl (by kernel_rfl) (by kernel_rfl) (fun _ _ _ _ h=>h) (fun K hK=>?_)
 go_big_quiet_op
 refine hK _ ?_
 clear hK K
 refine pi_end (by kernel_rfl) ?_
 have hx2:Ext W1 (W1.alloc (.cells #[.pointer x,.pointer y] 152)).drew:=(Ext.alloc' W1 _).drewR
 have hb2:(W1.alloc (.cells #[.pointer x,.pointer y] 152)).drew.heap[W1.heap.size]?=some (.cells #[.pointer x,.pointer y] 152 (0,0)):=heap_at W1 _ rfl
 obtain ⟨W2,hW2⟩:∃ W2,(W1.alloc (.cells #[.pointer x,.pointer y] 152)).drew=W2:=⟨_,rfl⟩
 rw [hW2] at hx2 hb2 ⊢
 clear hW2 hC0 hlk
 have HX2:=Lib.hid (HX1.out.trans' hx2)
 have t0:=(cell_of hb2 0).trans rfl
 have t1:=(cell_of hb2 1).trans rfl
 have tl:=lt_of hb2
 have hb':=hx2.keep HB.out
 have hp':=hx2.keep HP.out
 clear b0 b1 b2 bl p0 p1 pl1
 have b0:=(cell_of hb' 0).trans rfl
 have b1:=(cell_of hb' 1).trans rfl
 have b2:=(cell_of hb' 2).trans rfl
 have bl:=lt_of hb'
 have p0:=(cell_of hp' 0).trans rfl
 have p1:=(cell_of hp' 1).trans rfl
 have pl1:=lt_of hp'
 clear hb' hp' hb2 hx2
 rw [hv] at HS
 go_wp2_with fail
 refine Calls.mono (HS _ HX2.out).out ?_
 rintro e w3 ⟨s3,g3,L3,rfl,hK3,hx3⟩
 have hx23:=HX2.out.trans' hx3
 have HX3:=Lib.hid hx23
 have HK3:=Lib.hid hK3
 have c0:=(hx3.cell (p:=⟨w.heap.size,0,none⟩) bl).trans b0
 have c2:=(hx3.cell (p:=⟨w.heap.size,2,none⟩) bl).trans b2
 have bl3:=Nat.lt_of_lt_of_le bl hx3.size
 have q1:=(hx23.cell hgl).trans hg1
 have q2:=(HX3.out.cell hgl).trans hg2
 have ql:=Nat.lt_of_lt_of_le hgl hx23.size
 clear b0 b1 b2 bl p0 p1 pl1 t0 t1 tl hx3 hK3 hx23
 have e1:=u64_wrap a
 have e2:=u64_wrap b
 go_wp2_with fail
 have hC0:=af_drew w3
 refine pi_start (fun w'=>∃ x:After w3,w'=x.w) [] (by kernel_rfl) ?_
 refine pi_t 0 rfl (by kernel_rfl) (by kernel_rfl) (fun _ _ _ _ h=>h) (fun K hK=>?_)
 go_big_quiet_op
 refine hK _ ?_
 clear hK K
 refine pi_t 1 rfl (by kernel_rfl) (by kernel_rfl) (fun _ _ _ _ h=>h) (fun K hK=>?_)
 go_big_quiet_op
 refine hK _ ?_
 clear hK K
 refine pi_t 6 rfl (by kernel_rfl) (by kernel_rfl) (fun _ _ _ _ h=>h) (fun K hK=>?_)
 go_big_quiet_op
 refine hK _ ?_
 clear hK K
 refine pi_c 2 (by assumption) rfl (by kernel_rfl) (by kernel_rfl) (fun _ _ _ _ h=>h) (fun K hK=>?_)
 go_big_quiet_op
 refine hK _ ?_
 clear hK K
 refine pi_t 3 rfl (by kernel_rfl) (by kernel_rfl) (fun _ _ _ _ h=>h) (fun K hK=>?_)
 go_big_quiet_op
 refine hK _ ?_
 clear hK K
 refine pi_c 4 (by assumption) rfl (by kernel_rfl) (by kernel_rfl) (fun _ _ _ _ h=>h) (fun K hK=>?_)
 go_big_quiet_op
 refine hK _ ?_
 clear hK K
 refine pi_t 5 rfl (by kernel_rfl) (by kernel_rfl) (fun _ _ _ _ h=>h) (fun K hK=>?_)
 go_big_quiet_op
 refine hK _ ?_
 clear hK K
 refine pi_c 7 (by assumption) rfl (by kernel_rfl) (by kernel_rfl) (fun _ _ _ _ h=>h) (fun K hK=>?_)
 go_big_quiet_op
 refine hK _ ?_
 clear hK K
 refine pi_t 8 rfl (by kernel_rfl) (by kernel_rfl) (fun _ _ _ _ h=>h) (fun K hK=>?_)
 go_big_quiet_op
 refine hK _ ?_
 clear hK K
 refine pi_c 9 (by assumption) rfl (by kernel_rfl) (by kernel_rfl) (fun _ _ _ _ h=>h) (fun K hK=>?_)
 go_big_quiet_op
 refine hK _ ?_
 clear hK K
 refine pi_t 10 rfl (by kernel_rfl) (by kernel_rfl) (fun _ _ _ _ h=>h) (fun K hK=>?_)
 go_big_quiet_op
 refine hK _ ?_
 clear hK K
 refine pi_l 11 rfl (by kernel_rfl) (fun K hK=>?_)
 go_wp2_with fail
 refine (KRange_c _ _ _ _ _ _ _ (KAt.ext HK3.out (Below.drew (Ext.refl _))) (uu a) (uu b) (uw a) (uw b)).mono ?_
 rintro e w4 ⟨rfl,hx4⟩
 go_wp2
 refine hK _ _ (fun _ h=>af_step h hx4) ?_
 clear hK K
 generalize hR:rangeR (ptU z.2.C z.2.ls) z.2.B (uu a) (uu b)=R at *
 obtain ⟨rn,re⟩:=R
 have HX4:=Lib.hid (HX3.out.trans' (Ext.trans' (Below.drew (Ext.refl _)) hx4))
 have HX35:=Ext.trans' (Below.drew (Ext.refl w3)) hx4
 have HR:=Lib.hid hR
 clear hR hx4
 refine pi_t 12 rfl (by kernel_rfl) (by kernel_rfl) (fun _ _ _ _ h=>h) (fun K hK=>?_)
 go_big_quiet_op
 refine hK _ ?_
 clear hK K
 refine pi_t 13 rfl (by kernel_rfl) (by kernel_rfl) (fun _ _ _ _ h=>h) (fun K hK=>?_)
 go_big_quiet_op
 refine hK _ ?_
 clear hK K
 refine pi_l 14 rfl (by kernel_rfl) (fun K hK=>?_)
 go_wp2_with fail
 refine (ANum_c rn re _).mono ?_
 rintro e w5 ⟨v,rfl,hnv,hx5⟩
 go_wp2
 have HX5:=Lib.hid (HX4.out.trans' hx5)
 have HNV:=Lib.hid hnv
 refine hK _ _ (fun _ _=>⟨⟨_,HX35.trans' hx5⟩,rfl⟩) ?_
 clear hK K
 refine pi_t 15 rfl (by kernel_rfl) (by kernel_rfl) (fun _ _ _ _ h=>h) (fun K hK=>?_)
 go_big_quiet_op
 refine hK _ ?_
 clear hK K
 refine pi_t 16 rfl (by kernel_rfl) (by kernel_rfl) (fun _ _ _ _ h=>h) (fun K hK=>?_)
 go_big_quiet_op
 refine hK _ ?_
 clear hK K
 refine pi_t 17 rfl (by kernel_rfl) (by kernel_rfl) (fun _ _ _ _ h=>h) (fun K hK=>?_)
 go_big_quiet_op
 refine hK _ ?_
 clear hK K
 refine pi_t 18 rfl (by kernel_rfl) (by kernel_rfl) (fun _ _ _ _ h=>h) (fun K hK=>?_)
 go_big_quiet_op
 refine hK _ ?_
 clear hK K
 refine pi_end (by kernel_rfl) ?_
 go_wp2
 go_ret2
 exact DoPost.same HL.out HX5.out (HNV.out _ _)
set_option maxRecDepth 20000 in
set_option maxHeartbeats 8000000 in
theorem AQuery_quantile {w:World} {N p m:Nat} {l:List (Nat × Th)} {last:Nat} (h:AgAt w N p m l last) (k:Int) (hk:I64 k) (g:Nat) (a:Int) (ha:I64 a) (hgl:g < w.heap.size) (hg1:w.cell? ⟨g,1,none⟩=some (.int .i64 a)) {z:Nat × Th} (hf:fnd l k=some z) :
 Calls Tryz.prog 86 #[.pointer (some ⟨p,0,none⟩),.agg #[.string ⟨#[113,117,97,110,116,105,108,101]⟩,.int .i64 k,.slice (some ⟨g,1,none⟩) 1 1]] w (DoPost w N p m l last (keyF (quanR (ptU z.2.C z.2.ls) z.2.B ((z.2.ls z.2.B).getD 0 0) a).1 (quanR (ptU z.2.C z.2.ls) z.2.B ((z.2.ls z.2.B).getD 0 0) a).2,stOf l last)):=by
 have hs1:(Value.slice (some ⟨g,1,none⟩) 1 1).oneCell'=true:=rfl
 obtain ⟨x,y,hv⟩:=z.2.v_two
 have HS:=fun w' (hw:Ext w w')=>Lib.hid (AStack_c z.2 w' ((h.th z (fnd_mem hf).1).ext hw))
 have hpl:=h.ltp
 have hx1:Ext w (w.alloc (.cells #[.string ⟨#[113,117,97,110,116,105,108,101]⟩,.int .i64 k,.slice (some ⟨g,1,none⟩) 1 1] 179)):=Ext.alloc' _ _
 have hlk:=h.look_a hx1 hk hf
 rw [hv] at hlk
 have HL:=Lib.hid h
 have hhp:=hx1.keep h.hp
 have hb:=heap_at w (.cells #[.string ⟨#[113,117,97,110,116,105,108,101]⟩,.int .i64 k,.slice (some ⟨g,1,none⟩) 1 1] 179) rfl
 clear h
 go_enter Tryz.func86,Tryz.ntmps86
 go_wp2_with fail
 obtain ⟨W1,hW1⟩:∃ W1,w.alloc (.cells #[.string ⟨#[113,117,97,110,116,105,108,101]⟩,.int .i64 k,.slice (some ⟨g,1,none⟩) 1 1] 179)=W1:=⟨_,rfl⟩
 rw [hW1] at hx1 hlk hhp hb ⊢
 clear hW1
 have p0:=(cell_of hhp 0).trans rfl
 have p1:=(cell_of hhp 1).trans rfl
 have pl1:=lt_of hhp
 have b0:=(cell_of hb 0).trans rfl
 have b1:=(cell_of hb 1).trans rfl
 have b2:=(cell_of hb 2).trans rfl
 have bl:=lt_of hb
 have HX1:=Lib.hid hx1
 have HB:=Lib.hid hb
 have HP:=Lib.hid hhp
 clear hx1 hhp hb
 have hC0:=af_drew W1
 refine pi_start (fun w'=>∃ x:After W1,w'=x.w) [] (by kernel_rfl) ?_
 refine pi_t 0 rfl (by kernel_rfl) (by kernel_rfl) (fun _ _ _ _ h=>h) (fun K hK=>?_)
 go_big_quiet_op
 refine hK _ ?_
 clear hK K
 refine pi_t 1 rfl (by kernel_rfl) (by kernel_rfl) (fun _ _ _ _ h=>h) (fun K hK=>?_)
 go_big_quiet_op
 refine hK _ ?_
 clear hK K
 refine pi_t 2 rfl (by kernel_rfl) (by kernel_rfl) (fun _ _ _ _ h=>h) (fun K hK=>?_)
 go_big_quiet_op
 refine hK _ ?_
 clear hK K
 refine pi_t 4 rfl (by kernel_rfl) (by kernel_rfl) (fun _ _ _ _ h=>h) (fun K hK=>?_)
 go_big_quiet_op
 refine hK _ ?_
 clear hK K
 refine pi_c 3 (by assumption) rfl (by kernel_rfl) (by kernel_rfl) (fun _ _ _ _ h=>h) (fun K hK=>?_)
 go_big_quiet_op
 refine hK _ ?_
 clear hK K
 refine pi_c 5 (by assumption) rfl (by kernel_rfl) (by kernel_rfl) (fun _ _ _ _ h=>h) (fun K hK=>?_)
 go_big_quiet_op
 refine hK _ ?_
 clear hK K
 refine pi_c 6 (by assumption) rfl (by kernel_rfl) (by kernel_rfl) (fun _ _ _ _ h=>h) (fun K hK=>?_)
 go_big_quiet_op
 refine hK _ ?_
 clear hK K
 refine pi_t 7 rfl (by kernel_rfl) (by kernel_rfl) (fun _ _ _ _ h=>h) (fun K hK=>?_)
 go_big_quiet_op
 refine hK _ ?_
 clear hK K
 refine pi_t 8 rfl (by kernel_rfl) (by kernel_rfl) (fun _ _ _ _ h=>h) (fun K hK=>?_)
 go_big_quiet_op
 refine hK _ ?_
 clear hK K
 refine pi_t 9 rfl (by kernel_rfl) (by kernel_rfl) (fun _ _ _ _ h=>h) (fun K hK=>?_)
 go_big_quiet_op
 refine hK _ ?_
 clear hK K
 refine pi_l 10 rfl (by kernel_rfl) (fun K hK=>?_)
 go_wp2
 refine hK _ _ (fun _ h=>af_step h (Ext.alloc' _ _)) ?_
 clear hK K
 refine pi_l 11 rfl (by kernel_rfl) (fun K hK=>?_)
 go_wp2
 refine hK _ _ (fun _ _=>⟨⟨_,(Ext.alloc' W1 _).drewR⟩,rfl⟩) ?_
 clear hK K
 refine pi_t 12 rfl (by kernel_rfl) (by kernel_rfl) (fun _ _ _ _ h=>h) (fun K hK=>?_)
 go_big_quiet_op
 refine hK _ ?_
 clear hK K
 refine pi_end (by kernel_rfl) ?_
 have hx2:Ext W1 (W1.alloc (.cells #[.pointer x,.pointer y] 152)).drew:=(Ext.alloc' W1 _).drewR
 have hb2:(W1.alloc (.cells #[.pointer x,.pointer y] 152)).drew.heap[W1.heap.size]?=some (.cells #[.pointer x,.pointer y] 152 (0,0)):=heap_at W1 _ rfl
 obtain ⟨W2,hW2⟩:∃ W2,(W1.alloc (.cells #[.pointer x,.pointer y] 152)).drew=W2:=⟨_,rfl⟩
 rw [hW2] at hx2 hb2 ⊢
 clear hW2 hC0 hlk
 have HX2:=Lib.hid (HX1.out.trans' hx2)
 have t0:=(cell_of hb2 0).trans rfl
 have t1:=(cell_of hb2 1).trans rfl
 have tl:=lt_of hb2
 have hb':=hx2.keep HB.out
 have hp':=hx2.keep HP.out
 clear b0 b1 b2 bl p0 p1 pl1
 have b0:=(cell_of hb' 0).trans rfl
 have b1:=(cell_of hb' 1).trans rfl
 have b2:=(cell_of hb' 2).trans rfl
 have bl:=lt_of hb'
 have p0:=(cell_of hp' 0).trans rfl
 have p1:=(cell_of hp' 1).trans rfl
 have pl1:=lt_of hp'
 clear hb' hp' hb2 hx2
 rw [hv] at HS
 go_wp2_with fail
 refine Calls.mono (HS _ HX2.out).out ?_
 rintro e w3 ⟨s3,g3,L3,rfl,hK3,hx3⟩
 have hx23:=HX2.out.trans' hx3
 have HX3:=Lib.hid hx23
 have HK3:=Lib.hid hK3
 have c0:=(hx3.cell (p:=⟨w.heap.size,0,none⟩) bl).trans b0
 have c2:=(hx3.cell (p:=⟨w.heap.size,2,none⟩) bl).trans b2
 have bl3:=Nat.lt_of_lt_of_le bl hx3.size
 have q1:=(hx23.cell hgl).trans hg1
 have ql:=Nat.lt_of_lt_of_le hgl hx23.size
 clear b0 b1 b2 bl p0 p1 pl1 t0 t1 tl hx3 hK3 hx23
 go_wp2_with fail
 refine Calls.mono (KQuan_c _ _ _ _ _ _ _ HK3.out a ha) ?_
 generalize hR:quanR (ptU z.2.C z.2.ls) z.2.B ((z.2.ls z.2.B).getD 0 0) a=R at *
 obtain ⟨rn,re⟩:=R
 rintro e w4 ⟨rfl,hx4⟩
 have HX4:=Lib.hid (HX3.out.trans' hx4)
 have hl4:=Nat.lt_of_lt_of_le bl3 hx4.size
 clear hR hx4 c0 c2 q1 ql
 by_cases h0:re=0
 · subst h0
   go_wp2
   go_ret2
   exact DoPost.same HL.out HX4.out (r:=some (.key rn)) rfl
 · have hn:(re != 0)=true:=by simpa using h0
   have HF:Hid (keyF rn re=(none,re)):=Lib.hid (by unfold keyF; rw [if_neg h0])
   go_wp2
   go_ret2
   rw [HF.out]
   exact DoPost.same HL.out HX4.out (r:=none) rfl
set_option maxRecDepth 20000 in
set_option maxHeartbeats 8000000 in
theorem AQuery_heavy {w:World} {N p m:Nat} {l:List (Nat × Th)} {last:Nat} (h:AgAt w N p m l last) (k:Int) (hk:I64 k) (g:Nat) (a b:Int) (ha:I64 a) (hb:I64 b) (hgl:g < w.heap.size) (hg1:w.cell? ⟨g,1,none⟩=some (.int .i64 a)) (hg2:w.cell? ⟨g,2,none⟩=some (.int .i64 b)) {z:Nat × Th} (hf:fnd l k=some z) :
 Calls Tryz.prog 86 #[.pointer (some ⟨p,0,none⟩),.agg #[.string ⟨#[104,101,97,118,121]⟩,.int .i64 k,.slice (some ⟨g,1,none⟩) 2 2]] w (DoPost w N p m l last (listF (heavyP (ptU z.2.C z.2.ls) a b z.2.B).1 (heavyP (ptU z.2.C z.2.ls) a b z.2.B).2,stOf l last)):=by
 have hs1:(Value.slice (some ⟨g,1,none⟩) 2 2).oneCell'=true:=rfl
 obtain ⟨x,y,hv⟩:=z.2.v_two
 have HS:=fun w' (hw:Ext w w')=>Lib.hid (AStack_c z.2 w' ((h.th z (fnd_mem hf).1).ext hw))
 have hpl:=h.ltp
 have hx1:Ext w (w.alloc (.cells #[.string ⟨#[104,101,97,118,121]⟩,.int .i64 k,.slice (some ⟨g,1,none⟩) 2 2] 179)):=Ext.alloc' _ _
 have hlk:=h.look_a hx1 hk hf
 rw [hv] at hlk
 have HL:=Lib.hid h
 have hhp:=hx1.keep h.hp
 have hb:=heap_at w (.cells #[.string ⟨#[104,101,97,118,121]⟩,.int .i64 k,.slice (some ⟨g,1,none⟩) 2 2] 179) rfl
 clear h
 go_enter Tryz.func86,Tryz.ntmps86
 go_wp2_with fail
 obtain ⟨W1,hW1⟩:∃ W1,w.alloc (.cells #[.string ⟨#[104,101,97,118,121]⟩,.int .i64 k,.slice (some ⟨g,1,none⟩) 2 2] 179)=W1:=⟨_,rfl⟩
 rw [hW1] at hx1 hlk hhp hb ⊢
 clear hW1
 have p0:=(cell_of hhp 0).trans rfl
 have p1:=(cell_of hhp 1).trans rfl
 have pl1:=lt_of hhp
 have b0:=(cell_of hb 0).trans rfl
 have b1:=(cell_of hb 1).trans rfl
 have b2:=(cell_of hb 2).trans rfl
 have bl:=lt_of hb
 have HX1:=Lib.hid hx1
 have HB:=Lib.hid hb
 have HP:=Lib.hid hhp
 clear hx1 hhp hb
 have hC0:=af_drew W1
 refine pi_start (fun w'=>∃ x:After W1,w'=x.w) [] (by kernel_rfl) ?_
 refine pi_t 0 rfl (by kernel_rfl) (by kernel_rfl) (fun _ _ _ _ h=>h) (fun K hK=>?_)
 go_big_quiet_op
 refine hK _ ?_
 clear hK K
 refine pi_t 1 rfl (by kernel_rfl) (by kernel_rfl) (fun _ _ _ _ h=>h) (fun K hK=>?_)
 go_big_quiet_op
 refine hK _ ?_
 clear hK K
 refine pi_t 2 rfl (by kernel_rfl) (by kernel_rfl) (fun _ _ _ _ h=>h) (fun K hK=>?_)
 go_big_quiet_op
 refine hK _ ?_
 clear hK K
 refine pi_t 4 rfl (by kernel_rfl) (by kernel_rfl) (fun _ _ _ _ h=>h) (fun K hK=>?_)
 go_big_quiet_op
 refine hK _ ?_
 clear hK K
 refine pi_c 3 (by assumption) rfl (by kernel_rfl) (by kernel_rfl) (fun _ _ _ _ h=>h) (fun K hK=>?_)
 go_big_quiet_op
 refine hK _ ?_
 clear hK K
 refine pi_c 5 (by assumption) rfl (by kernel_rfl) (by kernel_rfl) (fun _ _ _ _ h=>h) (fun K hK=>?_)
 go_big_quiet_op
 refine hK _ ?_
 clear hK K
 refine pi_c 6 (by assumption) rfl (by kernel_rfl) (by kernel_rfl) (fun _ _ _ _ h=>h) (fun K hK=>?_)
 go_big_quiet_op
 refine hK _ ?_
 clear hK K
 refine pi_t 7 rfl (by kernel_rfl) (by kernel_rfl) (fun _ _ _ _ h=>h) (fun K hK=>?_)
 go_big_quiet_op
 refine hK _ ?_
 clear hK K
 refine pi_t 8 rfl (by kernel_rfl) (by kernel_rfl) (fun _ _ _ _ h=>h) (fun K hK=>?_)
 go_big_quiet_op
 refine hK _ ?_
 clear hK K
 refine pi_t 9 rfl (by kernel_rfl) (by kernel_rfl) (fun _ _ _ _ h=>h) (fun K hK=>?_)
 go_big_quiet_op
 refine hK _ ?_
 clear hK K
 refine pi_l 10 rfl (by kernel_rfl) (fun K hK=>?_)
 go_wp2
 refine hK _ _ (fun _ h=>af_step h (Ext.alloc' _ _)) ?_
 clear hK K
 refine pi_l 11 rfl (by kernel_rfl) (fun K hK=>?_)
 go_wp2
 refine hK _ _ (fun _ _=>⟨⟨_,(Ext.alloc' W1 _).drewR⟩,rfl⟩) ?_
 clear hK K
 refine pi_t 12 rfl (by kernel_rfl) (by kernel_rfl) (fun _ _ _ _ h=>h) (fun K hK=>?_)
 go_big_quiet_op
 refine hK _ ?_
 clear hK K
 refine pi_end (by kernel_rfl) ?_
 have hx2:Ext W1 (W1.alloc (.cells #[.pointer x,.pointer y] 152)).drew:=(Ext.alloc' W1 _).drewR
 have hb2:(W1.alloc (.cells #[.pointer x,.pointer y] 152)).drew.heap[W1.heap.size]?=some (.cells #[.pointer x,.pointer y] 152 (0,0)):=heap_at W1 _ rfl
 obtain ⟨W2,hW2⟩:∃ W2,(W1.alloc (.cells #[.pointer x,.pointer y] 152)).drew=W2:=⟨_,rfl⟩
 rw [hW2] at hx2 hb2 ⊢
 clear hW2 hC0 hlk
 have HX2:=Lib.hid (HX1.out.trans' hx2)
 have t0:=(cell_of hb2 0).trans rfl
 have t1:=(cell_of hb2 1).trans rfl
 have tl:=lt_of hb2
 have hb':=hx2.keep HB.out
 have hp':=hx2.keep HP.out
 clear b0 b1 b2 bl p0 p1 pl1
 have b0:=(cell_of hb' 0).trans rfl
 have b1:=(cell_of hb' 1).trans rfl
 have b2:=(cell_of hb' 2).trans rfl
 have bl:=lt_of hb'
 have p0:=(cell_of hp' 0).trans rfl
 have p1:=(cell_of hp' 1).trans rfl
 have pl1:=lt_of hp'
 clear hb' hp' hb2 hx2
 rw [hv] at HS
 go_wp2_with fail
 refine Calls.mono (HS _ HX2.out).out ?_
 rintro e w3 ⟨s3,g3,L3,rfl,hK3,hx3⟩
 have hx23:=HX2.out.trans' hx3
 have HX3:=Lib.hid hx23
 have HK3:=Lib.hid hK3
 have c0:=(hx3.cell (p:=⟨w.heap.size,0,none⟩) bl).trans b0
 have c2:=(hx3.cell (p:=⟨w.heap.size,2,none⟩) bl).trans b2
 have bl3:=Nat.lt_of_lt_of_le bl hx3.size
 have q1:=(hx23.cell hgl).trans hg1
 have q2:=(HX3.out.cell hgl).trans hg2
 have ql:=Nat.lt_of_lt_of_le hgl hx23.size
 clear b0 b1 b2 bl p0 p1 pl1 t0 t1 tl hx3 hK3 hx23
 go_wp2_with fail
 have hC0:=af_drew w3
 refine pi_start (fun w'=>∃ x:After w3,w'=x.w) [] (by kernel_rfl) ?_
 refine pi_t 0 rfl (by kernel_rfl) (by kernel_rfl) (fun _ _ _ _ h=>h) (fun K hK=>?_)
 go_big_quiet_op
 refine hK _ ?_
 clear hK K
 refine pi_t 1 rfl (by kernel_rfl) (by kernel_rfl) (fun _ _ _ _ h=>h) (fun K hK=>?_)
 go_big_quiet_op
 refine hK _ ?_
 clear hK K
 refine pi_t 5 rfl (by kernel_rfl) (by kernel_rfl) (fun _ _ _ _ h=>h) (fun K hK=>?_)
 go_big_quiet_op
 refine hK _ ?_
 clear hK K
 refine pi_c 2 (by assumption) rfl (by kernel_rfl) (by kernel_rfl) (fun _ _ _ _ h=>h) (fun K hK=>?_)
 go_big_quiet_op
 refine hK _ ?_
 clear hK K
 refine pi_t 3 rfl (by kernel_rfl) (by kernel_rfl) (fun _ _ _ _ h=>h) (fun K hK=>?_)
 go_big_quiet_op
 refine hK _ ?_
 clear hK K
 refine pi_c 4 (by assumption) rfl (by kernel_rfl) (by kernel_rfl) (fun _ _ _ _ h=>h) (fun K hK=>?_)
 go_big_quiet_op
 refine hK _ ?_
 clear hK K
 refine pi_c 6 (by assumption) rfl (by kernel_rfl) (by kernel_rfl) (fun _ _ _ _ h=>h) (fun K hK=>?_)
 go_big_quiet_op
 refine hK _ ?_
 clear hK K
 refine pi_t 7 rfl (by kernel_rfl) (by kernel_rfl) (fun _ _ _ _ h=>h) (fun K hK=>?_)
 go_big_quiet_op
 refine hK _ ?_
 clear hK K
 refine pi_c 8 (by assumption) rfl (by kernel_rfl) (by kernel_rfl) (fun _ _ _ _ h=>h) (fun K hK=>?_)
 go_big_quiet_op
 refine hK _ ?_
 clear hK K
 refine pi_l 9 rfl (by kernel_rfl) (fun K hK=>?_)
 go_wp2_with fail
 refine (KHeavy_c _ _ _ _ _ _ _ (KAt.ext HK3.out (Below.drew (Ext.refl _))) a b).mono ?_
 unfold HeavyPost
 generalize hR:heavyP (ptU z.2.C z.2.ls) a b z.2.B=R at *
 obtain ⟨rn,re⟩:=R
 rintro e w4 ⟨v,rfl,ho,hx4⟩
 obtain ⟨vp,vc,rfl⟩:=own_sl ho
 have HO:=Lib.hid ho
 have HX35:=Ext.trans' (Below.drew (Ext.refl w3)) hx4
 have HX4:=Lib.hid (HX3.out.trans' HX35)
 have hsb:w.heap.size≤w3.drew.heap.size:=HX3.out.size
 clear ho hR
 go_wp2
 refine hK _ _ (fun _ _=>⟨⟨_,HX35⟩,rfl⟩) ?_
 clear hK K
 refine pi_t 10 rfl (by kernel_rfl) (by kernel_rfl) (fun _ _ _ _ h=>h) (fun K hK=>?_)
 go_big_quiet_op
 refine hK _ ?_
 clear hK K
 refine pi_t 11 rfl (by kernel_rfl) (by kernel_rfl) (fun _ _ _ _ h=>h) (fun K hK=>?_)
 go_big_quiet_op
 refine hK _ ?_
 clear hK K
 refine pi_t 12 rfl (by kernel_rfl) (by kernel_rfl) (fun _ _ _ _ h=>h) (fun K hK=>?_)
 go_big_quiet_op
 refine hK _ ?_
 clear hK K
 refine pi_t 13 rfl (by kernel_rfl) (by kernel_rfl) (fun _ _ _ _ h=>h) (fun K hK=>?_)
 go_big_quiet_op
 refine hK _ ?_
 clear hK K
 refine pi_t 14 rfl (by kernel_rfl) (by kernel_rfl) (fun _ _ _ _ h=>h) (fun K hK=>?_)
 go_big_quiet_op
 refine hK _ ?_
 clear hK K
 refine pi_end (by kernel_rfl) ?_
 clear hx4 HX35 c0 c2 q1 q2 ql bl3
 by_cases h0:re=0
 · subst h0
   go_wp2
   go_ret2
   exact DoPost.same HL.out HX4.out (r:=some (.list rn)) ⟨_,rfl,own_bmono HO.out hsb⟩
 · have hn:(re != 0)=true:=by simpa using h0
   have HF:Hid (listF rn re=(none,re)):=Lib.hid (by unfold listF; rw [if_neg h0])
   go_wp2
   go_ret2
   rw [HF.out]
   exact DoPost.same HL.out HX4.out (r:=none) rfl
end Go.Proofs.YtmalncfcgcebhaaGreatDoor
namespace Go.Proofs.YtmalncfcgcebhaaGreatDoor
set_option linter.unusedVariables false
open Go.Proofs Go.RowKit
instance cfgDec:DecidableEq Cfg:=fun C D =>
 if h:C.bits=D.bits∧C.rows=D.rows∧C.width=D.width∧C.mode=D.mode∧C.seed=D.seed then isTrue (by cases C; cases D; simp_all) else isFalse (by rintro rfl; exact h ⟨rfl,rfl,rfl,rfl,rfl⟩)
def innE (C:Cfg) (l:Nat→List Int) (C2:Cfg) (m:Nat→List Int):Int × Int × Int:=if C=C2 then inV C 0 (l 0) (m 0) else (0,0,5)
def innW (C:Cfg) (l:Nat→List Int) (C2:Cfg) (m:Nat→List Int):Int × Int:=if C=C2 then (if C.mode=1 then (match lvInn C 0 (l 0) (m 0) with | some s=>(s,0) | none=>(0,4)) else (0,3)) else (0,5)
theorem innE_eq (C:Cfg) (l:Nat→List Int) (C2:Cfg) (m:Nat→List Int):innE C l C2 m=(hi (innW C l C2 m).1,lo (innW C l C2 m).1,(innW C l C2 m).2):=by
 unfold innE innW inV
 split
 · split
   · cases lvInn C 0 (l 0) (m 0) <;> rfl
   · rfl
 · rfl
def wideF (x e:Int):Option Rep × Int:=if e=0 then (some (.wide x),0) else (none,e)
def mrgE (C:Cfg) (B:Nat) (l:Nat→List Int) (C2:Cfg) (m:Nat→List Int):Int:=if C=C2 then (if fitK B (fun n=>plusL (l n) (m n))=true then 0 else 4) else 5
def subE (C:Cfg) (B:Nat) (l:Nat→List Int) (C2:Cfg) (m:Nat→List Int):Int:=if C=C2 then (if C.mode=2 then 3 else if fitK B (fun n=>minusL (l n) (m n))=true then 0 else 4) else 5
theorem kat_B {w w2:World} {s g s2 g2:Nat} {C:Cfg} {B B2:Nat} {L L2:Nat→Lev} {l m:Nat→List Int} (h:KAt w s g C B L l) (h2:KAt w2 s2 g2 C B2 L2 m):B2=B:=by
 have h1:=h.hB
 have h3:=h2.hB
 omega
theorem KInnE_c {w:World} {s g o g2:Nat} {C C2:Cfg} {B B2:Nat} {L L2:Nat→Lev} {l m:Nat→List Int} (h:KAt w s g C B L l) (h2:KAt w o g2 C2 B2 L2 m) :
 Calls Tryz.prog 137 #[.pointer (some ⟨s,0,none⟩),.pointer (some ⟨o,0,none⟩)] w fun e w'=>e=.returned (.tuple #[.agg #[.int .i64 (innE C l C2 m).1,.int .u64 (innE C l C2 m).2.1],.int .i64 (innE C l C2 m).2.2])∧Ext w w':=by
 unfold innE
 by_cases e:C=C2
 · subst e
   obtain rfl:=kat_B h h2
   rw [if_pos rfl]
   exact KInnerAny_c h h2
 · rw [if_neg e]
   exact KInner_no s g o g2 C C2 B B2 L L2 l m w h h2 e
theorem KMrgE_c {w:World} {s g o g2:Nat} {C C2:Cfg} {B B2:Nat} {L L2:Nat→Lev} {l m:Nat→List Int} (h:KAt w s g C B L l) (h2:KAt w o g2 C2 B2 L2 m) :
 Calls Tryz.prog 138 #[.pointer (some ⟨s,0,none⟩),.pointer (some ⟨o,0,none⟩)] w fun e w'=>e=.returned (.int .i64 (mrgE C B l C2 m))∧KAt w' s g C B L (bif decide (mrgE C B l C2 m=0) then fun n=>plusL (l n) (m n) else l)∧Mod (cellsOf B L) w w':=by
 unfold mrgE
 by_cases e:C=C2
 · subst e
   obtain rfl:=kat_B h h2
   rw [if_pos rfl]
   refine (KMerge_c s g o g2 C _ L L2 l m w h h2 (fun h=>absurd h (by decide))).mono ?_
   rintro e w' (⟨ha,rfl,hK,hM⟩ | ⟨ha,rfl,hE⟩)
   · rw [if_pos (fitK_iff.2 ha)]
     exact ⟨rfl,hK,hM⟩
   · rw [if_neg (fun h=>ha (fitK_iff.1 h))]
     exact ⟨rfl,KAt.ext h hE,hE.mod _⟩
 · rw [if_neg e]
   refine (KMerge_no s g o g2 C C2 B B2 L L2 l m w h h2 e).mono ?_
   rintro e w' ⟨rfl,hE⟩
   exact ⟨rfl,KAt.ext h hE,hE.mod _⟩
theorem KSubE_c {w:World} {s g o g2:Nat} {C C2:Cfg} {B B2:Nat} {L L2:Nat→Lev} {l m:Nat→List Int} (h:KAt w s g C B L l) (h2:KAt w o g2 C2 B2 L2 m) :
 Calls Tryz.prog 139 #[.pointer (some ⟨s,0,none⟩),.pointer (some ⟨o,0,none⟩)] w fun e w'=>e=.returned (.int .i64 (subE C B l C2 m))∧KAt w' s g C B L (bif decide (subE C B l C2 m=0) then fun n=>minusL (l n) (m n) else l)∧Mod (cellsOf B L) w w':=by
 unfold subE
 by_cases e:C=C2
 · subst e
   obtain rfl:=kat_B h h2
   rw [if_pos rfl]
   by_cases hmd:C.mode=2
   · rw [if_pos hmd]
     refine (KSubtract_mode s g o g2 C _ L L2 l m w h h2 hmd).mono ?_
     rintro e w' ⟨rfl,hE⟩
     exact ⟨rfl,KAt.ext h hE,hE.mod _⟩
   · rw [if_neg hmd]
     refine (KSubtract_c s g o g2 C _ L L2 l m w h h2 (fun _=>hmd)).mono ?_
     rintro e w' (⟨ha,rfl,hK,hM⟩ | ⟨ha,rfl,hE⟩)
     · rw [if_pos (fitK_iff.2 ha)]
       exact ⟨rfl,hK,hM⟩
     · rw [if_neg (fun h=>ha (fitK_iff.1 h))]
       exact ⟨rfl,KAt.ext h hE,hE.mod _⟩
 · rw [if_neg e]
   refine (KSubtract_no s g o g2 C C2 B B2 L L2 l m w h h2 e).mono ?_
   rintro e w' ⟨rfl,hE⟩
   exact ⟨rfl,KAt.ext h hE,hE.mod _⟩
theorem jointEnd {w w2 w3 w4:World} {N p m:Nat} {l:List (Nat × Th)} {last:Nat} (h:AgAt w N p m l last) (hx:Ext w w2) {k:Int} {i:Nat} {bk:Bk} {C:Cfg} {B:Nat} (hf:fnd l k=some (i,.st bk C B)) {er:Int} {ms:Nat→List Int}
 (hK:KAt w3 bk.s bk.g C B bk.L (bif decide (er=0) then ms else bk.ls)) (hM:Mod (cellsOf B bk.L) w2 w3) (hx4:Ext w3 w4) {v:Value} (hv:RepOAt w.heap.size w4 v (doneF er).1) :
 DoPost w N p m l last (doneF er,if er=0 then ⟨setL (stOf l last).l i (.st C B ms),last⟩ else stOf l last) (.returned (.tuple #[v,.int .i64 (doneF er).2])) w4:=by
 by_cases h0:er=0
 · subst h0
   rw [if_pos rfl]
   exact DoPost.upd (T:=.st ⟨bk.s,bk.g,bk.L,ms⟩ C B) h hx hf rfl (KAt.ext hK hx4) (hM.extR hx4) (fun j hj=>.inl hj) hv
 · rw [if_neg h0]
   rw [decide_eq_false h0] at hK
   obtain ⟨a,b,hl⟩:=fnd_split hf
   subst hl
   have hA:=(h.ext hx).chg (T:=.st bk C B) rfl (KAt.ext hK hx4) (hM.extR hx4) (fun j hj=>.inl hj)
   exact ⟨⟨v,_,last,rfl,hv,hA,rfl,fun j hj=>.inl hj⟩,(hx.mod _).trans ((hM.extR hx4).mono fun j hj _=>.inr (.inr ⟨(i,.st bk C B),by simp,hj⟩))⟩
set_option maxRecDepth 20000 in
set_option maxHeartbeats 8000000 in
theorem APair_no {w:World} {N p m:Nat} {l:List (Nat × Th)} {last:Nat} (h:AgAt w N p m l last) (what:ByteArray) (a b:Int) (ha:I64 a) (hb2:I64 b) {x1 y1 x2 y2:Option Addr} {k1 k2:Bool}
 (h1:∀ W1,Ext w W1→∀ y:After W1,(Instr.lookup 142 (.map (some m)) (.int .i64 a) true).run Tryz.prog y.w=.ok (.tuple #[.agg #[.pointer x1,.pointer y1],.bool k1]) y.w)
 (h2:∀ W1,Ext w W1→∀ y:After W1,(Instr.lookup 142 (.map (some m)) (.int .i64 b) true).run Tryz.prog y.w=.ok (.tuple #[.agg #[.pointer x2,.pointer y2],.bool k2]) y.w) (hk:k1=false∨k2=false) :
 Calls Tryz.prog 87 #[.pointer (some ⟨p,0,none⟩),.agg #[.string what,.int .i64 a,.int .i64 b]] w (DoPost w N p m l last ((none,10),stOf l last)):=by
 have hpl:=h.ltp
 have hx1:Ext w (w.alloc (.cells #[.string what,.int .i64 a,.int .i64 b] 182)):=Ext.alloc' _ _
 have hlk:=h1 _ hx1
 have hlk2:=fun W2 (hx:Ext (w.alloc (.cells #[.string what,.int .i64 a,.int .i64 b] 182)) W2)=>h2 W2 (hx1.trans' hx)
 have HL:=Lib.hid h
 have hhp:=hx1.keep h.hp
 have hb:=heap_at w (.cells #[.string what,.int .i64 a,.int .i64 b] 182) rfl
 clear h
 go_enter Tryz.func87,Tryz.ntmps87
 go_wp2_with fail
 obtain ⟨W1,hW1⟩:∃ W1,w.alloc (.cells #[.string what,.int .i64 a,.int .i64 b] 182)=W1:=⟨_,rfl⟩
 rw [hW1] at hx1 hlk hlk2 hhp hb ⊢
 clear hW1
 have p0:=(cell_of hhp 0).trans rfl
 have pl1:=lt_of hhp
 have b1:=(cell_of hb 1).trans rfl
 have bl:=lt_of hb
 have HX1:=Lib.hid hx1
 have HB:=Lib.hid hb
 have HP:=Lib.hid hhp
 clear hx1 hhp hb
 have hC0:=af_drew W1
 refine pi_start (fun w'=>∃ x:After W1,w'=x.w) [] (by kernel_rfl) ?_
 refine pi_t 0 rfl (by kernel_rfl) (by kernel_rfl) (fun _ _ _ _ h=>h) (fun K hK=>?_)
 go_big_quiet_op
 refine hK _ ?_
 clear hK K
 refine pi_t 1 rfl (by kernel_rfl) (by kernel_rfl) (fun _ _ _ _ h=>h) (fun K hK=>?_)
 go_big_quiet_op
 refine hK _ ?_
 clear hK K
 refine pi_t 2 rfl (by kernel_rfl) (by kernel_rfl) (fun _ _ _ _ h=>h) (fun K hK=>?_)
 go_big_quiet_op
 refine hK _ ?_
 clear hK K
 refine pi_t 4 rfl (by kernel_rfl) (by kernel_rfl) (fun _ _ _ _ h=>h) (fun K hK=>?_)
 go_big_quiet_op
 refine hK _ ?_
 clear hK K
 refine pi_c 3 (by assumption) rfl (by kernel_rfl) (by kernel_rfl) (fun _ _ _ _ h=>h) (fun K hK=>?_)
 go_big_quiet_op
 refine hK _ ?_
 clear hK K
 refine pi_c 5 (by assumption) rfl (by kernel_rfl) (by kernel_rfl) (fun _ _ _ _ h=>h) (fun K hK=>?_)
 go_big_quiet_op
 refine hK _ ?_
 clear hK K
 refine pi_c 6 (by assumption) rfl (by kernel_rfl) (by kernel_rfl) (fun _ _ _ _ h=>h) (fun K hK=>?_)
 go_big_quiet_op
 refine hK _ ?_
 clear hK K
 refine pi_t 7 rfl (by kernel_rfl) (by kernel_rfl) (fun _ _ _ _ h=>h) (fun K hK=>?_)
 go_big_quiet_op
 refine hK _ ?_
 clear hK K
 refine pi_t 8 rfl (by kernel_rfl) (by kernel_rfl) (fun _ _ _ _ h=>h) (fun K hK=>?_)
 go_big_quiet_op
 refine hK _ ?_
 clear hK K
 refine pi_t 9 rfl (by kernel_rfl) (by kernel_rfl) (fun _ _ _ _ h=>h) (fun K hK=>?_)
 go_big_quiet_op
 refine hK _ ?_
 clear hK K
 refine pi_l 10 rfl (by kernel_rfl) (fun K hK=>?_)
 go_wp2
 refine hK _ _ (fun _ h=>af_step h (Ext.alloc' _ _)) ?_
 clear hK K
 refine pi_l 11 rfl (by kernel_rfl) (fun K hK=>?_)
 go_wp2
 refine hK _ _ (fun _ _=>⟨⟨_,(Ext.alloc' W1 _).drewR⟩,rfl⟩) ?_
 clear hK K
 refine pi_t 12 rfl (by kernel_rfl) (by kernel_rfl) (fun _ _ _ _ h=>h) (fun K hK=>?_)
 go_big_quiet_op
 refine hK _ ?_
 clear hK K
 refine pi_end (by kernel_rfl) ?_
 have hx2:Ext W1 (W1.alloc (.cells #[.pointer x1,.pointer y1] 152)).drew:=(Ext.alloc' W1 _).drewR
 have hb2:(W1.alloc (.cells #[.pointer x1,.pointer y1] 152)).drew.heap[W1.heap.size]?=some (.cells #[.pointer x1,.pointer y1] 152 (0,0)):=heap_at W1 _ rfl
 obtain ⟨W2,hW2⟩:∃ W2,(W1.alloc (.cells #[.pointer x1,.pointer y1] 152)).drew=W2:=⟨_,rfl⟩
 rw [hW2] at hx2 hb2 ⊢
 clear hW2 hC0 hlk
 have hlk:=fun y=>hlk2 W2 hx2 y
 clear hlk2
 have hb':=hx2.keep HB.out
 have hp':=hx2.keep HP.out
 clear b1 bl p0 pl1
 have b0:=(cell_of hb' 0).trans rfl
 have b2:=(cell_of hb' 2).trans rfl
 have bl:=lt_of hb'
 have p0:=(cell_of hp' 0).trans rfl
 have pl1:=lt_of hp'
 have HX2:=Lib.hid (HX1.out.trans' hx2)
 have HB2:=Lib.hid hb2
 have HB':=Lib.hid hb'
 clear hb' hp' hb2 hx2
 go_wp2_with fail
 have hC0:=af_drew W2
 refine pi_start (fun w'=>∃ x:After W2,w'=x.w) [] (by kernel_rfl) ?_
 refine pi_t 0 rfl (by kernel_rfl) (by kernel_rfl) (fun _ _ _ _ h=>h) (fun K hK=>?_)
 go_big_quiet_op
 refine hK _ ?_
 clear hK K
 refine pi_t 1 rfl (by kernel_rfl) (by kernel_rfl) (fun _ _ _ _ h=>h) (fun K hK=>?_)
 go_big_quiet_op
 refine hK _ ?_
 clear hK K
 refine pi_t 2 rfl (by kernel_rfl) (by kernel_rfl) (fun _ _ _ _ h=>h) (fun K hK=>?_)
 go_big_quiet_op
 refine hK _ ?_
 clear hK K
 refine pi_t 4 rfl (by kernel_rfl) (by kernel_rfl) (fun _ _ _ _ h=>h) (fun K hK=>?_)
 go_big_quiet_op
 refine hK _ ?_
 clear hK K
 refine pi_c 3 (by assumption) rfl (by kernel_rfl) (by kernel_rfl) (fun _ _ _ _ h=>h) (fun K hK=>?_)
 go_big_quiet_op
 refine hK _ ?_
 clear hK K
 refine pi_c 5 (by assumption) rfl (by kernel_rfl) (by kernel_rfl) (fun _ _ _ _ h=>h) (fun K hK=>?_)
 go_big_quiet_op
 refine hK _ ?_
 clear hK K
 refine pi_c 6 (by assumption) rfl (by kernel_rfl) (by kernel_rfl) (fun _ _ _ _ h=>h) (fun K hK=>?_)
 go_big_quiet_op
 refine hK _ ?_
 clear hK K
 refine pi_t 7 rfl (by kernel_rfl) (by kernel_rfl) (fun _ _ _ _ h=>h) (fun K hK=>?_)
 go_big_quiet_op
 refine hK _ ?_
 clear hK K
 refine pi_t 8 rfl (by kernel_rfl) (by kernel_rfl) (fun _ _ _ _ h=>h) (fun K hK=>?_)
 go_big_quiet_op
 refine hK _ ?_
 clear hK K
 refine pi_t 9 rfl (by kernel_rfl) (by kernel_rfl) (fun _ _ _ _ h=>h) (fun K hK=>?_)
 go_big_quiet_op
 refine hK _ ?_
 clear hK K
 refine pi_l 10 rfl (by kernel_rfl) (fun K hK=>?_)
 go_wp2
 refine hK _ _ (fun _ h=>af_step h (Ext.alloc' _ _)) ?_
 clear hK K
 refine pi_l 11 rfl (by kernel_rfl) (fun K hK=>?_)
 go_wp2
 refine hK _ _ (fun _ _=>⟨⟨_,(Ext.alloc' W2 _).drewR⟩,rfl⟩) ?_
 clear hK K
 refine pi_t 12 rfl (by kernel_rfl) (by kernel_rfl) (fun _ _ _ _ h=>h) (fun K hK=>?_)
 go_big_quiet_op
 refine hK _ ?_
 clear hK K
 refine pi_end (by kernel_rfl) ?_
 have hx3:Ext W2 (W2.alloc (.cells #[.pointer x2,.pointer y2] 152)).drew:=(Ext.alloc' W2 _).drewR
 have hb3:(W2.alloc (.cells #[.pointer x2,.pointer y2] 152)).drew.heap[W2.heap.size]?=some (.cells #[.pointer x2,.pointer y2] 152 (0,0)):=heap_at W2 _ rfl
 obtain ⟨W3,hW3⟩:∃ W3,(W2.alloc (.cells #[.pointer x2,.pointer y2] 152)).drew=W3:=⟨_,rfl⟩
 rw [hW3] at hx3 hb3 ⊢
 clear hW3 hC0 hlk
 have hb':=hx3.keep HB'.out
 have hb2:=hx3.keep HB2.out
 clear b0 b2 bl p0 pl1
 have b0:=(cell_of hb' 0).trans rfl
 have bl:=lt_of hb'
 have t0:=(cell_of hb2 0).trans rfl
 have t1:=(cell_of hb2 1).trans rfl
 have tl:=lt_of hb2
 have u0:=(cell_of hb3 0).trans rfl
 have u1:=(cell_of hb3 1).trans rfl
 have ul:=lt_of hb3
 have HBB1:=Lib.hid hb2
 have HBB2:=Lib.hid hb3
 have HX3:=Lib.hid (HX2.out.trans' hx3)
 clear hb' hb2 hb3 hx3
 rcases hk with rfl | rfl
 · go_wp2
   go_ret2
   exact DoPost.same HL.out HX3.out (r:=none) rfl
 · cases k1
   · go_wp2
     go_ret2
     exact DoPost.same HL.out HX3.out (r:=none) rfl
   · go_wp2
     go_ret2
     exact DoPost.same HL.out HX3.out (r:=none) rfl
set_option maxRecDepth 20000 in
set_option maxHeartbeats 16000000 in
theorem APair_inner {w:World} {N p m:Nat} {l:List (Nat × Th)} {last:Nat} (h:AgAt w N p m l last) (a b:Int) (ha:I64 a) (hb2:I64 b) {z1 z2:Nat × Th} (hf1:fnd l a=some z1) (hf2:fnd l b=some z2) :
 Calls Tryz.prog 87 #[.pointer (some ⟨p,0,none⟩),.agg #[.string ⟨#[105,110,110,101,114]⟩,.int .i64 a,.int .i64 b]] w (DoPost w N p m l last (wideF (innW z1.2.C z1.2.ls z2.2.C z2.2.ls).1 (innW z1.2.C z1.2.ls z2.2.C z2.2.ls).2,stOf l last)):=by
 obtain ⟨x1,y1,hv1⟩:=z1.2.v_two
 obtain ⟨x2,y2,hv2⟩:=z2.2.v_two
 have HS1:=fun w' (hw:Ext w w')=>Lib.hid (AStack_c z1.2 w' ((h.th z1 (fnd_mem hf1).1).ext hw))
 have HS2:=fun w' (hw:Ext w w')=>Lib.hid (AStack_c z2.2 w' ((h.th z2 (fnd_mem hf2).1).ext hw))
 rw [hv1] at HS1
 rw [hv2] at HS2
 have hpl:=h.ltp
 have hx1:Ext w (w.alloc (.cells #[.string ⟨#[105,110,110,101,114]⟩,.int .i64 a,.int .i64 b] 182)):=Ext.alloc' _ _
 have hlk:=h.look_a hx1 ha hf1
 have hlk2:=fun W2 (hx:Ext (w.alloc (.cells #[.string ⟨#[105,110,110,101,114]⟩,.int .i64 a,.int .i64 b] 182)) W2)=>h.look_a (hx1.trans' hx) hb2 hf2
 rw [hv1] at hlk
 rw [hv2] at hlk2
 have HL:=Lib.hid h
 have hhp:=hx1.keep h.hp
 have hb:=heap_at w (.cells #[.string ⟨#[105,110,110,101,114]⟩,.int .i64 a,.int .i64 b] 182) rfl
 clear h
 go_enter Tryz.func87,Tryz.ntmps87
 go_wp2_with fail
 obtain ⟨W1,hW1⟩:∃ W1,w.alloc (.cells #[.string ⟨#[105,110,110,101,114]⟩,.int .i64 a,.int .i64 b] 182)=W1:=⟨_,rfl⟩
 rw [hW1] at hx1 hlk hlk2 hhp hb ⊢
 clear hW1
 have p0:=(cell_of hhp 0).trans rfl
 have pl1:=lt_of hhp
 have b1:=(cell_of hb 1).trans rfl
 have bl:=lt_of hb
 have HX1:=Lib.hid hx1
 have HB:=Lib.hid hb
 have HP:=Lib.hid hhp
 clear hx1 hhp hb
 have hC0:=af_drew W1
 refine pi_start (fun w'=>∃ x:After W1,w'=x.w) [] (by kernel_rfl) ?_
 refine pi_t 0 rfl (by kernel_rfl) (by kernel_rfl) (fun _ _ _ _ h=>h) (fun K hK=>?_)
 go_big_quiet_op
 refine hK _ ?_
 clear hK K
 refine pi_t 1 rfl (by kernel_rfl) (by kernel_rfl) (fun _ _ _ _ h=>h) (fun K hK=>?_)
 go_big_quiet_op
 refine hK _ ?_
 clear hK K
 refine pi_t 2 rfl (by kernel_rfl) (by kernel_rfl) (fun _ _ _ _ h=>h) (fun K hK=>?_)
 go_big_quiet_op
 refine hK _ ?_
 clear hK K
 refine pi_t 4 rfl (by kernel_rfl) (by kernel_rfl) (fun _ _ _ _ h=>h) (fun K hK=>?_)
 go_big_quiet_op
 refine hK _ ?_
 clear hK K
 refine pi_c 3 (by assumption) rfl (by kernel_rfl) (by kernel_rfl) (fun _ _ _ _ h=>h) (fun K hK=>?_)
 go_big_quiet_op
 refine hK _ ?_
 clear hK K
 refine pi_c 5 (by assumption) rfl (by kernel_rfl) (by kernel_rfl) (fun _ _ _ _ h=>h) (fun K hK=>?_)
 go_big_quiet_op
 refine hK _ ?_
 clear hK K
 refine pi_c 6 (by assumption) rfl (by kernel_rfl) (by kernel_rfl) (fun _ _ _ _ h=>h) (fun K hK=>?_)
 go_big_quiet_op
 refine hK _ ?_
 clear hK K
 refine pi_t 7 rfl (by kernel_rfl) (by kernel_rfl) (fun _ _ _ _ h=>h) (fun K hK=>?_)
 go_big_quiet_op
 refine hK _ ?_
 clear hK K
 refine pi_t 8 rfl (by kernel_rfl) (by kernel_rfl) (fun _ _ _ _ h=>h) (fun K hK=>?_)
 go_big_quiet_op
 refine hK _ ?_
 clear hK K
 refine pi_t 9 rfl (by kernel_rfl) (by kernel_rfl) (fun _ _ _ _ h=>h) (fun K hK=>?_)
 go_big_quiet_op
 refine hK _ ?_
 clear hK K
 refine pi_l 10 rfl (by kernel_rfl) (fun K hK=>?_)
 go_wp2
 refine hK _ _ (fun _ h=>af_step h (Ext.alloc' _ _)) ?_
 clear hK K
 refine pi_l 11 rfl (by kernel_rfl) (fun K hK=>?_)
 go_wp2
 refine hK _ _ (fun _ _=>⟨⟨_,(Ext.alloc' W1 _).drewR⟩,rfl⟩) ?_
 clear hK K
 refine pi_t 12 rfl (by kernel_rfl) (by kernel_rfl) (fun _ _ _ _ h=>h) (fun K hK=>?_)
 go_big_quiet_op
 refine hK _ ?_
 clear hK K
 refine pi_end (by kernel_rfl) ?_
 have hx2:Ext W1 (W1.alloc (.cells #[.pointer x1,.pointer y1] 152)).drew:=(Ext.alloc' W1 _).drewR
 have hb2:(W1.alloc (.cells #[.pointer x1,.pointer y1] 152)).drew.heap[W1.heap.size]?=some (.cells #[.pointer x1,.pointer y1] 152 (0,0)):=heap_at W1 _ rfl
 obtain ⟨W2,hW2⟩:∃ W2,(W1.alloc (.cells #[.pointer x1,.pointer y1] 152)).drew=W2:=⟨_,rfl⟩
 rw [hW2] at hx2 hb2 ⊢
 clear hW2 hC0 hlk
 have hlk:=fun y=>hlk2 W2 hx2 y
 clear hlk2
 have hb':=hx2.keep HB.out
 have hp':=hx2.keep HP.out
 clear b1 bl p0 pl1
 have b0:=(cell_of hb' 0).trans rfl
 have b2:=(cell_of hb' 2).trans rfl
 have bl:=lt_of hb'
 have p0:=(cell_of hp' 0).trans rfl
 have pl1:=lt_of hp'
 have HX2:=Lib.hid (HX1.out.trans' hx2)
 have HB2:=Lib.hid hb2
 have HB':=Lib.hid hb'
 clear hb' hp' hb2 hx2
 go_wp2_with fail
 have hC0:=af_drew W2
 refine pi_start (fun w'=>∃ x:After W2,w'=x.w) [] (by kernel_rfl) ?_
 refine pi_t 0 rfl (by kernel_rfl) (by kernel_rfl) (fun _ _ _ _ h=>h) (fun K hK=>?_)
 go_big_quiet_op
 refine hK _ ?_
 clear hK K
 refine pi_t 1 rfl (by kernel_rfl) (by kernel_rfl) (fun _ _ _ _ h=>h) (fun K hK=>?_)
 go_big_quiet_op
 refine hK _ ?_
 clear hK K
 refine pi_t 2 rfl (by kernel_rfl) (by kernel_rfl) (fun _ _ _ _ h=>h) (fun K hK=>?_)
 go_big_quiet_op
 refine hK _ ?_
 clear hK K
 refine pi_t 4 rfl (by kernel_rfl) (by kernel_rfl) (fun _ _ _ _ h=>h) (fun K hK=>?_)
 go_big_quiet_op
 refine hK _ ?_
 clear hK K
 refine pi_c 3 (by assumption) rfl (by kernel_rfl) (by kernel_rfl) (fun _ _ _ _ h=>h) (fun K hK=>?_)
 go_big_quiet_op
 refine hK _ ?_
 clear hK K
 refine pi_c 5 (by assumption) rfl (by kernel_rfl) (by kernel_rfl) (fun _ _ _ _ h=>h) (fun K hK=>?_)
 go_big_quiet_op
 refine hK _ ?_
 clear hK K
 refine pi_c 6 (by assumption) rfl (by kernel_rfl) (by kernel_rfl) (fun _ _ _ _ h=>h) (fun K hK=>?_)
 go_big_quiet_op
 refine hK _ ?_
 clear hK K
 refine pi_t 7 rfl (by kernel_rfl) (by kernel_rfl) (fun _ _ _ _ h=>h) (fun K hK=>?_)
 go_big_quiet_op
 refine hK _ ?_
 clear hK K
 refine pi_t 8 rfl (by kernel_rfl) (by kernel_rfl) (fun _ _ _ _ h=>h) (fun K hK=>?_)
 go_big_quiet_op
 refine hK _ ?_
 clear hK K
 refine pi_t 9 rfl (by kernel_rfl) (by kernel_rfl) (fun _ _ _ _ h=>h) (fun K hK=>?_)
 go_big_quiet_op
 refine hK _ ?_
 clear hK K
 refine pi_l 10 rfl (by kernel_rfl) (fun K hK=>?_)
 go_wp2
 refine hK _ _ (fun _ h=>af_step h (Ext.alloc' _ _)) ?_
 clear hK K
 refine pi_l 11 rfl (by kernel_rfl) (fun K hK=>?_)
 go_wp2
 refine hK _ _ (fun _ _=>⟨⟨_,(Ext.alloc' W2 _).drewR⟩,rfl⟩) ?_
 clear hK K
 refine pi_t 12 rfl (by kernel_rfl) (by kernel_rfl) (fun _ _ _ _ h=>h) (fun K hK=>?_)
 go_big_quiet_op
 refine hK _ ?_
 clear hK K
 refine pi_end (by kernel_rfl) ?_
 have hx3:Ext W2 (W2.alloc (.cells #[.pointer x2,.pointer y2] 152)).drew:=(Ext.alloc' W2 _).drewR
 have hb3:(W2.alloc (.cells #[.pointer x2,.pointer y2] 152)).drew.heap[W2.heap.size]?=some (.cells #[.pointer x2,.pointer y2] 152 (0,0)):=heap_at W2 _ rfl
 obtain ⟨W3,hW3⟩:∃ W3,(W2.alloc (.cells #[.pointer x2,.pointer y2] 152)).drew=W3:=⟨_,rfl⟩
 rw [hW3] at hx3 hb3 ⊢
 clear hW3 hC0 hlk
 have hb':=hx3.keep HB'.out
 have hb2:=hx3.keep HB2.out
 clear b0 b2 bl p0 pl1
 have b0:=(cell_of hb' 0).trans rfl
 have bl:=lt_of hb'
 have t0:=(cell_of hb2 0).trans rfl
 have t1:=(cell_of hb2 1).trans rfl
 have tl:=lt_of hb2
 have u0:=(cell_of hb3 0).trans rfl
 have u1:=(cell_of hb3 1).trans rfl
 have ul:=lt_of hb3
 have HBB1:=Lib.hid hb2
 have HBB2:=Lib.hid hb3
 have HX3:=Lib.hid (HX2.out.trans' hx3)
 clear hb' hb2 hb3 hx3
 go_wp2_with fail
 have HE:=Lib.hid (show Ext W3 W3.drew from Below.drew (Ext.refl W3))
 have hC0:=af_drew W3
 refine pi_start (fun w'=>∃ x:After W3,w'=x.w) [] (by kernel_rfl) ?_
 refine pi_c 0 (by assumption) rfl (by kernel_rfl) (by kernel_rfl) (fun _ _ _ _ h=>h) (fun K hK=>?_)
 go_big_quiet_op
 refine hK _ ?_
 clear hK K
 refine pi_c 2 (by assumption) rfl (by kernel_rfl) (by kernel_rfl) (fun _ _ _ _ h=>h) (fun K hK=>?_)
 go_big_quiet_op
 refine hK _ ?_
 clear hK K
 refine pi_b 1 8 rfl rfl (by kernel_rfl) (fun K hK=>?_) (fun K hK=>?_)
 · go_wp2_with fail
   refine Calls.mono (HS1 _ (HX3.out.trans' HE.out)).out ?_
   rintro e w4 ⟨s1,g1,L1,rfl,hK1,hx1⟩
   have HK1:=Lib.hid hK1
   replace HE:=Lib.hid (HE.out.trans' hx1)
   go_wp2
   refine hK _ _ (fun _ h=>af_step h hx1) ?_
   clear hK K hx1 hK1
   refine pi_b 3 8 rfl rfl (by kernel_rfl) (fun K hK=>?_) (fun K hK=>?_)
   · go_wp2_with fail
     refine Calls.mono (HS2 _ (HX3.out.trans' HE.out)).out ?_
     rintro e w5 ⟨s2,g2,L2,rfl,hK2,hx2⟩
     have HK2:=Lib.hid hK2
     replace HE:=Lib.hid (HE.out.trans' hx2)
     replace HK1:=Lib.hid (KAt.ext HK1.out hx2)
     go_wp2
     refine hK _ _ (fun _ h=>af_step h hx2) ?_
     clear hK K hx2 hK2
     refine pi_b 4 8 rfl rfl (by kernel_rfl) (fun K hK=>?_) (fun K hK=>?_)
     · have HIN:=KInnE_c HK1.out HK2.out
       rw [innE_eq] at HIN
       generalize hR:innW z1.2.C z1.2.ls z2.2.C z2.2.ls=R at *
       obtain ⟨xs,er⟩:=R
       dsimp only at HIN
       replace HIN:=Lib.hid HIN
       have HR:=Lib.hid hR
       clear hR
       go_wp2_with fail
       refine Calls.mono HIN.out ?_
       rintro e w6 ⟨rfl,hx3⟩
       replace HE:=Lib.hid (HE.out.trans' hx3)
       clear HIN
       replace HK1:=Lib.hid (KAt.ext HK1.out hx3)
       replace HK2:=Lib.hid (KAt.ext HK2.out hx3)
       go_wp2
       refine hK _ _ (fun _ h=>af_step h hx3) ?_
       clear hK K hx3
       refine pi_t 5 rfl (by kernel_rfl) (by kernel_rfl) (fun _ _ _ _ h=>h) (fun K hK=>?_)
       go_big_quiet_op
       refine hK _ ?_
       clear hK K
       refine pi_t 6 rfl (by kernel_rfl) (by kernel_rfl) (fun _ _ _ _ h=>h) (fun K hK=>?_)
       go_big_quiet_op
       refine hK _ ?_
       clear hK K
       refine pi_t 7 rfl (by kernel_rfl) (by kernel_rfl) (fun _ _ _ _ h=>h) (fun K hK=>?_)
       go_big_quiet_op
       refine hK _ ?_
       clear hK K
       refine pi_l 8 rfl (by kernel_rfl) (fun K hK=>?_)
       go_wp2
       refine hK _ _ (fun _ h=>af_step h (Ext.alloc' _ _)) ?_
       clear hK K
       have hbx:=heap_at w6 (.cells #[.int .i64 0,.int .u64 0] 194) rfl
       have hbs:=HE.out.size
       replace HE:=Lib.hid (HE.out.trans' (Ext.alloc' w6 (.cells #[.int .i64 0,.int .u64 0] 194)))
       replace HK1:=Lib.hid (KAt.ext HK1.out (Ext.alloc' w6 (.cells #[.int .i64 0,.int .u64 0] 194)))
       replace HK2:=Lib.hid (KAt.ext HK2.out (Ext.alloc' w6 (.cells #[.int .i64 0,.int .u64 0] 194)))
       obtain ⟨wa,hwa⟩:∃ wa,w6.alloc (.cells #[.int .i64 0,.int .u64 0] 194)=wa:=⟨_,rfl⟩
       rw [hwa] at hbx HE HK1 HK2 ⊢
       clear hwa
       generalize hbn:w6.heap.size=bn at hbx hbs ⊢
       have p0:=(cell_of hbx 0).trans rfl
       have p1:=(cell_of hbx 1).trans rfl
       have f0:=frozen_of hbx 0
       have f1:=frozen_of hbx 1
       refine pi_l 9 rfl (by kernel_rfl) (fun K hK=>?_)
       go_wp2
       have hEF:=(HE.out.setR (p:=⟨bn,0,none⟩) hbs (.int .i64 (hi xs))).setR (p:=⟨bn,1,none⟩) hbs (.int .u64 (lo xs))
       refine hK _ _ (fun _ _=>⟨⟨_,hEF⟩,rfl⟩) ?_
       clear hK K
       refine pi_t 10 rfl (by kernel_rfl) (by kernel_rfl) (fun _ _ _ _ h=>h) (fun K hK=>?_)
       go_big_quiet_op
       refine hK _ ?_
       clear hK K
       refine pi_end (by kernel_rfl) ?_
       have hbF:=set2 hbx (.int .i64 (hi xs)) (.int .u64 (lo xs))
       obtain ⟨WF,hWF⟩:∃ WF,(wa.setCell ⟨bn,0,none⟩ (.int .i64 (hi xs))).setCell ⟨bn,1,none⟩ (.int .u64 (lo xs))=WF:=⟨_,rfl⟩
       rw [hWF] at hEF hbF ⊢
       clear hWF p0 p1 f0 f1
       have q0:=(cell_of hbF 0).trans rfl
       have q1:=(cell_of hbF 1).trans rfl
       have ql:=lt_of hbF
       have HF:=Lib.hid (HX3.out.trans' hEF)
       clear hEF hbF hbx t0 t1 tl u0 u1 ul b0 bl
       by_cases h0:er=0
       · subst h0
         go_wp2
         go_ret2
         exact DoPost.same HL.out HF.out (r:=some (.wide xs)) rfl
       · have hn:(er != 0)=true:=by simpa using h0
         have HW:Hid (wideF xs er=(none,er)):=Lib.hid (by unfold wideF; rw [if_neg h0])
         go_wp2
         go_ret2
         rw [HW.out]
         exact DoPost.same HL.out HF.out (r:=none) rfl
     · go_wp2
       refine hK _ _ (fun _ h=>af_step h (Ext.alloc' _ _)) ?_
       clear hK K
       have hbx:=heap_at w5 (.cells #[.int .i64 0,.int .u64 0] 194) rfl
       have hbs:=HE.out.size
       replace HE:=Lib.hid (HE.out.trans' (Ext.alloc' w5 (.cells #[.int .i64 0,.int .u64 0] 194)))
       replace HK1:=Lib.hid (KAt.ext HK1.out (Ext.alloc' w5 (.cells #[.int .i64 0,.int .u64 0] 194)))
       replace HK2:=Lib.hid (KAt.ext HK2.out (Ext.alloc' w5 (.cells #[.int .i64 0,.int .u64 0] 194)))
       obtain ⟨wa,hwa⟩:∃ wa,w5.alloc (.cells #[.int .i64 0,.int .u64 0] 194)=wa:=⟨_,rfl⟩
       rw [hwa] at hbx HE HK1 HK2 ⊢
       clear hwa
       generalize hbn:w5.heap.size=bn at hbx hbs ⊢
       refine pi_l 4 rfl (by kernel_rfl) (fun K hK=>?_)
       have HIN:=KInnE_c HK1.out HK2.out
       rw [innE_eq] at HIN
       generalize hR:innW z1.2.C z1.2.ls z2.2.C z2.2.ls=R at *
       obtain ⟨xs,er⟩:=R
       dsimp only at HIN
       replace HIN:=Lib.hid HIN
       have HR:=Lib.hid hR
       clear hR
       go_wp2_with fail
       refine Calls.mono HIN.out ?_
       rintro e w6 ⟨rfl,hx3⟩
       replace HE:=Lib.hid (HE.out.trans' hx3)
       clear HIN
       replace HK1:=Lib.hid (KAt.ext HK1.out hx3)
       replace HK2:=Lib.hid (KAt.ext HK2.out hx3)
       replace hbx:=hx3.keep hbx
       go_wp2
       refine hK _ _ (fun _ h=>af_step h hx3) ?_
       clear hK K hx3
       refine pi_t 5 rfl (by kernel_rfl) (by kernel_rfl) (fun _ _ _ _ h=>h) (fun K hK=>?_)
       go_big_quiet_op
       refine hK _ ?_
       clear hK K
       refine pi_t 6 rfl (by kernel_rfl) (by kernel_rfl) (fun _ _ _ _ h=>h) (fun K hK=>?_)
       go_big_quiet_op
       refine hK _ ?_
       clear hK K
       refine pi_t 7 rfl (by kernel_rfl) (by kernel_rfl) (fun _ _ _ _ h=>h) (fun K hK=>?_)
       go_big_quiet_op
       refine hK _ ?_
       clear hK K
       have p0:=(cell_of hbx 0).trans rfl
       have p1:=(cell_of hbx 1).trans rfl
       have f0:=frozen_of hbx 0
       have f1:=frozen_of hbx 1
       refine pi_l 9 rfl (by kernel_rfl) (fun K hK=>?_)
       go_wp2
       have hEF:=(HE.out.setR (p:=⟨bn,0,none⟩) hbs (.int .i64 (hi xs))).setR (p:=⟨bn,1,none⟩) hbs (.int .u64 (lo xs))
       refine hK _ _ (fun _ _=>⟨⟨_,hEF⟩,rfl⟩) ?_
       clear hK K
       refine pi_t 10 rfl (by kernel_rfl) (by kernel_rfl) (fun _ _ _ _ h=>h) (fun K hK=>?_)
       go_big_quiet_op
       refine hK _ ?_
       clear hK K
       refine pi_end (by kernel_rfl) ?_
       have hbF:=set2 hbx (.int .i64 (hi xs)) (.int .u64 (lo xs))
       obtain ⟨WF,hWF⟩:∃ WF,(w6.setCell ⟨bn,0,none⟩ (.int .i64 (hi xs))).setCell ⟨bn,1,none⟩ (.int .u64 (lo xs))=WF:=⟨_,rfl⟩
       rw [hWF] at hEF hbF ⊢
       clear hWF p0 p1 f0 f1
       have q0:=(cell_of hbF 0).trans rfl
       have q1:=(cell_of hbF 1).trans rfl
       have ql:=lt_of hbF
       have HF:=Lib.hid (HX3.out.trans' hEF)
       clear hEF hbF hbx t0 t1 tl u0 u1 ul b0 bl
       by_cases h0:er=0
       · subst h0
         go_wp2
         go_ret2
         exact DoPost.same HL.out HF.out (r:=some (.wide xs)) rfl
       · have hn:(er != 0)=true:=by simpa using h0
         have HW:Hid (wideF xs er=(none,er)):=Lib.hid (by unfold wideF; rw [if_neg h0])
         go_wp2
         go_ret2
         rw [HW.out]
         exact DoPost.same HL.out HF.out (r:=none) rfl
   · go_wp2
     refine hK _ _ (fun _ h=>af_step h (Ext.alloc' _ _)) ?_
     clear hK K
     have hbx:=heap_at w4 (.cells #[.int .i64 0,.int .u64 0] 194) rfl
     have hbs:=HE.out.size
     replace HE:=Lib.hid (HE.out.trans' (Ext.alloc' w4 (.cells #[.int .i64 0,.int .u64 0] 194)))
     replace HK1:=Lib.hid (KAt.ext HK1.out (Ext.alloc' w4 (.cells #[.int .i64 0,.int .u64 0] 194)))
     obtain ⟨wa,hwa⟩:∃ wa,w4.alloc (.cells #[.int .i64 0,.int .u64 0] 194)=wa:=⟨_,rfl⟩
     rw [hwa] at hbx HE HK1 ⊢
     clear hwa
     generalize hbn:w4.heap.size=bn at hbx hbs ⊢
     refine pi_l 3 rfl (by kernel_rfl) (fun K hK=>?_)
     go_wp2_with fail
     refine Calls.mono (HS2 _ (HX3.out.trans' HE.out)).out ?_
     rintro e w5 ⟨s2,g2,L2,rfl,hK2,hx2⟩
     have HK2:=Lib.hid hK2
     replace HE:=Lib.hid (HE.out.trans' hx2)
     replace HK1:=Lib.hid (KAt.ext HK1.out hx2)
     replace hbx:=hx2.keep hbx
     go_wp2
     refine hK _ _ (fun _ h=>af_step h hx2) ?_
     clear hK K hx2 hK2
     refine pi_l 4 rfl (by kernel_rfl) (fun K hK=>?_)
     have HIN:=KInnE_c HK1.out HK2.out
     rw [innE_eq] at HIN
     generalize hR:innW z1.2.C z1.2.ls z2.2.C z2.2.ls=R at *
     obtain ⟨xs,er⟩:=R
     dsimp only at HIN
     replace HIN:=Lib.hid HIN
     have HR:=Lib.hid hR
     clear hR
     go_wp2_with fail
     refine Calls.mono HIN.out ?_
     rintro e w6 ⟨rfl,hx3⟩
     replace HE:=Lib.hid (HE.out.trans' hx3)
     clear HIN
     replace HK1:=Lib.hid (KAt.ext HK1.out hx3)
     replace HK2:=Lib.hid (KAt.ext HK2.out hx3)
     replace hbx:=hx3.keep hbx
     go_wp2
     refine hK _ _ (fun _ h=>af_step h hx3) ?_
     clear hK K hx3
     refine pi_t 5 rfl (by kernel_rfl) (by kernel_rfl) (fun _ _ _ _ h=>h) (fun K hK=>?_)
     go_big_quiet_op
     refine hK _ ?_
     clear hK K
     refine pi_t 6 rfl (by kernel_rfl) (by kernel_rfl) (fun _ _ _ _ h=>h) (fun K hK=>?_)
     go_big_quiet_op
     refine hK _ ?_
     clear hK K
     refine pi_t 7 rfl (by kernel_rfl) (by kernel_rfl) (fun _ _ _ _ h=>h) (fun K hK=>?_)
     go_big_quiet_op
     refine hK _ ?_
     clear hK K
     have p0:=(cell_of hbx 0).trans rfl
     have p1:=(cell_of hbx 1).trans rfl
     have f0:=frozen_of hbx 0
     have f1:=frozen_of hbx 1
     refine pi_l 9 rfl (by kernel_rfl) (fun K hK=>?_)
     go_wp2
     have hEF:=(HE.out.setR (p:=⟨bn,0,none⟩) hbs (.int .i64 (hi xs))).setR (p:=⟨bn,1,none⟩) hbs (.int .u64 (lo xs))
     refine hK _ _ (fun _ _=>⟨⟨_,hEF⟩,rfl⟩) ?_
     clear hK K
     refine pi_t 10 rfl (by kernel_rfl) (by kernel_rfl) (fun _ _ _ _ h=>h) (fun K hK=>?_)
     go_big_quiet_op
     refine hK _ ?_
     clear hK K
     refine pi_end (by kernel_rfl) ?_
     have hbF:=set2 hbx (.int .i64 (hi xs)) (.int .u64 (lo xs))
     obtain ⟨WF,hWF⟩:∃ WF,(w6.setCell ⟨bn,0,none⟩ (.int .i64 (hi xs))).setCell ⟨bn,1,none⟩ (.int .u64 (lo xs))=WF:=⟨_,rfl⟩
     rw [hWF] at hEF hbF ⊢
     clear hWF p0 p1 f0 f1
     have q0:=(cell_of hbF 0).trans rfl
     have q1:=(cell_of hbF 1).trans rfl
     have ql:=lt_of hbF
     have HF:=Lib.hid (HX3.out.trans' hEF)
     clear hEF hbF hbx t0 t1 tl u0 u1 ul b0 bl
     by_cases h0:er=0
     · subst h0
       go_wp2
       go_ret2
       exact DoPost.same HL.out HF.out (r:=some (.wide xs)) rfl
     · have hn:(er != 0)=true:=by simpa using h0
       have HW:Hid (wideF xs er=(none,er)):=Lib.hid (by unfold wideF; rw [if_neg h0])
       go_wp2
       go_ret2
       rw [HW.out]
       exact DoPost.same HL.out HF.out (r:=none) rfl
 · go_wp2
   refine hK _ _ (fun _ h=>af_step h (Ext.alloc' _ _)) ?_
   clear hK K
   have hbx:=heap_at W3 (.cells #[.int .i64 0,.int .u64 0] 194) rfl
   have HE:=Lib.hid ((Ext.alloc' W3 (.cells #[.int .i64 0,.int .u64 0] 194)).drewR)
   obtain ⟨wa,hwa⟩:∃ wa,(W3.alloc (.cells #[.int .i64 0,.int .u64 0] 194)).drew=wa:=⟨_,rfl⟩
   replace hbx:(W3.alloc (.cells #[.int .i64 0,.int .u64 0] 194)).drew.heap[W3.heap.size]?=_:=hbx
   rw [hwa] at hbx HE ⊢
   clear hwa
   generalize hbn:W3.heap.size=bn at hbx ⊢
   have hbs:W3.heap.size≤bn:=Nat.le_of_eq hbn
   refine pi_l 1 rfl (by kernel_rfl) (fun K hK=>?_)
   go_wp2_with fail
   refine Calls.mono (HS1 _ (HX3.out.trans' HE.out)).out ?_
   rintro e w4 ⟨s1,g1,L1,rfl,hK1,hx1⟩
   have HK1:=Lib.hid hK1
   replace HE:=Lib.hid (HE.out.trans' hx1)
   replace hbx:=hx1.keep hbx
   go_wp2
   refine hK _ _ (fun _ h=>af_step h hx1) ?_
   clear hK K hx1 hK1
   refine pi_l 3 rfl (by kernel_rfl) (fun K hK=>?_)
   go_wp2_with fail
   refine Calls.mono (HS2 _ (HX3.out.trans' HE.out)).out ?_
   rintro e w5 ⟨s2,g2,L2,rfl,hK2,hx2⟩
   have HK2:=Lib.hid hK2
   replace HE:=Lib.hid (HE.out.trans' hx2)
   replace HK1:=Lib.hid (KAt.ext HK1.out hx2)
   replace hbx:=hx2.keep hbx
   go_wp2
   refine hK _ _ (fun _ h=>af_step h hx2) ?_
   clear hK K hx2 hK2
   refine pi_l 4 rfl (by kernel_rfl) (fun K hK=>?_)
   have HIN:=KInnE_c HK1.out HK2.out
   rw [innE_eq] at HIN
   generalize hR:innW z1.2.C z1.2.ls z2.2.C z2.2.ls=R at *
   obtain ⟨xs,er⟩:=R
   dsimp only at HIN
   replace HIN:=Lib.hid HIN
   have HR:=Lib.hid hR
   clear hR
   go_wp2_with fail
   refine Calls.mono HIN.out ?_
   rintro e w6 ⟨rfl,hx3⟩
   replace HE:=Lib.hid (HE.out.trans' hx3)
   clear HIN
   replace HK1:=Lib.hid (KAt.ext HK1.out hx3)
   replace HK2:=Lib.hid (KAt.ext HK2.out hx3)
   replace hbx:=hx3.keep hbx
   go_wp2
   refine hK _ _ (fun _ h=>af_step h hx3) ?_
   clear hK K hx3
   refine pi_t 5 rfl (by kernel_rfl) (by kernel_rfl) (fun _ _ _ _ h=>h) (fun K hK=>?_)
   go_big_quiet_op
   refine hK _ ?_
   clear hK K
   refine pi_t 6 rfl (by kernel_rfl) (by kernel_rfl) (fun _ _ _ _ h=>h) (fun K hK=>?_)
   go_big_quiet_op
   refine hK _ ?_
   clear hK K
   refine pi_t 7 rfl (by kernel_rfl) (by kernel_rfl) (fun _ _ _ _ h=>h) (fun K hK=>?_)
   go_big_quiet_op
   refine hK _ ?_
   clear hK K
   have p0:=(cell_of hbx 0).trans rfl
   have p1:=(cell_of hbx 1).trans rfl
   have f0:=frozen_of hbx 0
   have f1:=frozen_of hbx 1
   refine pi_l 9 rfl (by kernel_rfl) (fun K hK=>?_)
   go_wp2
   have hEF:=(HE.out.setR (p:=⟨bn,0,none⟩) hbs (.int .i64 (hi xs))).setR (p:=⟨bn,1,none⟩) hbs (.int .u64 (lo xs))
   refine hK _ _ (fun _ _=>⟨⟨_,hEF⟩,rfl⟩) ?_
   clear hK K
   refine pi_t 10 rfl (by kernel_rfl) (by kernel_rfl) (fun _ _ _ _ h=>h) (fun K hK=>?_)
   go_big_quiet_op
   refine hK _ ?_
   clear hK K
   refine pi_end (by kernel_rfl) ?_
   have hbF:=set2 hbx (.int .i64 (hi xs)) (.int .u64 (lo xs))
   obtain ⟨WF,hWF⟩:∃ WF,(w6.setCell ⟨bn,0,none⟩ (.int .i64 (hi xs))).setCell ⟨bn,1,none⟩ (.int .u64 (lo xs))=WF:=⟨_,rfl⟩
   rw [hWF] at hEF hbF ⊢
   clear hWF p0 p1 f0 f1
   have q0:=(cell_of hbF 0).trans rfl
   have q1:=(cell_of hbF 1).trans rfl
   have ql:=lt_of hbF
   have HF:=Lib.hid (HX3.out.trans' hEF)
   clear hEF hbF hbx t0 t1 tl u0 u1 ul b0 bl
   by_cases h0:er=0
   · subst h0
     go_wp2
     go_ret2
     exact DoPost.same HL.out HF.out (r:=some (.wide xs)) rfl
   · have hn:(er != 0)=true:=by simpa using h0
     have HW:Hid (wideF xs er=(none,er)):=Lib.hid (by unfold wideF; rw [if_neg h0])
     go_wp2
     go_ret2
     rw [HW.out]
     exact DoPost.same HL.out HF.out (r:=none) rfl
set_option maxRecDepth 20000 in
set_option maxHeartbeats 8000000 in
theorem APair_merge {w:World} {N p m:Nat} {l:List (Nat × Th)} {last:Nat} (h:AgAt w N p m l last) (a b:Int) (ha:I64 a) (hb2:I64 b) {i:Nat} {bk:Bk} {C:Cfg} {B:Nat} {z2:Nat × Th} (hf1:fnd l a=some (i,.st bk C B)) (hf2:fnd l b=some z2) :
 Calls Tryz.prog 87 #[.pointer (some ⟨p,0,none⟩),.agg #[.string ⟨#[109,101,114,103,101]⟩,.int .i64 a,.int .i64 b]] w (DoPost w N p m l last (doneF (mrgE C B bk.ls z2.2.C z2.2.ls),if mrgE C B bk.ls z2.2.C z2.2.ls=0 then ⟨setL (stOf l last).l i (.st C B (fun n=>plusL (bk.ls n) (z2.2.ls n))),last⟩ else stOf l last)):=by
 obtain ⟨RR,hRR⟩:∃ RR:(Option Rep × Int) × St,RR=(doneF (mrgE C B bk.ls z2.2.C z2.2.ls),if mrgE C B bk.ls z2.2.C z2.2.ls=0 then ⟨setL (stOf l last).l i (.st C B (fun n=>plusL (bk.ls n) (z2.2.ls n))),last⟩ else stOf l last):=⟨_,rfl⟩
 rw [← hRR]
 have HRR:=Lib.hid hRR
 clear hRR
 obtain ⟨x2,y2,hv2⟩:=z2.2.v_two
 have HTH:=Lib.hid (show bk.At w C B from h.th _ (fnd_mem hf1).1)
 have HS2:=fun w' (hw:Ext w w')=>Lib.hid (AStack_c z2.2 w' ((h.th z2 (fnd_mem hf2).1).ext hw))
 rw [hv2] at HS2
 have hpl:=h.ltp
 have hx1:Ext w (w.alloc (.cells #[.string ⟨#[109,101,114,103,101]⟩,.int .i64 a,.int .i64 b] 182)):=Ext.alloc' _ _
 have hlk:=h.look_a hx1 ha hf1
 have hlk2:=fun W2 (hx:Ext (w.alloc (.cells #[.string ⟨#[109,101,114,103,101]⟩,.int .i64 a,.int .i64 b] 182)) W2)=>h.look_a (hx1.trans' hx) hb2 hf2
 unfold Th.v at hlk
 rw [hv2] at hlk2
 have HL:=Lib.hid h
 have hhp:=hx1.keep h.hp
 have hb:=heap_at w (.cells #[.string ⟨#[109,101,114,103,101]⟩,.int .i64 a,.int .i64 b] 182) rfl
 clear h
 go_enter Tryz.func87,Tryz.ntmps87
 go_wp2_with fail
 obtain ⟨W1,hW1⟩:∃ W1,w.alloc (.cells #[.string ⟨#[109,101,114,103,101]⟩,.int .i64 a,.int .i64 b] 182)=W1:=⟨_,rfl⟩
 rw [hW1] at hx1 hlk hlk2 hhp hb ⊢
 clear hW1
 have p0:=(cell_of hhp 0).trans rfl
 have pl1:=lt_of hhp
 have b1:=(cell_of hb 1).trans rfl
 have bl:=lt_of hb
 have HX1:=Lib.hid hx1
 have HB:=Lib.hid hb
 have HP:=Lib.hid hhp
 clear hx1 hhp hb
 have hC0:=af_drew W1
 refine pi_start (fun w'=>∃ x:After W1,w'=x.w) [] (by kernel_rfl) ?_
 refine pi_t 0 rfl (by kernel_rfl) (by kernel_rfl) (fun _ _ _ _ h=>h) (fun K hK=>?_)
 go_big_quiet_op
 refine hK _ ?_
 clear hK K
 refine pi_t 1 rfl (by kernel_rfl) (by kernel_rfl) (fun _ _ _ _ h=>h) (fun K hK=>?_)
 go_big_quiet_op
 refine hK _ ?_
 clear hK K
 refine pi_t 2 rfl (by kernel_rfl) (by kernel_rfl) (fun _ _ _ _ h=>h) (fun K hK=>?_)
 go_big_quiet_op
 refine hK _ ?_
 clear hK K
 refine pi_t 4 rfl (by kernel_rfl) (by kernel_rfl) (fun _ _ _ _ h=>h) (fun K hK=>?_)
 go_big_quiet_op
 refine hK _ ?_
 clear hK K
 refine pi_c 3 (by assumption) rfl (by kernel_rfl) (by kernel_rfl) (fun _ _ _ _ h=>h) (fun K hK=>?_)
 go_big_quiet_op
 refine hK _ ?_
 clear hK K
 refine pi_c 5 (by assumption) rfl (by kernel_rfl) (by kernel_rfl) (fun _ _ _ _ h=>h) (fun K hK=>?_)
 go_big_quiet_op
 refine hK _ ?_
 clear hK K
 refine pi_c 6 (by assumption) rfl (by kernel_rfl) (by kernel_rfl) (fun _ _ _ _ h=>h) (fun K hK=>?_)
 go_big_quiet_op
 refine hK _ ?_
 clear hK K
 refine pi_t 7 rfl (by kernel_rfl) (by kernel_rfl) (fun _ _ _ _ h=>h) (fun K hK=>?_)
 go_big_quiet_op
 refine hK _ ?_
 clear hK K
 refine pi_t 8 rfl (by kernel_rfl) (by kernel_rfl) (fun _ _ _ _ h=>h) (fun K hK=>?_)
 go_big_quiet_op
 refine hK _ ?_
 clear hK K
 refine pi_t 9 rfl (by kernel_rfl) (by kernel_rfl) (fun _ _ _ _ h=>h) (fun K hK=>?_)
 go_big_quiet_op
 refine hK _ ?_
 clear hK K
 refine pi_l 10 rfl (by kernel_rfl) (fun K hK=>?_)
 go_wp2
 refine hK _ _ (fun _ h=>af_step h (Ext.alloc' _ _)) ?_
 clear hK K
 refine pi_l 11 rfl (by kernel_rfl) (fun K hK=>?_)
 go_wp2
 refine hK _ _ (fun _ _=>⟨⟨_,(Ext.alloc' W1 _).drewR⟩,rfl⟩) ?_
 clear hK K
 refine pi_t 12 rfl (by kernel_rfl) (by kernel_rfl) (fun _ _ _ _ h=>h) (fun K hK=>?_)
 go_big_quiet_op
 refine hK _ ?_
 clear hK K
 refine pi_end (by kernel_rfl) ?_
 have hx2:Ext W1 (W1.alloc (.cells #[.pointer (some ⟨bk.s,0,none⟩),.pointer none] 152)).drew:=(Ext.alloc' W1 _).drewR
 have hb2:(W1.alloc (.cells #[.pointer (some ⟨bk.s,0,none⟩),.pointer none] 152)).drew.heap[W1.heap.size]?=some (.cells #[.pointer (some ⟨bk.s,0,none⟩),.pointer none] 152 (0,0)):=heap_at W1 _ rfl
 obtain ⟨W2,hW2⟩:∃ W2,(W1.alloc (.cells #[.pointer (some ⟨bk.s,0,none⟩),.pointer none] 152)).drew=W2:=⟨_,rfl⟩
 rw [hW2] at hx2 hb2 ⊢
 clear hW2 hC0 hlk
 have hlk:=fun y=>hlk2 W2 hx2 y
 clear hlk2
 have hb':=hx2.keep HB.out
 have hp':=hx2.keep HP.out
 clear b1 bl p0 pl1
 have b0:=(cell_of hb' 0).trans rfl
 have b2:=(cell_of hb' 2).trans rfl
 have bl:=lt_of hb'
 have p0:=(cell_of hp' 0).trans rfl
 have pl1:=lt_of hp'
 have HX2:=Lib.hid (HX1.out.trans' hx2)
 have HB2:=Lib.hid hb2
 have HB':=Lib.hid hb'
 clear hb' hp' hb2 hx2
 go_wp2_with fail
 have hC0:=af_drew W2
 refine pi_start (fun w'=>∃ x:After W2,w'=x.w) [] (by kernel_rfl) ?_
 refine pi_t 0 rfl (by kernel_rfl) (by kernel_rfl) (fun _ _ _ _ h=>h) (fun K hK=>?_)
 go_big_quiet_op
 refine hK _ ?_
 clear hK K
 refine pi_t 1 rfl (by kernel_rfl) (by kernel_rfl) (fun _ _ _ _ h=>h) (fun K hK=>?_)
 go_big_quiet_op
 refine hK _ ?_
 clear hK K
 refine pi_t 2 rfl (by kernel_rfl) (by kernel_rfl) (fun _ _ _ _ h=>h) (fun K hK=>?_)
 go_big_quiet_op
 refine hK _ ?_
 clear hK K
 refine pi_t 4 rfl (by kernel_rfl) (by kernel_rfl) (fun _ _ _ _ h=>h) (fun K hK=>?_)
 go_big_quiet_op
 refine hK _ ?_
 clear hK K
 refine pi_c 3 (by assumption) rfl (by kernel_rfl) (by kernel_rfl) (fun _ _ _ _ h=>h) (fun K hK=>?_)
 go_big_quiet_op
 refine hK _ ?_
 clear hK K
 refine pi_c 5 (by assumption) rfl (by kernel_rfl) (by kernel_rfl) (fun _ _ _ _ h=>h) (fun K hK=>?_)
 go_big_quiet_op
 refine hK _ ?_
 clear hK K
 refine pi_c 6 (by assumption) rfl (by kernel_rfl) (by kernel_rfl) (fun _ _ _ _ h=>h) (fun K hK=>?_)
 go_big_quiet_op
 refine hK _ ?_
 clear hK K
 refine pi_t 7 rfl (by kernel_rfl) (by kernel_rfl) (fun _ _ _ _ h=>h) (fun K hK=>?_)
 go_big_quiet_op
 refine hK _ ?_
 clear hK K
 refine pi_t 8 rfl (by kernel_rfl) (by kernel_rfl) (fun _ _ _ _ h=>h) (fun K hK=>?_)
 go_big_quiet_op
 refine hK _ ?_
 clear hK K
 refine pi_t 9 rfl (by kernel_rfl) (by kernel_rfl) (fun _ _ _ _ h=>h) (fun K hK=>?_)
 go_big_quiet_op
 refine hK _ ?_
 clear hK K
 refine pi_l 10 rfl (by kernel_rfl) (fun K hK=>?_)
 go_wp2
 refine hK _ _ (fun _ h=>af_step h (Ext.alloc' _ _)) ?_
 clear hK K
 refine pi_l 11 rfl (by kernel_rfl) (fun K hK=>?_)
 go_wp2
 refine hK _ _ (fun _ _=>⟨⟨_,(Ext.alloc' W2 _).drewR⟩,rfl⟩) ?_
 clear hK K
 refine pi_t 12 rfl (by kernel_rfl) (by kernel_rfl) (fun _ _ _ _ h=>h) (fun K hK=>?_)
 go_big_quiet_op
 refine hK _ ?_
 clear hK K
 refine pi_end (by kernel_rfl) ?_
 have hx3:Ext W2 (W2.alloc (.cells #[.pointer x2,.pointer y2] 152)).drew:=(Ext.alloc' W2 _).drewR
 have hb3:(W2.alloc (.cells #[.pointer x2,.pointer y2] 152)).drew.heap[W2.heap.size]?=some (.cells #[.pointer x2,.pointer y2] 152 (0,0)):=heap_at W2 _ rfl
 obtain ⟨W3,hW3⟩:∃ W3,(W2.alloc (.cells #[.pointer x2,.pointer y2] 152)).drew=W3:=⟨_,rfl⟩
 rw [hW3] at hx3 hb3 ⊢
 clear hW3 hC0 hlk
 have hb':=hx3.keep HB'.out
 have hb2:=hx3.keep HB2.out
 clear b0 b2 bl p0 pl1
 have b0:=(cell_of hb' 0).trans rfl
 have bl:=lt_of hb'
 have t0:=(cell_of hb2 0).trans rfl
 have t1:=(cell_of hb2 1).trans rfl
 have tl:=lt_of hb2
 have u0:=(cell_of hb3 0).trans rfl
 have u1:=(cell_of hb3 1).trans rfl
 have ul:=lt_of hb3
 have HBB1:=Lib.hid hb2
 have HBB2:=Lib.hid hb3
 have HX3:=Lib.hid (HX2.out.trans' hx3)
 clear hb' hb2 hb3 hx3
 go_wp2_with fail
 have hK3:=KAt.ext HTH.out HX3.out
 have nb1:¬ cellsOf B bk.L W1.heap.size:=fun hc=>by
  obtain ⟨cur,h5⟩:=KAt.isc hK3 hc
  exact blk_ne h5 HBB1.out (by decide) rfl
 have nb2:¬ cellsOf B bk.L W2.heap.size:=fun hc=>by
  obtain ⟨cur,h5⟩:=KAt.isc hK3 hc
  exact blk_ne h5 HBB2.out (by decide) rfl
 clear hK3
 have hC0:=afs_drew (cellsOf B bk.L) W3
 refine pi_start (fun w'=>∃ x:AftS (cellsOf B bk.L) W3,w'=x.w) [] (by kernel_rfl) ?_
 refine pi_t 0 rfl (by kernel_rfl) (by kernel_rfl) (fun _ _ _ _ h=>h) (fun K hK=>?_)
 go_big_quiet_op
 refine hK _ ?_
 clear hK K
 refine pi_c 1 (by assumption) rfl (by kernel_rfl) (by kernel_rfl) (fun _ _ _ _ h=>h) (fun K hK=>?_)
 go_big_quiet_op
 refine hK _ ?_
 clear hK K
 refine pi_c 2 (by assumption) rfl (by kernel_rfl) (by kernel_rfl) (fun _ _ _ _ h=>h) (fun K hK=>?_)
 go_big_quiet_op
 refine hK _ ?_
 clear hK K
 refine pi_l 3 rfl (by kernel_rfl) (fun K hK=>?_)
 go_wp2_with fail
 refine Calls.mono (HS2 _ (HX3.out.trans' (Below.drew (Ext.refl W3)))).out ?_
 rintro e w4 ⟨s2,g2,L2,rfl,hK2,hx4⟩
 have HE4:=Lib.hid (HX3.out.trans' (Ext.trans' (Below.drew (Ext.refl W3)) hx4))
 have HK2:=Lib.hid hK2
 go_wp2
 refine hK _ _ (fun _ h=>afs_step h hx4) ?_
 clear hK K hK2
 refine pi_l 4 rfl (by kernel_rfl) (fun K hK=>?_)
 go_wp2_with fail
 refine Calls.mono (KMrgE_c (KAt.ext HTH.out HE4.out) HK2.out) ?_
 rintro e w5 ⟨rfl,hK5,hM5⟩
 have HK5:=Lib.hid hK5
 have HM5:=Lib.hid hM5
 generalize hR:mrgE C B bk.ls z2.2.C z2.2.ls=er at *
 have HR:=Lib.hid hR
 clear hR hK5
 go_wp2
 refine hK _ _ (fun _ _=>⟨⟨_,((Ext.trans' (Below.drew (Ext.refl W3)) hx4).mod _).trans hM5⟩,rfl⟩) ?_
 clear hK K
 refine pi_l 5 rfl (by kernel_rfl) (fun K hK=>?_)
 go_wp2_with fail
 refine Calls.mono (ADone_c er _) ?_
 rintro e w6 ⟨v,rfl,hv,hx6⟩
 have HV:=Lib.hid hv
 have HX6:=Lib.hid hx6
 go_wp2
 refine hK _ _ (fun _ h=>afs_step h hx6) ?_
 clear hK K hv hx6 hx4 hM5
 refine pi_t 6 rfl (by kernel_rfl) (by kernel_rfl) (fun _ _ _ _ h=>h) (fun K hK=>?_)
 go_big_quiet_op
 refine hK _ ?_
 clear hK K
 refine pi_t 7 rfl (by kernel_rfl) (by kernel_rfl) (fun _ _ _ _ h=>h) (fun K hK=>?_)
 go_big_quiet_op
 refine hK _ ?_
 clear hK K
 refine pi_t 8 rfl (by kernel_rfl) (by kernel_rfl) (fun _ _ _ _ h=>h) (fun K hK=>?_)
 go_big_quiet_op
 refine hK _ ?_
 clear hK K
 refine pi_t 9 rfl (by kernel_rfl) (by kernel_rfl) (fun _ _ _ _ h=>h) (fun K hK=>?_)
 go_big_quiet_op
 refine hK _ ?_
 clear hK K
 refine pi_end (by kernel_rfl) ?_
 go_wp2
 go_ret2
 rw [HRR.out]
 exact jointEnd HL.out HE4.out hf1 HK5.out HM5.out HX6.out (HV.out _ _)
set_option maxRecDepth 20000 in
set_option maxHeartbeats 8000000 in
theorem APair_subtract {w:World} {N p m:Nat} {l:List (Nat × Th)} {last:Nat} (h:AgAt w N p m l last) (a b:Int) (ha:I64 a) (hb2:I64 b) {i:Nat} {bk:Bk} {C:Cfg} {B:Nat} {z2:Nat × Th} (hf1:fnd l a=some (i,.st bk C B)) (hf2:fnd l b=some z2) :
 Calls Tryz.prog 87 #[.pointer (some ⟨p,0,none⟩),.agg #[.string ⟨#[115,117,98,116,114,97,99,116]⟩,.int .i64 a,.int .i64 b]] w (DoPost w N p m l last (doneF (subE C B bk.ls z2.2.C z2.2.ls),if subE C B bk.ls z2.2.C z2.2.ls=0 then ⟨setL (stOf l last).l i (.st C B (fun n=>minusL (bk.ls n) (z2.2.ls n))),last⟩ else stOf l last)):=by
 obtain ⟨RR,hRR⟩:∃ RR:(Option Rep × Int) × St,RR=(doneF (subE C B bk.ls z2.2.C z2.2.ls),if subE C B bk.ls z2.2.C z2.2.ls=0 then ⟨setL (stOf l last).l i (.st C B (fun n=>minusL (bk.ls n) (z2.2.ls n))),last⟩ else stOf l last):=⟨_,rfl⟩
 rw [← hRR]
 have HRR:=Lib.hid hRR
 clear hRR
 obtain ⟨x2,y2,hv2⟩:=z2.2.v_two
 have HTH:=Lib.hid (show bk.At w C B from h.th _ (fnd_mem hf1).1)
 have HS2:=fun w' (hw:Ext w w')=>Lib.hid (AStack_c z2.2 w' ((h.th z2 (fnd_mem hf2).1).ext hw))
 rw [hv2] at HS2
 have hpl:=h.ltp
 have hx1:Ext w (w.alloc (.cells #[.string ⟨#[115,117,98,116,114,97,99,116]⟩,.int .i64 a,.int .i64 b] 182)):=Ext.alloc' _ _
 have hlk:=h.look_a hx1 ha hf1
 have hlk2:=fun W2 (hx:Ext (w.alloc (.cells #[.string ⟨#[115,117,98,116,114,97,99,116]⟩,.int .i64 a,.int .i64 b] 182)) W2)=>h.look_a (hx1.trans' hx) hb2 hf2
 unfold Th.v at hlk
 rw [hv2] at hlk2
 have HL:=Lib.hid h
 have hhp:=hx1.keep h.hp
 have hb:=heap_at w (.cells #[.string ⟨#[115,117,98,116,114,97,99,116]⟩,.int .i64 a,.int .i64 b] 182) rfl
 clear h
 go_enter Tryz.func87,Tryz.ntmps87
 go_wp2_with fail
 obtain ⟨W1,hW1⟩:∃ W1,w.alloc (.cells #[.string ⟨#[115,117,98,116,114,97,99,116]⟩,.int .i64 a,.int .i64 b] 182)=W1:=⟨_,rfl⟩
 rw [hW1] at hx1 hlk hlk2 hhp hb ⊢
 clear hW1
 have p0:=(cell_of hhp 0).trans rfl
 have pl1:=lt_of hhp
 have b1:=(cell_of hb 1).trans rfl
 have bl:=lt_of hb
 have HX1:=Lib.hid hx1
 have HB:=Lib.hid hb
 have HP:=Lib.hid hhp
 clear hx1 hhp hb
 have hC0:=af_drew W1
 refine pi_start (fun w'=>∃ x:After W1,w'=x.w) [] (by kernel_rfl) ?_
 refine pi_t 0 rfl (by kernel_rfl) (by kernel_rfl) (fun _ _ _ _ h=>h) (fun K hK=>?_)
 go_big_quiet_op
 refine hK _ ?_
 clear hK K
 refine pi_t 1 rfl (by kernel_rfl) (by kernel_rfl) (fun _ _ _ _ h=>h) (fun K hK=>?_)
 go_big_quiet_op
 refine hK _ ?_
 clear hK K
 refine pi_t 2 rfl (by kernel_rfl) (by kernel_rfl) (fun _ _ _ _ h=>h) (fun K hK=>?_)
 go_big_quiet_op
 refine hK _ ?_
 clear hK K
 refine pi_t 4 rfl (by kernel_rfl) (by kernel_rfl) (fun _ _ _ _ h=>h) (fun K hK=>?_)
 go_big_quiet_op
 refine hK _ ?_
 clear hK K
 refine pi_c 3 (by assumption) rfl (by kernel_rfl) (by kernel_rfl) (fun _ _ _ _ h=>h) (fun K hK=>?_)
 go_big_quiet_op
 refine hK _ ?_
 clear hK K
 refine pi_c 5 (by assumption) rfl (by kernel_rfl) (by kernel_rfl) (fun _ _ _ _ h=>h) (fun K hK=>?_)
 go_big_quiet_op
 refine hK _ ?_
 clear hK K
 refine pi_c 6 (by assumption) rfl (by kernel_rfl) (by kernel_rfl) (fun _ _ _ _ h=>h) (fun K hK=>?_)
 go_big_quiet_op
 refine hK _ ?_
 clear hK K
 refine pi_t 7 rfl (by kernel_rfl) (by kernel_rfl) (fun _ _ _ _ h=>h) (fun K hK=>?_)
 go_big_quiet_op
 refine hK _ ?_
 clear hK K
 refine pi_t 8 rfl (by kernel_rfl) (by kernel_rfl) (fun _ _ _ _ h=>h) (fun K hK=>?_)
 go_big_quiet_op
 refine hK _ ?_
 clear hK K
 refine pi_t 9 rfl (by kernel_rfl) (by kernel_rfl) (fun _ _ _ _ h=>h) (fun K hK=>?_)
 go_big_quiet_op
 refine hK _ ?_
 clear hK K
 refine pi_l 10 rfl (by kernel_rfl) (fun K hK=>?_)
 go_wp2
 refine hK _ _ (fun _ h=>af_step h (Ext.alloc' _ _)) ?_
 clear hK K
 refine pi_l 11 rfl (by kernel_rfl) (fun K hK=>?_)
 go_wp2
 refine hK _ _ (fun _ _=>⟨⟨_,(Ext.alloc' W1 _).drewR⟩,rfl⟩) ?_
 clear hK K
 refine pi_t 12 rfl (by kernel_rfl) (by kernel_rfl) (fun _ _ _ _ h=>h) (fun K hK=>?_)
 go_big_quiet_op
 refine hK _ ?_
 clear hK K
 refine pi_end (by kernel_rfl) ?_
 have hx2:Ext W1 (W1.alloc (.cells #[.pointer (some ⟨bk.s,0,none⟩),.pointer none] 152)).drew:=(Ext.alloc' W1 _).drewR
 have hb2:(W1.alloc (.cells #[.pointer (some ⟨bk.s,0,none⟩),.pointer none] 152)).drew.heap[W1.heap.size]?=some (.cells #[.pointer (some ⟨bk.s,0,none⟩),.pointer none] 152 (0,0)):=heap_at W1 _ rfl
 obtain ⟨W2,hW2⟩:∃ W2,(W1.alloc (.cells #[.pointer (some ⟨bk.s,0,none⟩),.pointer none] 152)).drew=W2:=⟨_,rfl⟩
 rw [hW2] at hx2 hb2 ⊢
 clear hW2 hC0 hlk
 have hlk:=fun y=>hlk2 W2 hx2 y
 clear hlk2
 have hb':=hx2.keep HB.out
 have hp':=hx2.keep HP.out
 clear b1 bl p0 pl1
 have b0:=(cell_of hb' 0).trans rfl
 have b2:=(cell_of hb' 2).trans rfl
 have bl:=lt_of hb'
 have p0:=(cell_of hp' 0).trans rfl
 have pl1:=lt_of hp'
 have HX2:=Lib.hid (HX1.out.trans' hx2)
 have HB2:=Lib.hid hb2
 have HB':=Lib.hid hb'
 clear hb' hp' hb2 hx2
 go_wp2_with fail
 have hC0:=af_drew W2
 refine pi_start (fun w'=>∃ x:After W2,w'=x.w) [] (by kernel_rfl) ?_
 refine pi_t 0 rfl (by kernel_rfl) (by kernel_rfl) (fun _ _ _ _ h=>h) (fun K hK=>?_)
 go_big_quiet_op
 refine hK _ ?_
 clear hK K
 refine pi_t 1 rfl (by kernel_rfl) (by kernel_rfl) (fun _ _ _ _ h=>h) (fun K hK=>?_)
 go_big_quiet_op
 refine hK _ ?_
 clear hK K
 refine pi_t 2 rfl (by kernel_rfl) (by kernel_rfl) (fun _ _ _ _ h=>h) (fun K hK=>?_)
 go_big_quiet_op
 refine hK _ ?_
 clear hK K
 refine pi_t 4 rfl (by kernel_rfl) (by kernel_rfl) (fun _ _ _ _ h=>h) (fun K hK=>?_)
 go_big_quiet_op
 refine hK _ ?_
 clear hK K
 refine pi_c 3 (by assumption) rfl (by kernel_rfl) (by kernel_rfl) (fun _ _ _ _ h=>h) (fun K hK=>?_)
 go_big_quiet_op
 refine hK _ ?_
 clear hK K
 refine pi_c 5 (by assumption) rfl (by kernel_rfl) (by kernel_rfl) (fun _ _ _ _ h=>h) (fun K hK=>?_)
 go_big_quiet_op
 refine hK _ ?_
 clear hK K
 refine pi_c 6 (by assumption) rfl (by kernel_rfl) (by kernel_rfl) (fun _ _ _ _ h=>h) (fun K hK=>?_)
 go_big_quiet_op
 refine hK _ ?_
 clear hK K
 refine pi_t 7 rfl (by kernel_rfl) (by kernel_rfl) (fun _ _ _ _ h=>h) (fun K hK=>?_)
 go_big_quiet_op
 refine hK _ ?_
 clear hK K
 refine pi_t 8 rfl (by kernel_rfl) (by kernel_rfl) (fun _ _ _ _ h=>h) (fun K hK=>?_)
 go_big_quiet_op
 refine hK _ ?_
 clear hK K
 refine pi_t 9 rfl (by kernel_rfl) (by kernel_rfl) (fun _ _ _ _ h=>h) (fun K hK=>?_)
 go_big_quiet_op
 refine hK _ ?_
 clear hK K
 refine pi_l 10 rfl (by kernel_rfl) (fun K hK=>?_)
 go_wp2
 refine hK _ _ (fun _ h=>af_step h (Ext.alloc' _ _)) ?_
 clear hK K
 refine pi_l 11 rfl (by kernel_rfl) (fun K hK=>?_)
 go_wp2
 refine hK _ _ (fun _ _=>⟨⟨_,(Ext.alloc' W2 _).drewR⟩,rfl⟩) ?_
 clear hK K
 refine pi_t 12 rfl (by kernel_rfl) (by kernel_rfl) (fun _ _ _ _ h=>h) (fun K hK=>?_)
 go_big_quiet_op
 refine hK _ ?_
 clear hK K
 refine pi_end (by kernel_rfl) ?_
 have hx3:Ext W2 (W2.alloc (.cells #[.pointer x2,.pointer y2] 152)).drew:=(Ext.alloc' W2 _).drewR
 have hb3:(W2.alloc (.cells #[.pointer x2,.pointer y2] 152)).drew.heap[W2.heap.size]?=some (.cells #[.pointer x2,.pointer y2] 152 (0,0)):=heap_at W2 _ rfl
 obtain ⟨W3,hW3⟩:∃ W3,(W2.alloc (.cells #[.pointer x2,.pointer y2] 152)).drew=W3:=⟨_,rfl⟩
 rw [hW3] at hx3 hb3 ⊢
 clear hW3 hC0 hlk
 have hb':=hx3.keep HB'.out
 have hb2:=hx3.keep HB2.out
 clear b0 b2 bl p0 pl1
 have b0:=(cell_of hb' 0).trans rfl
 have bl:=lt_of hb'
 have t0:=(cell_of hb2 0).trans rfl
 have t1:=(cell_of hb2 1).trans rfl
 have tl:=lt_of hb2
 have u0:=(cell_of hb3 0).trans rfl
 have u1:=(cell_of hb3 1).trans rfl
 have ul:=lt_of hb3
 have HBB1:=Lib.hid hb2
 have HBB2:=Lib.hid hb3
 have HX3:=Lib.hid (HX2.out.trans' hx3)
 clear hb' hb2 hb3 hx3
 go_wp2_with fail
 have hK3:=KAt.ext HTH.out HX3.out
 have nb1:¬ cellsOf B bk.L W1.heap.size:=fun hc=>by
  obtain ⟨cur,h5⟩:=KAt.isc hK3 hc
  exact blk_ne h5 HBB1.out (by decide) rfl
 have nb2:¬ cellsOf B bk.L W2.heap.size:=fun hc=>by
  obtain ⟨cur,h5⟩:=KAt.isc hK3 hc
  exact blk_ne h5 HBB2.out (by decide) rfl
 clear hK3
 have hC0:=afs_drew (cellsOf B bk.L) W3
 refine pi_start (fun w'=>∃ x:AftS (cellsOf B bk.L) W3,w'=x.w) [] (by kernel_rfl) ?_
 refine pi_t 0 rfl (by kernel_rfl) (by kernel_rfl) (fun _ _ _ _ h=>h) (fun K hK=>?_)
 go_big_quiet_op
 refine hK _ ?_
 clear hK K
 refine pi_c 1 (by assumption) rfl (by kernel_rfl) (by kernel_rfl) (fun _ _ _ _ h=>h) (fun K hK=>?_)
 go_big_quiet_op
 refine hK _ ?_
 clear hK K
 refine pi_c 2 (by assumption) rfl (by kernel_rfl) (by kernel_rfl) (fun _ _ _ _ h=>h) (fun K hK=>?_)
 go_big_quiet_op
 refine hK _ ?_
 clear hK K
 refine pi_l 3 rfl (by kernel_rfl) (fun K hK=>?_)
 go_wp2_with fail
 refine Calls.mono (HS2 _ (HX3.out.trans' (Below.drew (Ext.refl W3)))).out ?_
 rintro e w4 ⟨s2,g2,L2,rfl,hK2,hx4⟩
 have HE4:=Lib.hid (HX3.out.trans' (Ext.trans' (Below.drew (Ext.refl W3)) hx4))
 have HK2:=Lib.hid hK2
 go_wp2
 refine hK _ _ (fun _ h=>afs_step h hx4) ?_
 clear hK K hK2
 refine pi_l 4 rfl (by kernel_rfl) (fun K hK=>?_)
 go_wp2_with fail
 refine Calls.mono (KSubE_c (KAt.ext HTH.out HE4.out) HK2.out) ?_
 rintro e w5 ⟨rfl,hK5,hM5⟩
 have HK5:=Lib.hid hK5
 have HM5:=Lib.hid hM5
 generalize hR:subE C B bk.ls z2.2.C z2.2.ls=er at *
 have HR:=Lib.hid hR
 clear hR hK5
 go_wp2
 refine hK _ _ (fun _ _=>⟨⟨_,((Ext.trans' (Below.drew (Ext.refl W3)) hx4).mod _).trans hM5⟩,rfl⟩) ?_
 clear hK K
 refine pi_l 5 rfl (by kernel_rfl) (fun K hK=>?_)
 go_wp2_with fail
 refine Calls.mono (ADone_c er _) ?_
 rintro e w6 ⟨v,rfl,hv,hx6⟩
 have HV:=Lib.hid hv
 have HX6:=Lib.hid hx6
 go_wp2
 refine hK _ _ (fun _ h=>afs_step h hx6) ?_
 clear hK K hv hx6 hx4 hM5
 refine pi_t 6 rfl (by kernel_rfl) (by kernel_rfl) (fun _ _ _ _ h=>h) (fun K hK=>?_)
 go_big_quiet_op
 refine hK _ ?_
 clear hK K
 refine pi_t 7 rfl (by kernel_rfl) (by kernel_rfl) (fun _ _ _ _ h=>h) (fun K hK=>?_)
 go_big_quiet_op
 refine hK _ ?_
 clear hK K
 refine pi_t 8 rfl (by kernel_rfl) (by kernel_rfl) (fun _ _ _ _ h=>h) (fun K hK=>?_)
 go_big_quiet_op
 refine hK _ ?_
 clear hK K
 refine pi_t 9 rfl (by kernel_rfl) (by kernel_rfl) (fun _ _ _ _ h=>h) (fun K hK=>?_)
 go_big_quiet_op
 refine hK _ ?_
 clear hK K
 refine pi_end (by kernel_rfl) ?_
 go_wp2
 go_ret2
 rw [HRR.out]
 exact jointEnd HL.out HE4.out hf1 HK5.out HM5.out HX6.out (HV.out _ _)
set_option maxRecDepth 20000 in
set_option maxHeartbeats 8000000 in
theorem APair_win {w:World} {N p m:Nat} {l:List (Nat × Th)} {last:Nat} (h:AgAt w N p m l last) (what:ByteArray) (a b:Int) (ha:I64 a) (hb2:I64 b) {i:Nat} {p' b':Nat} {C:Cfg} {B n:Nat} {sm:Bk} {bk:Nat→Bk} {z2:Nat × Th} (hf1:fnd l a=some (i,.wi p' b' C B n sm bk)) (hf2:fnd l b=some z2) (hw:¬ (what.toList=[105,110,110,101,114])) :
 Calls Tryz.prog 87 #[.pointer (some ⟨p,0,none⟩),.agg #[.string what,.int .i64 a,.int .i64 b]] w (DoPost w N p m l last ((none,3),stOf l last)):=by
 obtain ⟨x2,y2,hv2⟩:=z2.2.v_two
 have hwi:(what.toList == [105,110,110,101,114])=false:=by simpa using hw
 have hpl:=h.ltp
 have hx1:Ext w (w.alloc (.cells #[.string what,.int .i64 a,.int .i64 b] 182)):=Ext.alloc' _ _
 have hlk:=h.look_a hx1 ha hf1
 have hlk2:=fun W2 (hx:Ext (w.alloc (.cells #[.string what,.int .i64 a,.int .i64 b] 182)) W2)=>h.look_a (hx1.trans' hx) hb2 hf2
 unfold Th.v at hlk
 rw [hv2] at hlk2
 have HL:=Lib.hid h
 have hhp:=hx1.keep h.hp
 have hb:=heap_at w (.cells #[.string what,.int .i64 a,.int .i64 b] 182) rfl
 clear h
 go_enter Tryz.func87,Tryz.ntmps87
 go_wp2_with fail
 obtain ⟨W1,hW1⟩:∃ W1,w.alloc (.cells #[.string what,.int .i64 a,.int .i64 b] 182)=W1:=⟨_,rfl⟩
 rw [hW1] at hx1 hlk hlk2 hhp hb ⊢
 clear hW1
 have p0:=(cell_of hhp 0).trans rfl
 have pl1:=lt_of hhp
 have b1:=(cell_of hb 1).trans rfl
 have bl:=lt_of hb
 have HX1:=Lib.hid hx1
 have HB:=Lib.hid hb
 have HP:=Lib.hid hhp
 clear hx1 hhp hb
 have hC0:=af_drew W1
 refine pi_start (fun w'=>∃ x:After W1,w'=x.w) [] (by kernel_rfl) ?_
 refine pi_t 0 rfl (by kernel_rfl) (by kernel_rfl) (fun _ _ _ _ h=>h) (fun K hK=>?_)
 go_big_quiet_op
 refine hK _ ?_
 clear hK K
 refine pi_t 1 rfl (by kernel_rfl) (by kernel_rfl) (fun _ _ _ _ h=>h) (fun K hK=>?_)
 go_big_quiet_op
 refine hK _ ?_
 clear hK K
 refine pi_t 2 rfl (by kernel_rfl) (by kernel_rfl) (fun _ _ _ _ h=>h) (fun K hK=>?_)
 go_big_quiet_op
 refine hK _ ?_
 clear hK K
 refine pi_t 4 rfl (by kernel_rfl) (by kernel_rfl) (fun _ _ _ _ h=>h) (fun K hK=>?_)
 go_big_quiet_op
 refine hK _ ?_
 clear hK K
 refine pi_c 3 (by assumption) rfl (by kernel_rfl) (by kernel_rfl) (fun _ _ _ _ h=>h) (fun K hK=>?_)
 go_big_quiet_op
 refine hK _ ?_
 clear hK K
 refine pi_c 5 (by assumption) rfl (by kernel_rfl) (by kernel_rfl) (fun _ _ _ _ h=>h) (fun K hK=>?_)
 go_big_quiet_op
 refine hK _ ?_
 clear hK K
 refine pi_c 6 (by assumption) rfl (by kernel_rfl) (by kernel_rfl) (fun _ _ _ _ h=>h) (fun K hK=>?_)
 go_big_quiet_op
 refine hK _ ?_
 clear hK K
 refine pi_t 7 rfl (by kernel_rfl) (by kernel_rfl) (fun _ _ _ _ h=>h) (fun K hK=>?_)
 go_big_quiet_op
 refine hK _ ?_
 clear hK K
 refine pi_t 8 rfl (by kernel_rfl) (by kernel_rfl) (fun _ _ _ _ h=>h) (fun K hK=>?_)
 go_big_quiet_op
 refine hK _ ?_
 clear hK K
 refine pi_t 9 rfl (by kernel_rfl) (by kernel_rfl) (fun _ _ _ _ h=>h) (fun K hK=>?_)
 go_big_quiet_op
 refine hK _ ?_
 clear hK K
 refine pi_l 10 rfl (by kernel_rfl) (fun K hK=>?_)
 go_wp2
 refine hK _ _ (fun _ h=>af_step h (Ext.alloc' _ _)) ?_
 clear hK K
 refine pi_l 11 rfl (by kernel_rfl) (fun K hK=>?_)
 go_wp2
 refine hK _ _ (fun _ _=>⟨⟨_,(Ext.alloc' W1 _).drewR⟩,rfl⟩) ?_
 clear hK K
 refine pi_t 12 rfl (by kernel_rfl) (by kernel_rfl) (fun _ _ _ _ h=>h) (fun K hK=>?_)
 go_big_quiet_op
 refine hK _ ?_
 clear hK K
 refine pi_end (by kernel_rfl) ?_
 have hx2:Ext W1 (W1.alloc (.cells #[.pointer none,.pointer (some ⟨p',0,none⟩)] 152)).drew:=(Ext.alloc' W1 _).drewR
 have hb2:(W1.alloc (.cells #[.pointer none,.pointer (some ⟨p',0,none⟩)] 152)).drew.heap[W1.heap.size]?=some (.cells #[.pointer none,.pointer (some ⟨p',0,none⟩)] 152 (0,0)):=heap_at W1 _ rfl
 obtain ⟨W2,hW2⟩:∃ W2,(W1.alloc (.cells #[.pointer none,.pointer (some ⟨p',0,none⟩)] 152)).drew=W2:=⟨_,rfl⟩
 rw [hW2] at hx2 hb2 ⊢
 clear hW2 hC0 hlk
 have hlk:=fun y=>hlk2 W2 hx2 y
 clear hlk2
 have hb':=hx2.keep HB.out
 have hp':=hx2.keep HP.out
 clear b1 bl p0 pl1
 have b0:=(cell_of hb' 0).trans rfl
 have b2:=(cell_of hb' 2).trans rfl
 have bl:=lt_of hb'
 have p0:=(cell_of hp' 0).trans rfl
 have pl1:=lt_of hp'
 have HX2:=Lib.hid (HX1.out.trans' hx2)
 have HB2:=Lib.hid hb2
 have HB':=Lib.hid hb'
 clear hb' hp' hb2 hx2
 go_wp2_with fail
 have hC0:=af_drew W2
 refine pi_start (fun w'=>∃ x:After W2,w'=x.w) [] (by kernel_rfl) ?_
 refine pi_t 0 rfl (by kernel_rfl) (by kernel_rfl) (fun _ _ _ _ h=>h) (fun K hK=>?_)
 go_big_quiet_op
 refine hK _ ?_
 clear hK K
 refine pi_t 1 rfl (by kernel_rfl) (by kernel_rfl) (fun _ _ _ _ h=>h) (fun K hK=>?_)
 go_big_quiet_op
 refine hK _ ?_
 clear hK K
 refine pi_t 2 rfl (by kernel_rfl) (by kernel_rfl) (fun _ _ _ _ h=>h) (fun K hK=>?_)
 go_big_quiet_op
 refine hK _ ?_
 clear hK K
 refine pi_t 4 rfl (by kernel_rfl) (by kernel_rfl) (fun _ _ _ _ h=>h) (fun K hK=>?_)
 go_big_quiet_op
 refine hK _ ?_
 clear hK K
 refine pi_c 3 (by assumption) rfl (by kernel_rfl) (by kernel_rfl) (fun _ _ _ _ h=>h) (fun K hK=>?_)
 go_big_quiet_op
 refine hK _ ?_
 clear hK K
 refine pi_c 5 (by assumption) rfl (by kernel_rfl) (by kernel_rfl) (fun _ _ _ _ h=>h) (fun K hK=>?_)
 go_big_quiet_op
 refine hK _ ?_
 clear hK K
 refine pi_c 6 (by assumption) rfl (by kernel_rfl) (by kernel_rfl) (fun _ _ _ _ h=>h) (fun K hK=>?_)
 go_big_quiet_op
 refine hK _ ?_
 clear hK K
 refine pi_t 7 rfl (by kernel_rfl) (by kernel_rfl) (fun _ _ _ _ h=>h) (fun K hK=>?_)
 go_big_quiet_op
 refine hK _ ?_
 clear hK K
 refine pi_t 8 rfl (by kernel_rfl) (by kernel_rfl) (fun _ _ _ _ h=>h) (fun K hK=>?_)
 go_big_quiet_op
 refine hK _ ?_
 clear hK K
 refine pi_t 9 rfl (by kernel_rfl) (by kernel_rfl) (fun _ _ _ _ h=>h) (fun K hK=>?_)
 go_big_quiet_op
 refine hK _ ?_
 clear hK K
 refine pi_l 10 rfl (by kernel_rfl) (fun K hK=>?_)
 go_wp2
 refine hK _ _ (fun _ h=>af_step h (Ext.alloc' _ _)) ?_
 clear hK K
 refine pi_l 11 rfl (by kernel_rfl) (fun K hK=>?_)
 go_wp2
 refine hK _ _ (fun _ _=>⟨⟨_,(Ext.alloc' W2 _).drewR⟩,rfl⟩) ?_
 clear hK K
 refine pi_t 12 rfl (by kernel_rfl) (by kernel_rfl) (fun _ _ _ _ h=>h) (fun K hK=>?_)
 go_big_quiet_op
 refine hK _ ?_
 clear hK K
 refine pi_end (by kernel_rfl) ?_
 have hx3:Ext W2 (W2.alloc (.cells #[.pointer x2,.pointer y2] 152)).drew:=(Ext.alloc' W2 _).drewR
 have hb3:(W2.alloc (.cells #[.pointer x2,.pointer y2] 152)).drew.heap[W2.heap.size]?=some (.cells #[.pointer x2,.pointer y2] 152 (0,0)):=heap_at W2 _ rfl
 obtain ⟨W3,hW3⟩:∃ W3,(W2.alloc (.cells #[.pointer x2,.pointer y2] 152)).drew=W3:=⟨_,rfl⟩
 rw [hW3] at hx3 hb3 ⊢
 clear hW3 hC0 hlk
 have hb':=hx3.keep HB'.out
 have hb2:=hx3.keep HB2.out
 clear b0 b2 bl p0 pl1
 have b0:=(cell_of hb' 0).trans rfl
 have bl:=lt_of hb'
 have t0:=(cell_of hb2 0).trans rfl
 have t1:=(cell_of hb2 1).trans rfl
 have tl:=lt_of hb2
 have u0:=(cell_of hb3 0).trans rfl
 have u1:=(cell_of hb3 1).trans rfl
 have ul:=lt_of hb3
 have HBB1:=Lib.hid hb2
 have HBB2:=Lib.hid hb3
 have HX3:=Lib.hid (HX2.out.trans' hx3)
 clear hb' hb2 hb3 hx3
 go_wp2
 go_ret2
 exact DoPost.same HL.out HX3.out (r:=none) rfl
end Go.Proofs.YtmalncfcgcebhaaGreatDoor
namespace Go.Proofs.YtmalncfcgcebhaaGreatDoor
set_option linter.unusedVariables false
open Go.Proofs Go.RowKit
def CellSeq (P:Program) (n gf:Nat) (lb:Array Value) (arg:Nat→Value→Prop) (many:Nat) (bx:Nat→Prop) (Bs:Nat) (w:World):Prop :=
 ∀ (l:Nat) (J:Nat→World→Prop) (W:World),(∀ b,bx b→W.heap[b]?=w.heap[b]?)→(∀ k W v,J k W→J k (W.setCell ⟨Bs,0,none⟩ v)) →
   (∀ k x W1,J k W1→k < many→arg k x→YieldAt Fence.wide (n - 1) P l #[x] W1 fun e W'=>e=.returned (.bool true)∧J (k+1) W'∧∀ b,bx b→W'.heap[b]?=W1.heap[b]?) →
   J 0 W→CallsIn Fence.wide n P gf (#[.func (.yield l) #[] #[]]++lb) W fun e W'=>(∃ v,e=.returned v)∧J many W'
theorem cells_not {W:World} {b l:Nat} {cur:Array Value} {t:TypeId} {f:Nat × Nat} {o:Obj} (h:W.heap[b]?=some (.cells cur t f)) (hl:W.heap[l]?=some o) (ho:o.isCells=false):b≠l:=by
 rintro rfl
 rw [h] at hl
 cases hl
 cases ho
theorem put_other (W:World) {b l:Nat} (o:Obj) (h:b≠l):(W.putObj l o).heap[b]?=W.heap[b]?:=World.putObj_heap_other h
theorem wpIn_range_cells {P:Program} {n:Nat} {g:Operand} {p:Tmp} {assign body:Code} {Q:Exit→Act→World→Prop} {a:Act} {w:World} (h1:1≤n) {gf:Nat} {lb:Array Value}
 (hg:a.eval g=.func (.func gf) #[] lb) (eg:∀ args w,(callFunc gf args).run P w=.ok (.enter gf args) w) {arg:Nat→Value→Prop} {many:Nat} {bx:Nat→Prop} {Bs:Nat} (hbx:∀ b,bx b→b < w.heap.size) (hBs:Bs < w.heap.size)
 (hseq:CellSeq P (n - 1) gf lb arg many bx Bs w) (I:Nat→World→Prop) (h0:I 0 w)
 (hI1:∀ k W v,I k W→I k (W.setCell ⟨Bs,0,none⟩ v)) (hI2:∀ k W o,I k W→I k (W.alloc o)) (hI3:∀ k W l o o',I k W→w.heap.size≤l→W.heap[l]?=some o→o.isCells=false→I k (W.putObj l o')) (a₁:Value→Act)
 (hassign:∀ (l:Nat) (x:Value) (W:World) (K:Act→World→Prop),K (a₁ x) W →
  assign.wpIn (Fence.wide.inRound l) (n - 1 - 1) P (Exit.then K (fun _ _ _=>False)) { tmps:=(#[p].zip #[x]).foldl (fun t (p,v)=>t.setIfInBounds p v) a.tmps,defers:=[] } W)
 (hbody:∀ (l k:Nat) (x:Value) (W:World),I k W→k < many→arg k x →
  body.wpIn (Fence.wide.inRound l) (n - 1 - 1) P (fun e a' W'=>e=.normal∧KeepsFrom w.heap.size W W'∧I (k+1) W'∧∀ b,bx b→W'.heap[b]?=W.heap[b]?) (a₁ x) W)
 (hdone:∀ (D:Nat) (W:World),w.heap.size≤D→I many W→W.heap[D]?=some (.deferred (some []))→Q .normal { a with defers:={ target:=.collected D,args:=#[] } :: a.defers } W) :
 (Code.rangeFunc g #[p] assign body).wpIn Fence.wide n P Q a w:=by
 refine wpIn_rangeFunc ?_
 intro fn hfn
 obtain ⟨rec,hrec⟩:∃ rec:LoopState→Option Code→Loop,rec=fun st pe=>{ state:=st,pending:=pe,fn,tmps:=a.tmps,params:=#[p],assign,body,defers:=w.heap.size }:=⟨_,rfl⟩
 obtain ⟨W1,hW1⟩:∃ W1,(w.alloc (.deferred (some []))).alloc (.loop (rec .ready none))=W1:=⟨_,rfl⟩
 have hL1:W1.heap[w.heap.size+1]?=some (.loop (rec .ready none)):=by rw [← hW1]; exact heap_at _ _ (by simp)
 have hK1:W1.heap[w.heap.size]?=some (.deferred (some [])):=by rw [← hW1,heap_old _ _ (by simp)]; exact heap_at _ _ rfl
 refine ⟨w.heap.size+1,[{ target:=.collected w.heap.size,args:=#[] }],W1,{ target:=.fn (.func gf) lb,args:=#[.func (.yield (w.heap.size+1)) #[] #[]] },W1,gf,
  #[.func (.yield (w.heap.size+1)) #[] #[]]++lb,W1, ?_, ?_,fun _ _=>trivial, ?_,fun _=>h1, ?_⟩
 · rw [← hW1,hrec]; exact run_enterLoop_outer _ _ _ _ _
 · simp only [resolve,hg]
   simp [go_sem]
 · simp [invoke,go_sem,eg]
 refine (hseq (w.heap.size+1) (fun k W=>I k W∧W.heap[w.heap.size+1]?=some (.loop (rec .ready none))∧W.heap[w.heap.size]?=some (.deferred (some []))) W1 ?_ ?_ ?_ ⟨?_,hL1,hK1⟩).mono ?_
 · intro b hb
   have:=hbx b hb
   rw [← hW1,heap_old _ _ (by simp; omega),heap_old _ _ this]
 · rintro k W v ⟨h2,h3,h4⟩
   exact ⟨hI1 k W v h2,(setCell_other _ _ (by omega)).trans h3,(setCell_other _ _ (by omega)).trans h4⟩
 · rintro k x W ⟨hi,hl,hk⟩ hlt hx
   have hy:=run_yield (P:=P) (args:=#[x]) hl (by rw [hrec]; rfl)
   rw [hrec] at hy
   refine ⟨fn,_,assign,body,hy,roundIn_of_wpIn hfn (hassign _ x W _ ?_)⟩
   refine ⟨_,run_beginRound hl (by rw [hrec]), ?_⟩
   have hl2:(W.putObj (w.heap.size+1) (.loop { rec .ready none with state:=.busy })).heap[w.heap.size+1]?=some (.loop { rec .ready none with state:=.busy }):=World.putObj_heap_same (lt_of hl)
   have hk2:(W.putObj (w.heap.size+1) (.loop { rec .ready none with state:=.busy })).heap[w.heap.size]?=some (.deferred (some [])):=(put_other _ _ (by omega)).trans hk
   refine wpIn_mono (hbody _ k x _ (hI3 k W _ _ _ hi (by omega) hl rfl) hlt hx) ?_
   rintro e a3 W3 ⟨rfl,hkf,hi3,hb3⟩
   have hl3:=hkf.same _ _ (by omega) hl2 rfl
   have hk3:=hkf.same _ _ (Nat.le_refl _) hk2 rfl
   have hr:=run_endRound (P:=P) none hl3
   refine ⟨_,_,hr,rfl,⟨hI3 _ _ _ _ _ hi3 (by omega) hl3 rfl, ?_,(put_other _ _ (by omega)).trans hk3⟩,fun b hb=>?_⟩
   · rw [hrec]
     rw [hrec] at hl3
     exact World.putObj_heap_same (lt_of hl3)
   · have:=hbx b hb
     exact (put_other _ _ (by omega)).trans ((hb3 b hb).trans (put_other _ _ (by omega)))
 · rw [← hW1]; exact hI2 _ _ _ (hI2 _ _ _ h0)
 · rintro e W2 ⟨⟨v,rfl⟩,hi,hl,hk⟩
   exact ⟨none,_,by have:=run_endLoop (P:=P) hl (by rw [hrec]; simp); rw [hrec] at this; exact this,hdone _ _ (Nat.le_refl _) (hI3 _ _ _ _ _ hi (by omega) hl rfl) ((put_other _ _ (by omega)).trans hk)⟩
end Go.Proofs.YtmalncfcgcebhaaGreatDoor
