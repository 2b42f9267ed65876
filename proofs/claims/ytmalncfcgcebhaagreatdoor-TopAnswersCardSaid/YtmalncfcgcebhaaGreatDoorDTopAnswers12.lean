/- Part. No condition. -/
import Derived.Test.YtmalncfcgcebhaaGreatDoorDTopAnswers8
import Derived.Test.YtmalncfcgcebhaaGreatDoorDTopAnswers11
import Derived.Test.YtmalncfcgcebhaaGreatDoorDTopAnswers4
namespace Go.Proofs.YtmalncfcgcebhaaGreatDoor
set_option linter.unusedVariables false
open Go.Proofs Go.RowKit
instance cfgDec:DecidableEq Cfg:=fun C D =>
 if h:C.bits=D.bits∧C.rows=D.rows∧C.width=D.width∧C.mode=D.mode∧C.seed=D.seed then isTrue (by cases C; cases D; simp_all) else isFalse (by rintro rfl; exact h ⟨rfl,rfl,rfl,rfl,rfl⟩)
def innE (C:Cfg) (l:Nat → List Int) (C2:Cfg) (m:Nat → List Int):Int × Int × Int:=if C=C2 then inV C 0 (l 0) (m 0) else (0,0,5)
def innW (C:Cfg) (l:Nat → List Int) (C2:Cfg) (m:Nat → List Int):Int × Int:=if C=C2 then (if C.mode=1 then (match lvInn C 0 (l 0) (m 0) with | some s=>(s,0) | none=>(0,4)) else (0,3)) else (0,5)
theorem innE_eq (C:Cfg) (l:Nat → List Int) (C2:Cfg) (m:Nat → List Int):innE C l C2 m=(hi (innW C l C2 m).1,lo (innW C l C2 m).1,(innW C l C2 m).2):=by
 unfold innE innW inV
 split
 · split
   · cases lvInn C 0 (l 0) (m 0) <;> rfl
   · rfl
 · rfl
def wideF (x e:Int):Option Rep × Int:=if e=0 then (some (.wide x),0) else (none,e)
def mrgE (C:Cfg) (B:Nat) (l:Nat → List Int) (C2:Cfg) (m:Nat → List Int):Int:=if C=C2 then (if fitK B (fun n=>plusL (l n) (m n))=true then 0 else 4) else 5
def subE (C:Cfg) (B:Nat) (l:Nat → List Int) (C2:Cfg) (m:Nat → List Int):Int:=if C=C2 then (if C.mode=2 then 3 else if fitK B (fun n=>minusL (l n) (m n))=true then 0 else 4) else 5
theorem kat_B {w w2:World} {s g s2 g2:Nat} {C:Cfg} {B B2:Nat} {L L2:Nat → Lev} {l m:Nat → List Int} (h:KAt w s g C B L l) (h2:KAt w2 s2 g2 C B2 L2 m):B2=B:=by
 have h1:=h.hB
 have h3:=h2.hB
 omega
theorem KInnE_c {w:World} {s g o g2:Nat} {C C2:Cfg} {B B2:Nat} {L L2:Nat → Lev} {l m:Nat → List Int} (h:KAt w s g C B L l) (h2:KAt w o g2 C2 B2 L2 m) :
 Calls Tryz.prog 137 #[.pointer (some ⟨s,0,none⟩),.pointer (some ⟨o,0,none⟩)] w fun e w'=>e=.returned (.tuple #[.agg #[.int .i64 (innE C l C2 m).1,.int .u64 (innE C l C2 m).2.1],.int .i64 (innE C l C2 m).2.2])∧Ext w w':=by
 unfold innE
 by_cases e:C=C2
 · subst e
   obtain rfl:=kat_B h h2
   rw [if_pos rfl]
   exact KInnerAny_c h h2
 · rw [if_neg e]
   exact KInner_no s g o g2 C C2 B B2 L L2 l m w h h2 e
theorem KMrgE_c {w:World} {s g o g2:Nat} {C C2:Cfg} {B B2:Nat} {L L2:Nat → Lev} {l m:Nat → List Int} (h:KAt w s g C B L l) (h2:KAt w o g2 C2 B2 L2 m) :
 Calls Tryz.prog 138 #[.pointer (some ⟨s,0,none⟩),.pointer (some ⟨o,0,none⟩)] w fun e w'=>e=.returned (.int .i64 (mrgE C B l C2 m))∧KAt w' s g C B L (bif decide (mrgE C B l C2 m=0) then fun n=>plusL (l n) (m n) else l)∧Mod (cellsOf B L) w w':=by
 unfold mrgE
 by_cases e:C=C2
 · subst e
   obtain rfl:=kat_B h h2
   rw [if_pos rfl]
   refine (KMerge_c s g o g2 C _ L L2 l m w h h2 (fun h=>absurd h (by decide))).mono ?_
   rintro e w' (⟨ha,rfl,hK,hM⟩ | ⟨ha,rfl,hE⟩)
   · rw [if_pos (fitK_iff.2 ha)]
     exact ⟨rfl,hK,hM⟩
   · rw [if_neg (fun h=>ha (fitK_iff.1 h))]
     exact ⟨rfl,KAt.ext h hE,hE.mod _⟩
 · rw [if_neg e]
   refine (KMerge_no s g o g2 C C2 B B2 L L2 l m w h h2 e).mono ?_
   rintro e w' ⟨rfl,hE⟩
   exact ⟨rfl,KAt.ext h hE,hE.mod _⟩
theorem KSubE_c {w:World} {s g o g2:Nat} {C C2:Cfg} {B B2:Nat} {L L2:Nat → Lev} {l m:Nat → List Int} (h:KAt w s g C B L l) (h2:KAt w o g2 C2 B2 L2 m) :
 Calls Tryz.prog 139 #[.pointer (some ⟨s,0,none⟩),.pointer (some ⟨o,0,none⟩)] w fun e w'=>e=.returned (.int .i64 (subE C B l C2 m))∧KAt w' s g C B L (bif decide (subE C B l C2 m=0) then fun n=>minusL (l n) (m n) else l)∧Mod (cellsOf B L) w w':=by
 unfold subE
 by_cases e:C=C2
 · subst e
   obtain rfl:=kat_B h h2
   rw [if_pos rfl]
   by_cases hmd:C.mode=2
   · rw [if_pos hmd]
     refine (KSubtract_mode s g o g2 C _ L L2 l m w h h2 hmd).mono ?_
     rintro e w' ⟨rfl,hE⟩
     exact ⟨rfl,KAt.ext h hE,hE.mod _⟩
   · rw [if_neg hmd]
     refine (KSubtract_c s g o g2 C _ L L2 l m w h h2 (fun _=>hmd)).mono ?_
     rintro e w' (⟨ha,rfl,hK,hM⟩ | ⟨ha,rfl,hE⟩)
     · rw [if_pos (fitK_iff.2 ha)]
       exact ⟨rfl,hK,hM⟩
     · rw [if_neg (fun h=>ha (fitK_iff.1 h))]
       exact ⟨rfl,KAt.ext h hE,hE.mod _⟩
 · rw [if_neg e]
   refine (KSubtract_no s g o g2 C C2 B B2 L L2 l m w h h2 e).mono ?_
   rintro e w' ⟨rfl,hE⟩
   exact ⟨rfl,KAt.ext h hE,hE.mod _⟩
theorem jointEnd {w w2 w3 w4:World} {N p m:Nat} {l:List (Nat × Th)} {last:Nat} (h:AgAt w N p m l last) (hx:Ext w w2) {k:Int} {i:Nat} {bk:Bk} {C:Cfg} {B:Nat} (hf:fnd l k=some (i,.st bk C B)) {er:Int} {ms:Nat → List Int}
 (hK:KAt w3 bk.s bk.g C B bk.L (bif decide (er=0) then ms else bk.ls)) (hM:Mod (cellsOf B bk.L) w2 w3) (hx4:Ext w3 w4) {v:Value} (hv:RepOAt w.heap.size w4 v (doneF er).1) :
 DoPost w N p m l last (doneF er,if er=0 then ⟨setL (stOf l last).l i (.st C B ms),last⟩ else stOf l last) (.returned (.tuple #[v,.int .i64 (doneF er).2])) w4:=by
 by_cases h0:er=0
 · subst h0
   rw [if_pos rfl]
   exact DoPost.upd (T:=.st ⟨bk.s,bk.g,bk.L,ms⟩ C B) h hx hf rfl (KAt.ext hK hx4) (hM.extR hx4) (fun j hj=>.inl hj) hv
 · rw [if_neg h0]
   rw [decide_eq_false h0] at hK
   obtain ⟨a,b,hl⟩:=fnd_split hf
   subst hl
   have hA:=(h.ext hx).chg (T:=.st bk C B) rfl (KAt.ext hK hx4) (hM.extR hx4) (fun j hj=>.inl hj)
   exact ⟨⟨v,_,last,rfl,hv,hA,rfl,fun j hj=>.inl hj⟩,(hx.mod _).trans ((hM.extR hx4).mono fun j hj _=>.inr (.inr ⟨(i,.st bk C B),by simp,hj⟩))⟩
set_option maxRecDepth 20000 in
set_option maxHeartbeats 8000000 in
theorem APair_no {w:World} {N p m:Nat} {l:List (Nat × Th)} {last:Nat} (h:AgAt w N p m l last) (what:ByteArray) (a b:Int) (ha:I64 a) (hb2:I64 b) {x1 y1 x2 y2:Option Addr} {k1 k2:Bool}
 (h1:∀ W1,Ext w W1 → ∀ y:After W1,(Instr.lookup 142 (.map (some m)) (.int .i64 a) true).run Tryz.prog y.w=.ok (.tuple #[.agg #[.pointer x1,.pointer y1],.bool k1]) y.w)
 (h2:∀ W1,Ext w W1 → ∀ y:After W1,(Instr.lookup 142 (.map (some m)) (.int .i64 b) true).run Tryz.prog y.w=.ok (.tuple #[.agg #[.pointer x2,.pointer y2],.bool k2]) y.w) (hk:k1=false ∨ k2=false) :
 Calls Tryz.prog 87 #[.pointer (some ⟨p,0,none⟩),.agg #[.string what,.int .i64 a,.int .i64 b]] w (DoPost w N p m l last ((none,10),stOf l last)):=by
 have hpl:=h.ltp
 have hx1:Ext w (w.alloc (.cells #[.string what,.int .i64 a,.int .i64 b] 182)):=Ext.alloc' _ _
 have hlk:=h1 _ hx1
 have hlk2:=fun W2 (hx:Ext (w.alloc (.cells #[.string what,.int .i64 a,.int .i64 b] 182)) W2)=>h2 W2 (hx1.trans' hx)
 have HL:=Lib.hid h
 have hhp:=hx1.keep h.hp
 have hb:=heap_at w (.cells #[.string what,.int .i64 a,.int .i64 b] 182) rfl
 clear h
 go_enter Tryz.func87,Tryz.ntmps87
 go_wp2_with fail
 obtain ⟨W1,hW1⟩:∃ W1,w.alloc (.cells #[.string what,.int .i64 a,.int .i64 b] 182)=W1:=⟨_,rfl⟩
 rw [hW1] at hx1 hlk hlk2 hhp hb ⊢
 clear hW1
 have p0:=(cell_of hhp 0).trans rfl
 have pl1:=lt_of hhp
 have b1:=(cell_of hb 1).trans rfl
 have bl:=lt_of hb
 have HX1:=Lib.hid hx1
 have HB:=Lib.hid hb
 have HP:=Lib.hid hhp
 clear hx1 hhp hb
 have hC0:=af_drew W1
 refine pi_start (fun w'=>∃ x:After W1,w'=x.w) [] (by kernel_rfl) ?_
 refine pi_t 0 rfl (by kernel_rfl) (by kernel_rfl) (fun _ _ _ _ h=>h) (fun K hK=>?_)
 go_big_quiet_op
 refine hK _ ?_
 clear hK K
 refine pi_t 1 rfl (by kernel_rfl) (by kernel_rfl) (fun _ _ _ _ h=>h) (fun K hK=>?_)
 go_big_quiet_op
 refine hK _ ?_
 clear hK K
 refine pi_t 2 rfl (by kernel_rfl) (by kernel_rfl) (fun _ _ _ _ h=>h) (fun K hK=>?_)
 go_big_quiet_op
 refine hK _ ?_
 clear hK K
 refine pi_t 4 rfl (by kernel_rfl) (by kernel_rfl) (fun _ _ _ _ h=>h) (fun K hK=>?_)
 go_big_quiet_op
 refine hK _ ?_
 clear hK K
 refine pi_c 3 (by assumption) rfl (by kernel_rfl) (by kernel_rfl) (fun _ _ _ _ h=>h) (fun K hK=>?_)
 go_big_quiet_op
 refine hK _ ?_
 clear hK K
 refine pi_c 5 (by assumption) rfl (by kernel_rfl) (by kernel_rfl) (fun _ _ _ _ h=>h) (fun K hK=>?_)
 go_big_quiet_op
 refine hK _ ?_
 clear hK K
 refine pi_c 6 (by assumption) rfl (by kernel_rfl) (by kernel_rfl) (fun _ _ _ _ h=>h) (fun K hK=>?_)
 go_big_quiet_op
 refine hK _ ?_
 clear hK K
 refine pi_t 7 rfl (by kernel_rfl) (by kernel_rfl) (fun _ _ _ _ h=>h) (fun K hK=>?_)
 go_big_quiet_op
 refine hK _ ?_
 clear hK K
 refine pi_t 8 rfl (by kernel_rfl) (by kernel_rfl) (fun _ _ _ _ h=>h) (fun K hK=>?_)
 go_big_quiet_op
 refine hK _ ?_
 clear hK K
 refine pi_t 9 rfl (by kernel_rfl) (by kernel_rfl) (fun _ _ _ _ h=>h) (fun K hK=>?_)
 go_big_quiet_op
 refine hK _ ?_
 clear hK K
 refine pi_l 10 rfl (by kernel_rfl) (fun K hK=>?_)
 go_wp2
 refine hK _ _ (fun _ h=>af_step h (Ext.alloc' _ _)) ?_
 clear hK K
 refine pi_l 11 rfl (by kernel_rfl) (fun K hK=>?_)
 go_wp2
 refine hK _ _ (fun _ _=>⟨⟨_,(Ext.alloc' W1 _).drewR⟩,rfl⟩) ?_
 clear hK K
 refine pi_t 12 rfl (by kernel_rfl) (by kernel_rfl) (fun _ _ _ _ h=>h) (fun K hK=>?_)
 go_big_quiet_op
 refine hK _ ?_
 clear hK K
 refine pi_end (by kernel_rfl) ?_
 have hx2:Ext W1 (W1.alloc (.cells #[.pointer x1,.pointer y1] 152)).drew:=(Ext.alloc' W1 _).drewR
 have hb2:(W1.alloc (.cells #[.pointer x1,.pointer y1] 152)).drew.heap[W1.heap.size]?=some (.cells #[.pointer x1,.pointer y1] 152 (0,0)):=heap_at W1 _ rfl
 obtain ⟨W2,hW2⟩:∃ W2,(W1.alloc (.cells #[.pointer x1,.pointer y1] 152)).drew=W2:=⟨_,rfl⟩
 rw [hW2] at hx2 hb2 ⊢
 clear hW2 hC0 hlk
 have hlk:=fun y=>hlk2 W2 hx2 y
 clear hlk2
 have hb':=hx2.keep HB.out
 have hp':=hx2.keep HP.out
 clear b1 bl p0 pl1
 have b0:=(cell_of hb' 0).trans rfl
 have b2:=(cell_of hb' 2).trans rfl
 have bl:=lt_of hb'
 have p0:=(cell_of hp' 0).trans rfl
 have pl1:=lt_of hp'
 have HX2:=Lib.hid (HX1.out.trans' hx2)
 have HB2:=Lib.hid hb2
 have HB':=Lib.hid hb'
 clear hb' hp' hb2 hx2
 go_wp2_with fail
 have hC0:=af_drew W2
 refine pi_start (fun w'=>∃ x:After W2,w'=x.w) [] (by kernel_rfl) ?_
 refine pi_t 0 rfl (by kernel_rfl) (by kernel_rfl) (fun _ _ _ _ h=>h) (fun K hK=>?_)
 go_big_quiet_op
 refine hK _ ?_
 clear hK K
 refine pi_t 1 rfl (by kernel_rfl) (by kernel_rfl) (fun _ _ _ _ h=>h) (fun K hK=>?_)
 go_big_quiet_op
 refine hK _ ?_
 clear hK K
 refine pi_t 2 rfl (by kernel_rfl) (by kernel_rfl) (fun _ _ _ _ h=>h) (fun K hK=>?_)
 go_big_quiet_op
 refine hK _ ?_
 clear hK K
 refine pi_t 4 rfl (by kernel_rfl) (by kernel_rfl) (fun _ _ _ _ h=>h) (fun K hK=>?_)
 go_big_quiet_op
 refine hK _ ?_
 clear hK K
 refine pi_c 3 (by assumption) rfl (by kernel_rfl) (by kernel_rfl) (fun _ _ _ _ h=>h) (fun K hK=>?_)
 go_big_quiet_op
 refine hK _ ?_
 clear hK K
 refine pi_c 5 (by assumption) rfl (by kernel_rfl) (by kernel_rfl) (fun _ _ _ _ h=>h) (fun K hK=>?_)
 go_big_quiet_op
 refine hK _ ?_
 clear hK K
 refine pi_c 6 (by assumption) rfl (by kernel_rfl) (by kernel_rfl) (fun _ _ _ _ h=>h) (fun K hK=>?_)
 go_big_quiet_op
 refine hK _ ?_
 clear hK K
 refine pi_t 7 rfl (by kernel_rfl) (by kernel_rfl) (fun _ _ _ _ h=>h) (fun K hK=>?_)
 go_big_quiet_op
 refine hK _ ?_
 clear hK K
 refine pi_t 8 rfl (by kernel_rfl) (by kernel_rfl) (fun _ _ _ _ h=>h) (fun K hK=>?_)
 go_big_quiet_op
 refine hK _ ?_
 clear hK K
 refine pi_t 9 rfl (by kernel_rfl) (by kernel_rfl) (fun _ _ _ _ h=>h) (fun K hK=>?_)
 go_big_quiet_op
 refine hK _ ?_
 clear hK K
 refine pi_l 10 rfl (by kernel_rfl) (fun K hK=>?_)
 go_wp2
 refine hK _ _ (fun _ h=>af_step h (Ext.alloc' _ _)) ?_
 clear hK K
 refine pi_l 11 rfl (by kernel_rfl) (fun K hK=>?_)
 go_wp2
 refine hK _ _ (fun _ _=>⟨⟨_,(Ext.alloc' W2 _).drewR⟩,rfl⟩) ?_
 clear hK K
 refine pi_t 12 rfl (by kernel_rfl) (by kernel_rfl) (fun _ _ _ _ h=>h) (fun K hK=>?_)
 go_big_quiet_op
 refine hK _ ?_
 clear hK K
 refine pi_end (by kernel_rfl) ?_
 have hx3:Ext W2 (W2.alloc (.cells #[.pointer x2,.pointer y2] 152)).drew:=(Ext.alloc' W2 _).drewR
 have hb3:(W2.alloc (.cells #[.pointer x2,.pointer y2] 152)).drew.heap[W2.heap.size]?=some (.cells #[.pointer x2,.pointer y2] 152 (0,0)):=heap_at W2 _ rfl
 obtain ⟨W3,hW3⟩:∃ W3,(W2.alloc (.cells #[.pointer x2,.pointer y2] 152)).drew=W3:=⟨_,rfl⟩
 rw [hW3] at hx3 hb3 ⊢
 clear hW3 hC0 hlk
 have hb':=hx3.keep HB'.out
 have hb2:=hx3.keep HB2.out
 clear b0 b2 bl p0 pl1
 have b0:=(cell_of hb' 0).trans rfl
 have bl:=lt_of hb'
 have t0:=(cell_of hb2 0).trans rfl
 have t1:=(cell_of hb2 1).trans rfl
 have tl:=lt_of hb2
 have u0:=(cell_of hb3 0).trans rfl
 have u1:=(cell_of hb3 1).trans rfl
 have ul:=lt_of hb3
 have HBB1:=Lib.hid hb2
 have HBB2:=Lib.hid hb3
 have HX3:=Lib.hid (HX2.out.trans' hx3)
 clear hb' hb2 hb3 hx3
 rcases hk with rfl | rfl
 · go_wp2
   go_ret2
   exact DoPost.same HL.out HX3.out (r:=none) rfl
 · cases k1
   · go_wp2
     go_ret2
     exact DoPost.same HL.out HX3.out (r:=none) rfl
   · go_wp2
     go_ret2
     exact DoPost.same HL.out HX3.out (r:=none) rfl
set_option maxRecDepth 20000 in
set_option maxHeartbeats 16000000 in
theorem APair_inner {w:World} {N p m:Nat} {l:List (Nat × Th)} {last:Nat} (h:AgAt w N p m l last) (a b:Int) (ha:I64 a) (hb2:I64 b) {z1 z2:Nat × Th} (hf1:fnd l a=some z1) (hf2:fnd l b=some z2) :
 Calls Tryz.prog 87 #[.pointer (some ⟨p,0,none⟩),.agg #[.string ⟨#[105,110,110,101,114]⟩,.int .i64 a,.int .i64 b]] w (DoPost w N p m l last (wideF (innW z1.2.C z1.2.ls z2.2.C z2.2.ls).1 (innW z1.2.C z1.2.ls z2.2.C z2.2.ls).2,stOf l last)):=by
 obtain ⟨x1,y1,hv1⟩:=z1.2.v_two
 obtain ⟨x2,y2,hv2⟩:=z2.2.v_two
 have HS1:=fun w' (hw:Ext w w')=>Lib.hid (AStack_c z1.2 w' ((h.th z1 (fnd_mem hf1).1).ext hw))
 have HS2:=fun w' (hw:Ext w w')=>Lib.hid (AStack_c z2.2 w' ((h.th z2 (fnd_mem hf2).1).ext hw))
 rw [hv1] at HS1
 rw [hv2] at HS2
 have hpl:=h.ltp
 have hx1:Ext w (w.alloc (.cells #[.string ⟨#[105,110,110,101,114]⟩,.int .i64 a,.int .i64 b] 182)):=Ext.alloc' _ _
 have hlk:=h.look_a hx1 ha hf1
 have hlk2:=fun W2 (hx:Ext (w.alloc (.cells #[.string ⟨#[105,110,110,101,114]⟩,.int .i64 a,.int .i64 b] 182)) W2)=>h.look_a (hx1.trans' hx) hb2 hf2
 rw [hv1] at hlk
 rw [hv2] at hlk2
 have HL:=Lib.hid h
 have hhp:=hx1.keep h.hp
 have hb:=heap_at w (.cells #[.string ⟨#[105,110,110,101,114]⟩,.int .i64 a,.int .i64 b] 182) rfl
 clear h
 go_enter Tryz.func87,Tryz.ntmps87
 go_wp2_with fail
 obtain ⟨W1,hW1⟩:∃ W1,w.alloc (.cells #[.string ⟨#[105,110,110,101,114]⟩,.int .i64 a,.int .i64 b] 182)=W1:=⟨_,rfl⟩
 rw [hW1] at hx1 hlk hlk2 hhp hb ⊢
 clear hW1
 have p0:=(cell_of hhp 0).trans rfl
 have pl1:=lt_of hhp
 have b1:=(cell_of hb 1).trans rfl
 have bl:=lt_of hb
 have HX1:=Lib.hid hx1
 have HB:=Lib.hid hb
 have HP:=Lib.hid hhp
 clear hx1 hhp hb
 have hC0:=af_drew W1
 refine pi_start (fun w'=>∃ x:After W1,w'=x.w) [] (by kernel_rfl) ?_
 refine pi_t 0 rfl (by kernel_rfl) (by kernel_rfl) (fun _ _ _ _ h=>h) (fun K hK=>?_)
 go_big_quiet_op
 refine hK _ ?_
 clear hK K
 refine pi_t 1 rfl (by kernel_rfl) (by kernel_rfl) (fun _ _ _ _ h=>h) (fun K hK=>?_)
 go_big_quiet_op
 refine hK _ ?_
 clear hK K
 refine pi_t 2 rfl (by kernel_rfl) (by kernel_rfl) (fun _ _ _ _ h=>h) (fun K hK=>?_)
 go_big_quiet_op
 refine hK _ ?_
 clear hK K
 refine pi_t 4 rfl (by kernel_rfl) (by kernel_rfl) (fun _ _ _ _ h=>h) (fun K hK=>?_)
 go_big_quiet_op
 refine hK _ ?_
 clear hK K
 refine pi_c 3 (by assumption) rfl (by kernel_rfl) (by kernel_rfl) (fun _ _ _ _ h=>h) (fun K hK=>?_)
 go_big_quiet_op
 refine hK _ ?_
 clear hK K
 refine pi_c 5 (by assumption) rfl (by kernel_rfl) (by kernel_rfl) (fun _ _ _ _ h=>h) (fun K hK=>?_)
 go_big_quiet_op
 refine hK _ ?_
 clear hK K
 refine pi_c 6 (by assumption) rfl (by kernel_rfl) (by kernel_rfl) (fun _ _ _ _ h=>h) (fun K hK=>?_)
 go_big_quiet_op
 refine hK _ ?_
 clear hK K
 refine pi_t 7 rfl (by kernel_rfl) (by kernel_rfl) (fun _ _ _ _ h=>h) (fun K hK=>?_)
 go_big_quiet_op
 refine hK _ ?_
 clear hK K
 refine pi_t 8 rfl (by kernel_rfl) (by kernel_rfl) (fun _ _ _ _ h=>h) (fun K hK=>?_)
 go_big_quiet_op
 refine hK _ ?_
 clear hK K
 refine pi_t 9 rfl (by kernel_rfl) (by kernel_rfl) (fun _ _ _ _ h=>h) (fun K hK=>?_)
 go_big_quiet_op
 refine hK _ ?_
 clear hK K
 refine pi_l 10 rfl (by kernel_rfl) (fun K hK=>?_)
 go_wp2
 refine hK _ _ (fun _ h=>af_step h (Ext.alloc' _ _)) ?_
 clear hK K
 refine pi_l 11 rfl (by kernel_rfl) (fun K hK=>?_)
 go_wp2
 refine hK _ _ (fun _ _=>⟨⟨_,(Ext.alloc' W1 _).drewR⟩,rfl⟩) ?_
 clear hK K
 refine pi_t 12 rfl (by kernel_rfl) (by kernel_rfl) (fun _ _ _ _ h=>h) (fun K hK=>?_)
 go_big_quiet_op
 refine hK _ ?_
 clear hK K
 refine pi_end (by kernel_rfl) ?_
 have hx2:Ext W1 (W1.alloc (.cells #[.pointer x1,.pointer y1] 152)).drew:=(Ext.alloc' W1 _).drewR
 have hb2:(W1.alloc (.cells #[.pointer x1,.pointer y1] 152)).drew.heap[W1.heap.size]?=some (.cells #[.pointer x1,.pointer y1] 152 (0,0)):=heap_at W1 _ rfl
 obtain ⟨W2,hW2⟩:∃ W2,(W1.alloc (.cells #[.pointer x1,.pointer y1] 152)).drew=W2:=⟨_,rfl⟩
 rw [hW2] at hx2 hb2 ⊢
 clear hW2 hC0 hlk
 have hlk:=fun y=>hlk2 W2 hx2 y
 clear hlk2
 have hb':=hx2.keep HB.out
 have hp':=hx2.keep HP.out
 clear b1 bl p0 pl1
 have b0:=(cell_of hb' 0).trans rfl
 have b2:=(cell_of hb' 2).trans rfl
 have bl:=lt_of hb'
 have p0:=(cell_of hp' 0).trans rfl
 have pl1:=lt_of hp'
 have HX2:=Lib.hid (HX1.out.trans' hx2)
 have HB2:=Lib.hid hb2
 have HB':=Lib.hid hb'
 clear hb' hp' hb2 hx2
 go_wp2_with fail
 have hC0:=af_drew W2
 refine pi_start (fun w'=>∃ x:After W2,w'=x.w) [] (by kernel_rfl) ?_
 refine pi_t 0 rfl (by kernel_rfl) (by kernel_rfl) (fun _ _ _ _ h=>h) (fun K hK=>?_)
 go_big_quiet_op
 refine hK _ ?_
 clear hK K
 refine pi_t 1 rfl (by kernel_rfl) (by kernel_rfl) (fun _ _ _ _ h=>h) (fun K hK=>?_)
 go_big_quiet_op
 refine hK _ ?_
 clear hK K
 refine pi_t 2 rfl (by kernel_rfl) (by kernel_rfl) (fun _ _ _ _ h=>h) (fun K hK=>?_)
 go_big_quiet_op
 refine hK _ ?_
 clear hK K
 refine pi_t 4 rfl (by kernel_rfl) (by kernel_rfl) (fun _ _ _ _ h=>h) (fun K hK=>?_)
 go_big_quiet_op
 refine hK _ ?_
 clear hK K
 refine pi_c 3 (by assumption) rfl (by kernel_rfl) (by kernel_rfl) (fun _ _ _ _ h=>h) (fun K hK=>?_)
 go_big_quiet_op
 refine hK _ ?_
 clear hK K
 refine pi_c 5 (by assumption) rfl (by kernel_rfl) (by kernel_rfl) (fun _ _ _ _ h=>h) (fun K hK=>?_)
 go_big_quiet_op
 refine hK _ ?_
 clear hK K
 refine pi_c 6 (by assumption) rfl (by kernel_rfl) (by kernel_rfl) (fun _ _ _ _ h=>h) (fun K hK=>?_)
 go_big_quiet_op
 refine hK _ ?_
 clear hK K
 refine pi_t 7 rfl (by kernel_rfl) (by kernel_rfl) (fun _ _ _ _ h=>h) (fun K hK=>?_)
 go_big_quiet_op
 refine hK _ ?_
 clear hK K
 refine pi_t 8 rfl (by kernel_rfl) (by kernel_rfl) (fun _ _ _ _ h=>h) (fun K hK=>?_)
 go_big_quiet_op
 refine hK _ ?_
 clear hK K
 refine pi_t 9 rfl (by kernel_rfl) (by kernel_rfl) (fun _ _ _ _ h=>h) (fun K hK=>?_)
 go_big_quiet_op
 refine hK _ ?_
 clear hK K
 refine pi_l 10 rfl (by kernel_rfl) (fun K hK=>?_)
 go_wp2
 refine hK _ _ (fun _ h=>af_step h (Ext.alloc' _ _)) ?_
 clear hK K
 refine pi_l 11 rfl (by kernel_rfl) (fun K hK=>?_)
 go_wp2
 refine hK _ _ (fun _ _=>⟨⟨_,(Ext.alloc' W2 _).drewR⟩,rfl⟩) ?_
 clear hK K
 refine pi_t 12 rfl (by kernel_rfl) (by kernel_rfl) (fun _ _ _ _ h=>h) (fun K hK=>?_)
 go_big_quiet_op
 refine hK _ ?_
 clear hK K
 refine pi_end (by kernel_rfl) ?_
 have hx3:Ext W2 (W2.alloc (.cells #[.pointer x2,.pointer y2] 152)).drew:=(Ext.alloc' W2 _).drewR
 have hb3:(W2.alloc (.cells #[.pointer x2,.pointer y2] 152)).drew.heap[W2.heap.size]?=some (.cells #[.pointer x2,.pointer y2] 152 (0,0)):=heap_at W2 _ rfl
 obtain ⟨W3,hW3⟩:∃ W3,(W2.alloc (.cells #[.pointer x2,.pointer y2] 152)).drew=W3:=⟨_,rfl⟩
 rw [hW3] at hx3 hb3 ⊢
 clear hW3 hC0 hlk
 have hb':=hx3.keep HB'.out
 have hb2:=hx3.keep HB2.out
 clear b0 b2 bl p0 pl1
 have b0:=(cell_of hb' 0).trans rfl
 have bl:=lt_of hb'
 have t0:=(cell_of hb2 0).trans rfl
 have t1:=(cell_of hb2 1).trans rfl
 have tl:=lt_of hb2
 have u0:=(cell_of hb3 0).trans rfl
 have u1:=(cell_of hb3 1).trans rfl
 have ul:=lt_of hb3
 have HBB1:=Lib.hid hb2
 have HBB2:=Lib.hid hb3
 have HX3:=Lib.hid (HX2.out.trans' hx3)
 clear hb' hb2 hb3 hx3
 go_wp2_with fail
 have HE:=Lib.hid (show Ext W3 W3.drew from Below.drew (Ext.refl W3))
 have hC0:=af_drew W3
 refine pi_start (fun w'=>∃ x:After W3,w'=x.w) [] (by kernel_rfl) ?_
 refine pi_c 0 (by assumption) rfl (by kernel_rfl) (by kernel_rfl) (fun _ _ _ _ h=>h) (fun K hK=>?_)
 go_big_quiet_op
 refine hK _ ?_
 clear hK K
 refine pi_c 2 (by assumption) rfl (by kernel_rfl) (by kernel_rfl) (fun _ _ _ _ h=>h) (fun K hK=>?_)
 go_big_quiet_op
 refine hK _ ?_
 clear hK K
 refine pi_b 1 8 rfl rfl (by kernel_rfl) (fun K hK=>?_) (fun K hK=>?_)
 · go_wp2_with fail
   refine Calls.mono (HS1 _ (HX3.out.trans' HE.out)).out ?_
   rintro e w4 ⟨s1,g1,L1,rfl,hK1,hx1⟩
   have HK1:=Lib.hid hK1
   replace HE:=Lib.hid (HE.out.trans' hx1)
   go_wp2
   refine hK _ _ (fun _ h=>af_step h hx1) ?_
   clear hK K hx1 hK1
   refine pi_b 3 8 rfl rfl (by kernel_rfl) (fun K hK=>?_) (fun K hK=>?_)
   · go_wp2_with fail
     refine Calls.mono (HS2 _ (HX3.out.trans' HE.out)).out ?_
     rintro e w5 ⟨s2,g2,L2,rfl,hK2,hx2⟩
     have HK2:=Lib.hid hK2
     replace HE:=Lib.hid (HE.out.trans' hx2)
     replace HK1:=Lib.hid (KAt.ext HK1.out hx2)
     go_wp2
     refine hK _ _ (fun _ h=>af_step h hx2) ?_
     clear hK K hx2 hK2
     refine pi_b 4 8 rfl rfl (by kernel_rfl) (fun K hK=>?_) (fun K hK=>?_)
     · have HIN:=KInnE_c HK1.out HK2.out
       rw [innE_eq] at HIN
       generalize hR:innW z1.2.C z1.2.ls z2.2.C z2.2.ls=R at *
       obtain ⟨xs,er⟩:=R
       dsimp only at HIN
       replace HIN:=Lib.hid HIN
       have HR:=Lib.hid hR
       clear hR
       go_wp2_with fail
       refine Calls.mono HIN.out ?_
       rintro e w6 ⟨rfl,hx3⟩
       replace HE:=Lib.hid (HE.out.trans' hx3)
       clear HIN
       replace HK1:=Lib.hid (KAt.ext HK1.out hx3)
       replace HK2:=Lib.hid (KAt.ext HK2.out hx3)
       go_wp2
       refine hK _ _ (fun _ h=>af_step h hx3) ?_
       clear hK K hx3
       refine pi_t 5 rfl (by kernel_rfl) (by kernel_rfl) (fun _ _ _ _ h=>h) (fun K hK=>?_)
       go_big_quiet_op
       refine hK _ ?_
       clear hK K
       refine pi_t 6 rfl (by kernel_rfl) (by kernel_rfl) (fun _ _ _ _ h=>h) (fun K hK=>?_)
       go_big_quiet_op
       refine hK _ ?_
       clear hK K
       refine pi_t 7 rfl (by kernel_rfl) (by kernel_rfl) (fun _ _ _ _ h=>h) (fun K hK=>?_)
       go_big_quiet_op
       refine hK _ ?_
       clear hK K
       refine pi_l 8 rfl (by kernel_rfl) (fun K hK=>?_)
       go_wp2
       refine hK _ _ (fun _ h=>af_step h (Ext.alloc' _ _)) ?_
       clear hK K
       have hbx:=heap_at w6 (.cells #[.int .i64 0,.int .u64 0] 194) rfl
       have hbs:=HE.out.size
       replace HE:=Lib.hid (HE.out.trans' (Ext.alloc' w6 (.cells #[.int .i64 0,.int .u64 0] 194)))
       replace HK1:=Lib.hid (KAt.ext HK1.out (Ext.alloc' w6 (.cells #[.int .i64 0,.int .u64 0] 194)))
       replace HK2:=Lib.hid (KAt.ext HK2.out (Ext.alloc' w6 (.cells #[.int .i64 0,.int .u64 0] 194)))
       obtain ⟨wa,hwa⟩:∃ wa,w6.alloc (.cells #[.int .i64 0,.int .u64 0] 194)=wa:=⟨_,rfl⟩
       rw [hwa] at hbx HE HK1 HK2 ⊢
       clear hwa
       generalize hbn:w6.heap.size=bn at hbx hbs ⊢
       have p0:=(cell_of hbx 0).trans rfl
       have p1:=(cell_of hbx 1).trans rfl
       have f0:=frozen_of hbx 0
       have f1:=frozen_of hbx 1
       refine pi_l 9 rfl (by kernel_rfl) (fun K hK=>?_)
       go_wp2
       have hEF:=(HE.out.setR (p:=⟨bn,0,none⟩) hbs (.int .i64 (hi xs))).setR (p:=⟨bn,1,none⟩) hbs (.int .u64 (lo xs))
       refine hK _ _ (fun _ _=>⟨⟨_,hEF⟩,rfl⟩) ?_
       clear hK K
       refine pi_t 10 rfl (by kernel_rfl) (by kernel_rfl) (fun _ _ _ _ h=>h) (fun K hK=>?_)
       go_big_quiet_op
       refine hK _ ?_
       clear hK K
       refine pi_end (by kernel_rfl) ?_
       have hbF:=set2 hbx (.int .i64 (hi xs)) (.int .u64 (lo xs))
       obtain ⟨WF,hWF⟩:∃ WF,(wa.setCell ⟨bn,0,none⟩ (.int .i64 (hi xs))).setCell ⟨bn,1,none⟩ (.int .u64 (lo xs))=WF:=⟨_,rfl⟩
       rw [hWF] at hEF hbF ⊢
       clear hWF p0 p1 f0 f1
       have q0:=(cell_of hbF 0).trans rfl
       have q1:=(cell_of hbF 1).trans rfl
       have ql:=lt_of hbF
       have HF:=Lib.hid (HX3.out.trans' hEF)
       clear hEF hbF hbx t0 t1 tl u0 u1 ul b0 bl
       by_cases h0:er=0
       · subst h0
         go_wp2
         go_ret2
         exact DoPost.same HL.out HF.out (r:=some (.wide xs)) rfl
       · have hn:(er != 0)=true:=by simpa using h0
         have HW:Hid (wideF xs er=(none,er)):=Lib.hid (by unfold wideF; rw [if_neg h0])
         go_wp2
         go_ret2
         rw [HW.out]
         exact DoPost.same HL.out HF.out (r:=none) rfl
     · go_wp2
       refine hK _ _ (fun _ h=>af_step h (Ext.alloc' _ _)) ?_
       clear hK K
       have hbx:=heap_at w5 (.cells #[.int .i64 0,.int .u64 0] 194) rfl
       have hbs:=HE.out.size
       replace HE:=Lib.hid (HE.out.trans' (Ext.alloc' w5 (.cells #[.int .i64 0,.int .u64 0] 194)))
       replace HK1:=Lib.hid (KAt.ext HK1.out (Ext.alloc' w5 (.cells #[.int .i64 0,.int .u64 0] 194)))
       replace HK2:=Lib.hid (KAt.ext HK2.out (Ext.alloc' w5 (.cells #[.int .i64 0,.int .u64 0] 194)))
       obtain ⟨wa,hwa⟩:∃ wa,w5.alloc (.cells #[.int .i64 0,.int .u64 0] 194)=wa:=⟨_,rfl⟩
       rw [hwa] at hbx HE HK1 HK2 ⊢
       clear hwa
       generalize hbn:w5.heap.size=bn at hbx hbs ⊢
       refine pi_l 4 rfl (by kernel_rfl) (fun K hK=>?_)
       have HIN:=KInnE_c HK1.out HK2.out
       rw [innE_eq] at HIN
       generalize hR:innW z1.2.C z1.2.ls z2.2.C z2.2.ls=R at *
       obtain ⟨xs,er⟩:=R
       dsimp only at HIN
       replace HIN:=Lib.hid HIN
       have HR:=Lib.hid hR
       clear hR
       go_wp2_with fail
       refine Calls.mono HIN.out ?_
       rintro e w6 ⟨rfl,hx3⟩
       replace HE:=Lib.hid (HE.out.trans' hx3)
       clear HIN
       replace HK1:=Lib.hid (KAt.ext HK1.out hx3)
       replace HK2:=Lib.hid (KAt.ext HK2.out hx3)
       replace hbx:=hx3.keep hbx
       go_wp2
       refine hK _ _ (fun _ h=>af_step h hx3) ?_
       clear hK K hx3
       refine pi_t 5 rfl (by kernel_rfl) (by kernel_rfl) (fun _ _ _ _ h=>h) (fun K hK=>?_)
       go_big_quiet_op
       refine hK _ ?_
       clear hK K
       refine pi_t 6 rfl (by kernel_rfl) (by kernel_rfl) (fun _ _ _ _ h=>h) (fun K hK=>?_)
       go_big_quiet_op
       refine hK _ ?_
       clear hK K
       refine pi_t 7 rfl (by kernel_rfl) (by kernel_rfl) (fun _ _ _ _ h=>h) (fun K hK=>?_)
       go_big_quiet_op
       refine hK _ ?_
       clear hK K
       have p0:=(cell_of hbx 0).trans rfl
       have p1:=(cell_of hbx 1).trans rfl
       have f0:=frozen_of hbx 0
       have f1:=frozen_of hbx 1
       refine pi_l 9 rfl (by kernel_rfl) (fun K hK=>?_)
       go_wp2
       have hEF:=(HE.out.setR (p:=⟨bn,0,none⟩) hbs (.int .i64 (hi xs))).setR (p:=⟨bn,1,none⟩) hbs (.int .u64 (lo xs))
       refine hK _ _ (fun _ _=>⟨⟨_,hEF⟩,rfl⟩) ?_
       clear hK K
       refine pi_t 10 rfl (by kernel_rfl) (by kernel_rfl) (fun _ _ _ _ h=>h) (fun K hK=>?_)
       go_big_quiet_op
       refine hK _ ?_
       clear hK K
       refine pi_end (by kernel_rfl) ?_
       have hbF:=set2 hbx (.int .i64 (hi xs)) (.int .u64 (lo xs))
       obtain ⟨WF,hWF⟩:∃ WF,(w6.setCell ⟨bn,0,none⟩ (.int .i64 (hi xs))).setCell ⟨bn,1,none⟩ (.int .u64 (lo xs))=WF:=⟨_,rfl⟩
       rw [hWF] at hEF hbF ⊢
       clear hWF p0 p1 f0 f1
       have q0:=(cell_of hbF 0).trans rfl
       have q1:=(cell_of hbF 1).trans rfl
       have ql:=lt_of hbF
       have HF:=Lib.hid (HX3.out.trans' hEF)
       clear hEF hbF hbx t0 t1 tl u0 u1 ul b0 bl
       by_cases h0:er=0
       · subst h0
         go_wp2
         go_ret2
         exact DoPost.same HL.out HF.out (r:=some (.wide xs)) rfl
       · have hn:(er != 0)=true:=by simpa using h0
         have HW:Hid (wideF xs er=(none,er)):=Lib.hid (by unfold wideF; rw [if_neg h0])
         go_wp2
         go_ret2
         rw [HW.out]
         exact DoPost.same HL.out HF.out (r:=none) rfl
   · go_wp2
     refine hK _ _ (fun _ h=>af_step h (Ext.alloc' _ _)) ?_
     clear hK K
     have hbx:=heap_at w4 (.cells #[.int .i64 0,.int .u64 0] 194) rfl
     have hbs:=HE.out.size
     replace HE:=Lib.hid (HE.out.trans' (Ext.alloc' w4 (.cells #[.int .i64 0,.int .u64 0] 194)))
     replace HK1:=Lib.hid (KAt.ext HK1.out (Ext.alloc' w4 (.cells #[.int .i64 0,.int .u64 0] 194)))
     obtain ⟨wa,hwa⟩:∃ wa,w4.alloc (.cells #[.int .i64 0,.int .u64 0] 194)=wa:=⟨_,rfl⟩
     rw [hwa] at hbx HE HK1 ⊢
     clear hwa
     generalize hbn:w4.heap.size=bn at hbx hbs ⊢
     refine pi_l 3 rfl (by kernel_rfl) (fun K hK=>?_)
     go_wp2_with fail
     refine Calls.mono (HS2 _ (HX3.out.trans' HE.out)).out ?_
     rintro e w5 ⟨s2,g2,L2,rfl,hK2,hx2⟩
     have HK2:=Lib.hid hK2
     replace HE:=Lib.hid (HE.out.trans' hx2)
     replace HK1:=Lib.hid (KAt.ext HK1.out hx2)
     replace hbx:=hx2.keep hbx
     go_wp2
     refine hK _ _ (fun _ h=>af_step h hx2) ?_
     clear hK K hx2 hK2
     refine pi_l 4 rfl (by kernel_rfl) (fun K hK=>?_)
     have HIN:=KInnE_c HK1.out HK2.out
     rw [innE_eq] at HIN
     generalize hR:innW z1.2.C z1.2.ls z2.2.C z2.2.ls=R at *
     obtain ⟨xs,er⟩:=R
     dsimp only at HIN
     replace HIN:=Lib.hid HIN
     have HR:=Lib.hid hR
     clear hR
     go_wp2_with fail
     refine Calls.mono HIN.out ?_
     rintro e w6 ⟨rfl,hx3⟩
     replace HE:=Lib.hid (HE.out.trans' hx3)
     clear HIN
     replace HK1:=Lib.hid (KAt.ext HK1.out hx3)
     replace HK2:=Lib.hid (KAt.ext HK2.out hx3)
     replace hbx:=hx3.keep hbx
     go_wp2
     refine hK _ _ (fun _ h=>af_step h hx3) ?_
     clear hK K hx3
     refine pi_t 5 rfl (by kernel_rfl) (by kernel_rfl) (fun _ _ _ _ h=>h) (fun K hK=>?_)
     go_big_quiet_op
     refine hK _ ?_
     clear hK K
     refine pi_t 6 rfl (by kernel_rfl) (by kernel_rfl) (fun _ _ _ _ h=>h) (fun K hK=>?_)
     go_big_quiet_op
     refine hK _ ?_
     clear hK K
     refine pi_t 7 rfl (by kernel_rfl) (by kernel_rfl) (fun _ _ _ _ h=>h) (fun K hK=>?_)
     go_big_quiet_op
     refine hK _ ?_
     clear hK K
     have p0:=(cell_of hbx 0).trans rfl
     have p1:=(cell_of hbx 1).trans rfl
     have f0:=frozen_of hbx 0
     have f1:=frozen_of hbx 1
     refine pi_l 9 rfl (by kernel_rfl) (fun K hK=>?_)
     go_wp2
     have hEF:=(HE.out.setR (p:=⟨bn,0,none⟩) hbs (.int .i64 (hi xs))).setR (p:=⟨bn,1,none⟩) hbs (.int .u64 (lo xs))
     refine hK _ _ (fun _ _=>⟨⟨_,hEF⟩,rfl⟩) ?_
     clear hK K
     refine pi_t 10 rfl (by kernel_rfl) (by kernel_rfl) (fun _ _ _ _ h=>h) (fun K hK=>?_)
     go_big_quiet_op
     refine hK _ ?_
     clear hK K
     refine pi_end (by kernel_rfl) ?_
     have hbF:=set2 hbx (.int .i64 (hi xs)) (.int .u64 (lo xs))
     obtain ⟨WF,hWF⟩:∃ WF,(w6.setCell ⟨bn,0,none⟩ (.int .i64 (hi xs))).setCell ⟨bn,1,none⟩ (.int .u64 (lo xs))=WF:=⟨_,rfl⟩
     rw [hWF] at hEF hbF ⊢
     clear hWF p0 p1 f0 f1
     have q0:=(cell_of hbF 0).trans rfl
     have q1:=(cell_of hbF 1).trans rfl
     have ql:=lt_of hbF
     have HF:=Lib.hid (HX3.out.trans' hEF)
     clear hEF hbF hbx t0 t1 tl u0 u1 ul b0 bl
     by_cases h0:er=0
     · subst h0
       go_wp2
       go_ret2
       exact DoPost.same HL.out HF.out (r:=some (.wide xs)) rfl
     · have hn:(er != 0)=true:=by simpa using h0
       have HW:Hid (wideF xs er=(none,er)):=Lib.hid (by unfold wideF; rw [if_neg h0])
       go_wp2
       go_ret2
       rw [HW.out]
       exact DoPost.same HL.out HF.out (r:=none) rfl
 · go_wp2
   refine hK _ _ (fun _ h=>af_step h (Ext.alloc' _ _)) ?_
   clear hK K
   have hbx:=heap_at W3 (.cells #[.int .i64 0,.int .u64 0] 194) rfl
   have HE:=Lib.hid ((Ext.alloc' W3 (.cells #[.int .i64 0,.int .u64 0] 194)).drewR)
   obtain ⟨wa,hwa⟩:∃ wa,(W3.alloc (.cells #[.int .i64 0,.int .u64 0] 194)).drew=wa:=⟨_,rfl⟩
   replace hbx:(W3.alloc (.cells #[.int .i64 0,.int .u64 0] 194)).drew.heap[W3.heap.size]?=_:=hbx
   rw [hwa] at hbx HE ⊢
   clear hwa
   generalize hbn:W3.heap.size=bn at hbx ⊢
   have hbs:W3.heap.size≤bn:=Nat.le_of_eq hbn
   refine pi_l 1 rfl (by kernel_rfl) (fun K hK=>?_)
   go_wp2_with fail
   refine Calls.mono (HS1 _ (HX3.out.trans' HE.out)).out ?_
   rintro e w4 ⟨s1,g1,L1,rfl,hK1,hx1⟩
   have HK1:=Lib.hid hK1
   replace HE:=Lib.hid (HE.out.trans' hx1)
   replace hbx:=hx1.keep hbx
   go_wp2
   refine hK _ _ (fun _ h=>af_step h hx1) ?_
   clear hK K hx1 hK1
   refine pi_l 3 rfl (by kernel_rfl) (fun K hK=>?_)
   go_wp2_with fail
   refine Calls.mono (HS2 _ (HX3.out.trans' HE.out)).out ?_
   rintro e w5 ⟨s2,g2,L2,rfl,hK2,hx2⟩
   have HK2:=Lib.hid hK2
   replace HE:=Lib.hid (HE.out.trans' hx2)
   replace HK1:=Lib.hid (KAt.ext HK1.out hx2)
   replace hbx:=hx2.keep hbx
   go_wp2
   refine hK _ _ (fun _ h=>af_step h hx2) ?_
   clear hK K hx2 hK2
   refine pi_l 4 rfl (by kernel_rfl) (fun K hK=>?_)
   have HIN:=KInnE_c HK1.out HK2.out
   rw [innE_eq] at HIN
   generalize hR:innW z1.2.C z1.2.ls z2.2.C z2.2.ls=R at *
   obtain ⟨xs,er⟩:=R
   dsimp only at HIN
   replace HIN:=Lib.hid HIN
   have HR:=Lib.hid hR
   clear hR
   go_wp2_with fail
   refine Calls.mono HIN.out ?_
   rintro e w6 ⟨rfl,hx3⟩
   replace HE:=Lib.hid (HE.out.trans' hx3)
   clear HIN
   replace HK1:=Lib.hid (KAt.ext HK1.out hx3)
   replace HK2:=Lib.hid (KAt.ext HK2.out hx3)
   replace hbx:=hx3.keep hbx
   go_wp2
   refine hK _ _ (fun _ h=>af_step h hx3) ?_
   clear hK K hx3
   refine pi_t 5 rfl (by kernel_rfl) (by kernel_rfl) (fun _ _ _ _ h=>h) (fun K hK=>?_)
   go_big_quiet_op
   refine hK _ ?_
   clear hK K
   refine pi_t 6 rfl (by kernel_rfl) (by kernel_rfl) (fun _ _ _ _ h=>h) (fun K hK=>?_)
   go_big_quiet_op
   refine hK _ ?_
   clear hK K
   refine pi_t 7 rfl (by kernel_rfl) (by kernel_rfl) (fun _ _ _ _ h=>h) (fun K hK=>?_)
   go_big_quiet_op
   refine hK _ ?_
   clear hK K
   have p0:=(cell_of hbx 0).trans rfl
   have p1:=(cell_of hbx 1).trans rfl
   have f0:=frozen_of hbx 0
   have f1:=frozen_of hbx 1
   refine pi_l 9 rfl (by kernel_rfl) (fun K hK=>?_)
   go_wp2
   have hEF:=(HE.out.setR (p:=⟨bn,0,none⟩) hbs (.int .i64 (hi xs))).setR (p:=⟨bn,1,none⟩) hbs (.int .u64 (lo xs))
   refine hK _ _ (fun _ _=>⟨⟨_,hEF⟩,rfl⟩) ?_
   clear hK K
   refine pi_t 10 rfl (by kernel_rfl) (by kernel_rfl) (fun _ _ _ _ h=>h) (fun K hK=>?_)
   go_big_quiet_op
   refine hK _ ?_
   clear hK K
   refine pi_end (by kernel_rfl) ?_
   have hbF:=set2 hbx (.int .i64 (hi xs)) (.int .u64 (lo xs))
   obtain ⟨WF,hWF⟩:∃ WF,(w6.setCell ⟨bn,0,none⟩ (.int .i64 (hi xs))).setCell ⟨bn,1,none⟩ (.int .u64 (lo xs))=WF:=⟨_,rfl⟩
   rw [hWF] at hEF hbF ⊢
   clear hWF p0 p1 f0 f1
   have q0:=(cell_of hbF 0).trans rfl
   have q1:=(cell_of hbF 1).trans rfl
   have ql:=lt_of hbF
   have HF:=Lib.hid (HX3.out.trans' hEF)
   clear hEF hbF hbx t0 t1 tl u0 u1 ul b0 bl
   by_cases h0:er=0
   · subst h0
     go_wp2
     go_ret2
     exact DoPost.same HL.out HF.out (r:=some (.wide xs)) rfl
   · have hn:(er != 0)=true:=by simpa using h0
     have HW:Hid (wideF xs er=(none,er)):=Lib.hid (by unfold wideF; rw [if_neg h0])
     go_wp2
     go_ret2
     rw [HW.out]
     exact DoPost.same HL.out HF.out (r:=none) rfl
set_option maxRecDepth 20000 in
set_option maxHeartbeats 8000000 in
theorem APair_merge {w:World} {N p m:Nat} {l:List (Nat × Th)} {last:Nat} (h:AgAt w N p m l last) (a b:Int) (ha:I64 a) (hb2:I64 b) {i:Nat} {bk:Bk} {C:Cfg} {B:Nat} {z2:Nat × Th} (hf1:fnd l a=some (i,.st bk C B)) (hf2:fnd l b=some z2) :
 Calls Tryz.prog 87 #[.pointer (some ⟨p,0,none⟩),.agg #[.string ⟨#[109,101,114,103,101]⟩,.int .i64 a,.int .i64 b]] w (DoPost w N p m l last (doneF (mrgE C B bk.ls z2.2.C z2.2.ls),if mrgE C B bk.ls z2.2.C z2.2.ls=0 then ⟨setL (stOf l last).l i (.st C B (fun n=>plusL (bk.ls n) (z2.2.ls n))),last⟩ else stOf l last)):=by
 obtain ⟨RR,hRR⟩:∃ RR:(Option Rep × Int) × St,RR=(doneF (mrgE C B bk.ls z2.2.C z2.2.ls),if mrgE C B bk.ls z2.2.C z2.2.ls=0 then ⟨setL (stOf l last).l i (.st C B (fun n=>plusL (bk.ls n) (z2.2.ls n))),last⟩ else stOf l last):=⟨_,rfl⟩
 rw [← hRR]
 have HRR:=Lib.hid hRR
 clear hRR
 obtain ⟨x2,y2,hv2⟩:=z2.2.v_two
 have HTH:=Lib.hid (show bk.At w C B from h.th _ (fnd_mem hf1).1)
 have HS2:=fun w' (hw:Ext w w')=>Lib.hid (AStack_c z2.2 w' ((h.th z2 (fnd_mem hf2).1).ext hw))
 rw [hv2] at HS2
 have hpl:=h.ltp
 have hx1:Ext w (w.alloc (.cells #[.string ⟨#[109,101,114,103,101]⟩,.int .i64 a,.int .i64 b] 182)):=Ext.alloc' _ _
 have hlk:=h.look_a hx1 ha hf1
 have hlk2:=fun W2 (hx:Ext (w.alloc (.cells #[.string ⟨#[109,101,114,103,101]⟩,.int .i64 a,.int .i64 b] 182)) W2)=>h.look_a (hx1.trans' hx) hb2 hf2
 unfold Th.v at hlk
 rw [hv2] at hlk2
 have HL:=Lib.hid h
 have hhp:=hx1.keep h.hp
 have hb:=heap_at w (.cells #[.string ⟨#[109,101,114,103,101]⟩,.int .i64 a,.int .i64 b] 182) rfl
 clear h
 go_enter Tryz.func87,Tryz.ntmps87
 go_wp2_with fail
 obtain ⟨W1,hW1⟩:∃ W1,w.alloc (.cells #[.string ⟨#[109,101,114,103,101]⟩,.int .i64 a,.int .i64 b] 182)=W1:=⟨_,rfl⟩
 rw [hW1] at hx1 hlk hlk2 hhp hb ⊢
 clear hW1
 have p0:=(cell_of hhp 0).trans rfl
 have pl1:=lt_of hhp
 have b1:=(cell_of hb 1).trans rfl
 have bl:=lt_of hb
 have HX1:=Lib.hid hx1
 have HB:=Lib.hid hb
 have HP:=Lib.hid hhp
 clear hx1 hhp hb
 have hC0:=af_drew W1
 refine pi_start (fun w'=>∃ x:After W1,w'=x.w) [] (by kernel_rfl) ?_
 refine pi_t 0 rfl (by kernel_rfl) (by kernel_rfl) (fun _ _ _ _ h=>h) (fun K hK=>?_)
 go_big_quiet_op
 refine hK _ ?_
 clear hK K
 refine pi_t 1 rfl (by kernel_rfl) (by kernel_rfl) (fun _ _ _ _ h=>h) (fun K hK=>?_)
 go_big_quiet_op
 refine hK _ ?_
 clear hK K
 refine pi_t 2 rfl (by kernel_rfl) (by kernel_rfl) (fun _ _ _ _ h=>h) (fun K hK=>?_)
 go_big_quiet_op
 refine hK _ ?_
 clear hK K
 refine pi_t 4 rfl (by kernel_rfl) (by kernel_rfl) (fun _ _ _ _ h=>h) (fun K hK=>?_)
 go_big_quiet_op
 refine hK _ ?_
 clear hK K
 refine pi_c 3 (by assumption) rfl (by kernel_rfl) (by kernel_rfl) (fun _ _ _ _ h=>h) (fun K hK=>?_)
 go_big_quiet_op
 refine hK _ ?_
 clear hK K
 refine pi_c 5 (by assumption) rfl (by kernel_rfl) (by kernel_rfl) (fun _ _ _ _ h=>h) (fun K hK=>?_)
 go_big_quiet_op
 refine hK _ ?_
 clear hK K
 refine pi_c 6 (by assumption) rfl (by kernel_rfl) (by kernel_rfl) (fun _ _ _ _ h=>h) (fun K hK=>?_)
 go_big_quiet_op
 refine hK _ ?_
 clear hK K
 refine pi_t 7 rfl (by kernel_rfl) (by kernel_rfl) (fun _ _ _ _ h=>h) (fun K hK=>?_)
 go_big_quiet_op
 refine hK _ ?_
 clear hK K
 refine pi_t 8 rfl (by kernel_rfl) (by kernel_rfl) (fun _ _ _ _ h=>h) (fun K hK=>?_)
 go_big_quiet_op
 refine hK _ ?_
 clear hK K
 refine pi_t 9 rfl (by kernel_rfl) (by kernel_rfl) (fun _ _ _ _ h=>h) (fun K hK=>?_)
 go_big_quiet_op
 refine hK _ ?_
 clear hK K
 refine pi_l 10 rfl (by kernel_rfl) (fun K hK=>?_)
 go_wp2
 refine hK _ _ (fun _ h=>af_step h (Ext.alloc' _ _)) ?_
 clear hK K
 refine pi_l 11 rfl (by kernel_rfl) (fun K hK=>?_)
 go_wp2
 refine hK _ _ (fun _ _=>⟨⟨_,(Ext.alloc' W1 _).drewR⟩,rfl⟩) ?_
 clear hK K
 refine pi_t 12 rfl (by kernel_rfl) (by kernel_rfl) (fun _ _ _ _ h=>h) (fun K hK=>?_)
 go_big_quiet_op
 refine hK _ ?_
 clear hK K
 refine pi_end (by kernel_rfl) ?_
 have hx2:Ext W1 (W1.alloc (.cells #[.pointer (some ⟨bk.s,0,none⟩),.pointer none] 152)).drew:=(Ext.alloc' W1 _).drewR
 have hb2:(W1.alloc (.cells #[.pointer (some ⟨bk.s,0,none⟩),.pointer none] 152)).drew.heap[W1.heap.size]?=some (.cells #[.pointer (some ⟨bk.s,0,none⟩),.pointer none] 152 (0,0)):=heap_at W1 _ rfl
 obtain ⟨W2,hW2⟩:∃ W2,(W1.alloc (.cells #[.pointer (some ⟨bk.s,0,none⟩),.pointer none] 152)).drew=W2:=⟨_,rfl⟩
 rw [hW2] at hx2 hb2 ⊢
 clear hW2 hC0 hlk
 have hlk:=fun y=>hlk2 W2 hx2 y
 clear hlk2
 have hb':=hx2.keep HB.out
 have hp':=hx2.keep HP.out
 clear b1 bl p0 pl1
 have b0:=(cell_of hb' 0).trans rfl
 have b2:=(cell_of hb' 2).trans rfl
 have bl:=lt_of hb'
 have p0:=(cell_of hp' 0).trans rfl
 have pl1:=lt_of hp'
 have HX2:=Lib.hid (HX1.out.trans' hx2)
 have HB2:=Lib.hid hb2
 have HB':=Lib.hid hb'
 clear hb' hp' hb2 hx2
 go_wp2_with fail
 have hC0:=af_drew W2
 refine pi_start (fun w'=>∃ x:After W2,w'=x.w) [] (by kernel_rfl) ?_
 refine pi_t 0 rfl (by kernel_rfl) (by kernel_rfl) (fun _ _ _ _ h=>h) (fun K hK=>?_)
 go_big_quiet_op
 refine hK _ ?_
 clear hK K
 refine pi_t 1 rfl (by kernel_rfl) (by kernel_rfl) (fun _ _ _ _ h=>h) (fun K hK=>?_)
 go_big_quiet_op
 refine hK _ ?_
 clear hK K
 refine pi_t 2 rfl (by kernel_rfl) (by kernel_rfl) (fun _ _ _ _ h=>h) (fun K hK=>?_)
 go_big_quiet_op
 refine hK _ ?_
 clear hK K
 refine pi_t 4 rfl (by kernel_rfl) (by kernel_rfl) (fun _ _ _ _ h=>h) (fun K hK=>?_)
 go_big_quiet_op
 refine hK _ ?_
 clear hK K
 refine pi_c 3 (by assumption) rfl (by kernel_rfl) (by kernel_rfl) (fun _ _ _ _ h=>h) (fun K hK=>?_)
 go_big_quiet_op
 refine hK _ ?_
 clear hK K
 refine pi_c 5 (by assumption) rfl (by kernel_rfl) (by kernel_rfl) (fun _ _ _ _ h=>h) (fun K hK=>?_)
 go_big_quiet_op
 refine hK _ ?_
 clear hK K
 refine pi_c 6 (by assumption) rfl (by kernel_rfl) (by kernel_rfl) (fun _ _ _ _ h=>h) (fun K hK=>?_)
 go_big_quiet_op
 refine hK _ ?_
 clear hK K
 refine pi_t 7 rfl (by kernel_rfl) (by kernel_rfl) (fun _ _ _ _ h=>h) (fun K hK=>?_)
 go_big_quiet_op
 refine hK _ ?_
 clear hK K
 refine pi_t 8 rfl (by kernel_rfl) (by kernel_rfl) (fun _ _ _ _ h=>h) (fun K hK=>?_)
 go_big_quiet_op
 refine hK _ ?_
 clear hK K
 refine pi_t 9 rfl (by kernel_rfl) (by kernel_rfl) (fun _ _ _ _ h=>h) (fun K hK=>?_)
 go_big_quiet_op
 refine hK _ ?_
 clear hK K
 refine pi_l 10 rfl (by kernel_rfl) (fun K hK=>?_)
 go_wp2
 refine hK _ _ (fun _ h=>af_step h (Ext.alloc' _ _)) ?_
 clear hK K
 refine pi_l 11 rfl (by kernel_rfl) (fun K hK=>?_)
 go_wp2
 refine hK _ _ (fun _ _=>⟨⟨_,(Ext.alloc' W2 _).drewR⟩,rfl⟩) ?_
 clear hK K
 refine pi_t 12 rfl (by kernel_rfl) (by kernel_rfl) (fun _ _ _ _ h=>h) (fun K hK=>?_)
 go_big_quiet_op
 refine hK _ ?_
 clear hK K
 refine pi_end (by kernel_rfl) ?_
 have hx3:Ext W2 (W2.alloc (.cells #[.pointer x2,.pointer y2] 152)).drew:=(Ext.alloc' W2 _).drewR
 have hb3:(W2.alloc (.cells #[.pointer x2,.pointer y2] 152)).drew.heap[W2.heap.size]?=some (.cells #[.pointer x2,.pointer y2] 152 (0,0)):=heap_at W2 _ rfl
 obtain ⟨W3,hW3⟩:∃ W3,(W2.alloc (.cells #[.pointer x2,.pointer y2] 152)).drew=W3:=⟨_,rfl⟩
 rw [hW3] at hx3 hb3 ⊢
 clear hW3 hC0 hlk
 have hb':=hx3.keep HB'.out
 have hb2:=hx3.keep HB2.out
 clear b0 b2 bl p0 pl1
 have b0:=(cell_of hb' 0).trans rfl
 have bl:=lt_of hb'
 have t0:=(cell_of hb2 0).trans rfl
 have t1:=(cell_of hb2 1).trans rfl
 have tl:=lt_of hb2
 have u0:=(cell_of hb3 0).trans rfl
 have u1:=(cell_of hb3 1).trans rfl
 have ul:=lt_of hb3
 have HBB1:=Lib.hid hb2
 have HBB2:=Lib.hid hb3
 have HX3:=Lib.hid (HX2.out.trans' hx3)
 clear hb' hb2 hb3 hx3
 go_wp2_with fail
 have hK3:=KAt.ext HTH.out HX3.out
 have nb1:¬ cellsOf B bk.L W1.heap.size:=fun hc=>by
  obtain ⟨cur,h5⟩:=KAt.isc hK3 hc
  exact blk_ne h5 HBB1.out (by decide) rfl
 have nb2:¬ cellsOf B bk.L W2.heap.size:=fun hc=>by
  obtain ⟨cur,h5⟩:=KAt.isc hK3 hc
  exact blk_ne h5 HBB2.out (by decide) rfl
 clear hK3
 have hC0:=afs_drew (cellsOf B bk.L) W3
 refine pi_start (fun w'=>∃ x:AftS (cellsOf B bk.L) W3,w'=x.w) [] (by kernel_rfl) ?_
 refine pi_t 0 rfl (by kernel_rfl) (by kernel_rfl) (fun _ _ _ _ h=>h) (fun K hK=>?_)
 go_big_quiet_op
 refine hK _ ?_
 clear hK K
 refine pi_c 1 (by assumption) rfl (by kernel_rfl) (by kernel_rfl) (fun _ _ _ _ h=>h) (fun K hK=>?_)
 go_big_quiet_op
 refine hK _ ?_
 clear hK K
 refine pi_c 2 (by assumption) rfl (by kernel_rfl) (by kernel_rfl) (fun _ _ _ _ h=>h) (fun K hK=>?_)
 go_big_quiet_op
 refine hK _ ?_
 clear hK K
 refine pi_l 3 rfl (by kernel_rfl) (fun K hK=>?_)
 go_wp2_with fail
 refine Calls.mono (HS2 _ (HX3.out.trans' (Below.drew (Ext.refl W3)))).out ?_
 rintro e w4 ⟨s2,g2,L2,rfl,hK2,hx4⟩
 have HE4:=Lib.hid (HX3.out.trans' (Ext.trans' (Below.drew (Ext.refl W3)) hx4))
 have HK2:=Lib.hid hK2
 go_wp2
 refine hK _ _ (fun _ h=>afs_step h hx4) ?_
 clear hK K hK2
 refine pi_l 4 rfl (by kernel_rfl) (fun K hK=>?_)
 go_wp2_with fail
 refine Calls.mono (KMrgE_c (KAt.ext HTH.out HE4.out) HK2.out) ?_
 rintro e w5 ⟨rfl,hK5,hM5⟩
 have HK5:=Lib.hid hK5
 have HM5:=Lib.hid hM5
 generalize hR:mrgE C B bk.ls z2.2.C z2.2.ls=er at *
 have HR:=Lib.hid hR
 clear hR hK5
 go_wp2
 refine hK _ _ (fun _ _=>⟨⟨_,((Ext.trans' (Below.drew (Ext.refl W3)) hx4).mod _).trans hM5⟩,rfl⟩) ?_
 clear hK K
 refine pi_l 5 rfl (by kernel_rfl) (fun K hK=>?_)
 go_wp2_with fail
 refine Calls.mono (ADone_c er _) ?_
 rintro e w6 ⟨v,rfl,hv,hx6⟩
 have HV:=Lib.hid hv
 have HX6:=Lib.hid hx6
 go_wp2
 refine hK _ _ (fun _ h=>afs_step h hx6) ?_
 clear hK K hv hx6 hx4 hM5
 refine pi_t 6 rfl (by kernel_rfl) (by kernel_rfl) (fun _ _ _ _ h=>h) (fun K hK=>?_)
 go_big_quiet_op
 refine hK _ ?_
 clear hK K
 refine pi_t 7 rfl (by kernel_rfl) (by kernel_rfl) (fun _ _ _ _ h=>h) (fun K hK=>?_)
 go_big_quiet_op
 refine hK _ ?_
 clear hK K
 refine pi_t 8 rfl (by kernel_rfl) (by kernel_rfl) (fun _ _ _ _ h=>h) (fun K hK=>?_)
 go_big_quiet_op
 refine hK _ ?_
 clear hK K
 refine pi_t 9 rfl (by kernel_rfl) (by kernel_rfl) (fun _ _ _ _ h=>h) (fun K hK=>?_)
 go_big_quiet_op
 refine hK _ ?_
 clear hK K
 refine pi_end (by kernel_rfl) ?_
 go_wp2
 go_ret2
 rw [HRR.out]
 exact jointEnd HL.out HE4.out hf1 HK5.out HM5.out HX6.out (HV.out _ _)
set_option maxRecDepth 20000 in
set_option maxHeartbeats 8000000 in
theorem APair_subtract {w:World} {N p m:Nat} {l:List (Nat × Th)} {last:Nat} (h:AgAt w N p m l last) (a b:Int) (ha:I64 a) (hb2:I64 b) {i:Nat} {bk:Bk} {C:Cfg} {B:Nat} {z2:Nat × Th} (hf1:fnd l a=some (i,.st bk C B)) (hf2:fnd l b=some z2) :
 Calls Tryz.prog 87 #[.pointer (some ⟨p,0,none⟩),.agg #[.string ⟨#[115,117,98,116,114,97,99,116]⟩,.int .i64 a,.int .i64 b]] w (DoPost w N p m l last (doneF (subE C B bk.ls z2.2.C z2.2.ls),if subE C B bk.ls z2.2.C z2.2.ls=0 then ⟨setL (stOf l last).l i (.st C B (fun n=>minusL (bk.ls n) (z2.2.ls n))),last⟩ else stOf l last)):=by
 obtain ⟨RR,hRR⟩:∃ RR:(Option Rep × Int) × St,RR=(doneF (subE C B bk.ls z2.2.C z2.2.ls),if subE C B bk.ls z2.2.C z2.2.ls=0 then ⟨setL (stOf l last).l i (.st C B (fun n=>minusL (bk.ls n) (z2.2.ls n))),last⟩ else stOf l last):=⟨_,rfl⟩
 rw [← hRR]
 have HRR:=Lib.hid hRR
 clear hRR
 obtain ⟨x2,y2,hv2⟩:=z2.2.v_two
 have HTH:=Lib.hid (show bk.At w C B from h.th _ (fnd_mem hf1).1)
 have HS2:=fun w' (hw:Ext w w')=>Lib.hid (AStack_c z2.2 w' ((h.th z2 (fnd_mem hf2).1).ext hw))
 rw [hv2] at HS2
 have hpl:=h.ltp
 have hx1:Ext w (w.alloc (.cells #[.string ⟨#[115,117,98,116,114,97,99,116]⟩,.int .i64 a,.int .i64 b] 182)):=Ext.alloc' _ _
 have hlk:=h.look_a hx1 ha hf1
 have hlk2:=fun W2 (hx:Ext (w.alloc (.cells #[.string ⟨#[115,117,98,116,114,97,99,116]⟩,.int .i64 a,.int .i64 b] 182)) W2)=>h.look_a (hx1.trans' hx) hb2 hf2
 unfold Th.v at hlk
 rw [hv2] at hlk2
 have HL:=Lib.hid h
 have hhp:=hx1.keep h.hp
 have hb:=heap_at w (.cells #[.string ⟨#[115,117,98,116,114,97,99,116]⟩,.int .i64 a,.int .i64 b] 182) rfl
 clear h
 go_enter Tryz.func87,Tryz.ntmps87
 go_wp2_with fail
 obtain ⟨W1,hW1⟩:∃ W1,w.alloc (.cells #[.string ⟨#[115,117,98,116,114,97,99,116]⟩,.int .i64 a,.int .i64 b] 182)=W1:=⟨_,rfl⟩
 rw [hW1] at hx1 hlk hlk2 hhp hb ⊢
 clear hW1
 have p0:=(cell_of hhp 0).trans rfl
 have pl1:=lt_of hhp
 have b1:=(cell_of hb 1).trans rfl
 have bl:=lt_of hb
 have HX1:=Lib.hid hx1
 have HB:=Lib.hid hb
 have HP:=Lib.hid hhp
 clear hx1 hhp hb
 have hC0:=af_drew W1
 refine pi_start (fun w'=>∃ x:After W1,w'=x.w) [] (by kernel_rfl) ?_
 refine pi_t 0 rfl (by kernel_rfl) (by kernel_rfl) (fun _ _ _ _ h=>h) (fun K hK=>?_)
 go_big_quiet_op
 refine hK _ ?_
 clear hK K
 refine pi_t 1 rfl (by kernel_rfl) (by kernel_rfl) (fun _ _ _ _ h=>h) (fun K hK=>?_)
 go_big_quiet_op
 refine hK _ ?_
 clear hK K
 refine pi_t 2 rfl (by kernel_rfl) (by kernel_rfl) (fun _ _ _ _ h=>h) (fun K hK=>?_)
 go_big_quiet_op
 refine hK _ ?_
 clear hK K
 refine pi_t 4 rfl (by kernel_rfl) (by kernel_rfl) (fun _ _ _ _ h=>h) (fun K hK=>?_)
 go_big_quiet_op
 refine hK _ ?_
 clear hK K
 refine pi_c 3 (by assumption) rfl (by kernel_rfl) (by kernel_rfl) (fun _ _ _ _ h=>h) (fun K hK=>?_)
 go_big_quiet_op
 refine hK _ ?_
 clear hK K
 refine pi_c 5 (by assumption) rfl (by kernel_rfl) (by kernel_rfl) (fun _ _ _ _ h=>h) (fun K hK=>?_)
 go_big_quiet_op
 refine hK _ ?_
 clear hK K
 refine pi_c 6 (by assumption) rfl (by kernel_rfl) (by kernel_rfl) (fun _ _ _ _ h=>h) (fun K hK=>?_)
 go_big_quiet_op
 refine hK _ ?_
 clear hK K
 refine pi_t 7 rfl (by kernel_rfl) (by kernel_rfl) (fun _ _ _ _ h=>h) (fun K hK=>?_)
 go_big_quiet_op
 refine hK _ ?_
 clear hK K
 refine pi_t 8 rfl (by kernel_rfl) (by kernel_rfl) (fun _ _ _ _ h=>h) (fun K hK=>?_)
 go_big_quiet_op
 refine hK _ ?_
 clear hK K
 refine pi_t 9 rfl (by kernel_rfl) (by kernel_rfl) (fun _ _ _ _ h=>h) (fun K hK=>?_)
 go_big_quiet_op
 refine hK _ ?_
 clear hK K
 refine pi_l 10 rfl (by kernel_rfl) (fun K hK=>?_)
 go_wp2
 refine hK _ _ (fun _ h=>af_step h (Ext.alloc' _ _)) ?_
 clear hK K
 refine pi_l 11 rfl (by kernel_rfl) (fun K hK=>?_)
 go_wp2
 refine hK _ _ (fun _ _=>⟨⟨_,(Ext.alloc' W1 _).drewR⟩,rfl⟩) ?_
 clear hK K
 refine pi_t 12 rfl (by kernel_rfl) (by kernel_rfl) (fun _ _ _ _ h=>h) (fun K hK=>?_)
 go_big_quiet_op
 refine hK _ ?_
 clear hK K
 refine pi_end (by kernel_rfl) ?_
 have hx2:Ext W1 (W1.alloc (.cells #[.pointer (some ⟨bk.s,0,none⟩),.pointer none] 152)).drew:=(Ext.alloc' W1 _).drewR
 have hb2:(W1.alloc (.cells #[.pointer (some ⟨bk.s,0,none⟩),.pointer none] 152)).drew.heap[W1.heap.size]?=some (.cells #[.pointer (some ⟨bk.s,0,none⟩),.pointer none] 152 (0,0)):=heap_at W1 _ rfl
 obtain ⟨W2,hW2⟩:∃ W2,(W1.alloc (.cells #[.pointer (some ⟨bk.s,0,none⟩),.pointer none] 152)).drew=W2:=⟨_,rfl⟩
 rw [hW2] at hx2 hb2 ⊢
 clear hW2 hC0 hlk
 have hlk:=fun y=>hlk2 W2 hx2 y
 clear hlk2
 have hb':=hx2.keep HB.out
 have hp':=hx2.keep HP.out
 clear b1 bl p0 pl1
 have b0:=(cell_of hb' 0).trans rfl
 have b2:=(cell_of hb' 2).trans rfl
 have bl:=lt_of hb'
 have p0:=(cell_of hp' 0).trans rfl
 have pl1:=lt_of hp'
 have HX2:=Lib.hid (HX1.out.trans' hx2)
 have HB2:=Lib.hid hb2
 have HB':=Lib.hid hb'
 clear hb' hp' hb2 hx2
 go_wp2_with fail
 have hC0:=af_drew W2
 refine pi_start (fun w'=>∃ x:After W2,w'=x.w) [] (by kernel_rfl) ?_
 refine pi_t 0 rfl (by kernel_rfl) (by kernel_rfl) (fun _ _ _ _ h=>h) (fun K hK=>?_)
 go_big_quiet_op
 refine hK _ ?_
 clear hK K
 refine pi_t 1 rfl (by kernel_rfl) (by kernel_rfl) (fun _ _ _ _ h=>h) (fun K hK=>?_)
 go_big_quiet_op
 refine hK _ ?_
 clear hK K
 refine pi_t 2 rfl (by kernel_rfl) (by kernel_rfl) (fun _ _ _ _ h=>h) (fun K hK=>?_)
 go_big_quiet_op
 refine hK _ ?_
 clear hK K
 refine pi_t 4 rfl (by kernel_rfl) (by kernel_rfl) (fun _ _ _ _ h=>h) (fun K hK=>?_)
 go_big_quiet_op
 refine hK _ ?_
 clear hK K
 refine pi_c 3 (by assumption) rfl (by kernel_rfl) (by kernel_rfl) (fun _ _ _ _ h=>h) (fun K hK=>?_)
 go_big_quiet_op
 refine hK _ ?_
 clear hK K
 refine pi_c 5 (by assumption) rfl (by kernel_rfl) (by kernel_rfl) (fun _ _ _ _ h=>h) (fun K hK=>?_)
 go_big_quiet_op
 refine hK _ ?_
 clear hK K
 refine pi_c 6 (by assumption) rfl (by kernel_rfl) (by kernel_rfl) (fun _ _ _ _ h=>h) (fun K hK=>?_)
 go_big_quiet_op
 refine hK _ ?_
 clear hK K
 refine pi_t 7 rfl (by kernel_rfl) (by kernel_rfl) (fun _ _ _ _ h=>h) (fun K hK=>?_)
 go_big_quiet_op
 refine hK _ ?_
 clear hK K
 refine pi_t 8 rfl (by kernel_rfl) (by kernel_rfl) (fun _ _ _ _ h=>h) (fun K hK=>?_)
 go_big_quiet_op
 refine hK _ ?_
 clear hK K
 refine pi_t 9 rfl (by kernel_rfl) (by kernel_rfl) (fun _ _ _ _ h=>h) (fun K hK=>?_)
 go_big_quiet_op
 refine hK _ ?_
 clear hK K
 refine pi_l 10 rfl (by kernel_rfl) (fun K hK=>?_)
 go_wp2
 refine hK _ _ (fun _ h=>af_step h (Ext.alloc' _ _)) ?_
 clear hK K
 refine pi_l 11 rfl (by kernel_rfl) (fun K hK=>?_)
 go_wp2
 refine hK _ _ (fun _ _=>⟨⟨_,(Ext.alloc' W2 _).drewR⟩,rfl⟩) ?_
 clear hK K
 refine pi_t 12 rfl (by kernel_rfl) (by kernel_rfl) (fun _ _ _ _ h=>h) (fun K hK=>?_)
 go_big_quiet_op
 refine hK _ ?_
 clear hK K
 refine pi_end (by kernel_rfl) ?_
 have hx3:Ext W2 (W2.alloc (.cells #[.pointer x2,.pointer y2] 152)).drew:=(Ext.alloc' W2 _).drewR
 have hb3:(W2.alloc (.cells #[.pointer x2,.pointer y2] 152)).drew.heap[W2.heap.size]?=some (.cells #[.pointer x2,.pointer y2] 152 (0,0)):=heap_at W2 _ rfl
 obtain ⟨W3,hW3⟩:∃ W3,(W2.alloc (.cells #[.pointer x2,.pointer y2] 152)).drew=W3:=⟨_,rfl⟩
 rw [hW3] at hx3 hb3 ⊢
 clear hW3 hC0 hlk
 have hb':=hx3.keep HB'.out
 have hb2:=hx3.keep HB2.out
 clear b0 b2 bl p0 pl1
 have b0:=(cell_of hb' 0).trans rfl
 have bl:=lt_of hb'
 have t0:=(cell_of hb2 0).trans rfl
 have t1:=(cell_of hb2 1).trans rfl
 have tl:=lt_of hb2
 have u0:=(cell_of hb3 0).trans rfl
 have u1:=(cell_of hb3 1).trans rfl
 have ul:=lt_of hb3
 have HBB1:=Lib.hid hb2
 have HBB2:=Lib.hid hb3
 have HX3:=Lib.hid (HX2.out.trans' hx3)
 clear hb' hb2 hb3 hx3
 go_wp2_with fail
 have hK3:=KAt.ext HTH.out HX3.out
 have nb1:¬ cellsOf B bk.L W1.heap.size:=fun hc=>by
  obtain ⟨cur,h5⟩:=KAt.isc hK3 hc
  exact blk_ne h5 HBB1.out (by decide) rfl
 have nb2:¬ cellsOf B bk.L W2.heap.size:=fun hc=>by
  obtain ⟨cur,h5⟩:=KAt.isc hK3 hc
  exact blk_ne h5 HBB2.out (by decide) rfl
 clear hK3
 have hC0:=afs_drew (cellsOf B bk.L) W3
 refine pi_start (fun w'=>∃ x:AftS (cellsOf B bk.L) W3,w'=x.w) [] (by kernel_rfl) ?_
 refine pi_t 0 rfl (by kernel_rfl) (by kernel_rfl) (fun _ _ _ _ h=>h) (fun K hK=>?_)
 go_big_quiet_op
 refine hK _ ?_
 clear hK K
 refine pi_c 1 (by assumption) rfl (by kernel_rfl) (by kernel_rfl) (fun _ _ _ _ h=>h) (fun K hK=>?_)
 go_big_quiet_op
 refine hK _ ?_
 clear hK K
 refine pi_c 2 (by assumption) rfl (by kernel_rfl) (by kernel_rfl) (fun _ _ _ _ h=>h) (fun K hK=>?_)
 go_big_quiet_op
 refine hK _ ?_
 clear hK K
 refine pi_l 3 rfl (by kernel_rfl) (fun K hK=>?_)
 go_wp2_with fail
 refine Calls.mono (HS2 _ (HX3.out.trans' (Below.drew (Ext.refl W3)))).out ?_
 rintro e w4 ⟨s2,g2,L2,rfl,hK2,hx4⟩
 have HE4:=Lib.hid (HX3.out.trans' (Ext.trans' (Below.drew (Ext.refl W3)) hx4))
 have HK2:=Lib.hid hK2
 go_wp2
 refine hK _ _ (fun _ h=>afs_step h hx4) ?_
 clear hK K hK2
 refine pi_l 4 rfl (by kernel_rfl) (fun K hK=>?_)
 go_wp2_with fail
 refine Calls.mono (KSubE_c (KAt.ext HTH.out HE4.out) HK2.out) ?_
 rintro e w5 ⟨rfl,hK5,hM5⟩
 have HK5:=Lib.hid hK5
 have HM5:=Lib.hid hM5
 generalize hR:subE C B bk.ls z2.2.C z2.2.ls=er at *
 have HR:=Lib.hid hR
 clear hR hK5
 go_wp2
 refine hK _ _ (fun _ _=>⟨⟨_,((Ext.trans' (Below.drew (Ext.refl W3)) hx4).mod _).trans hM5⟩,rfl⟩) ?_
 clear hK K
 refine pi_l 5 rfl (by kernel_rfl) (fun K hK=>?_)
 go_wp2_with fail
 refine Calls.mono (ADone_c er _) ?_
 rintro e w6 ⟨v,rfl,hv,hx6⟩
 have HV:=Lib.hid hv
 have HX6:=Lib.hid hx6
 go_wp2
 refine hK _ _ (fun _ h=>afs_step h hx6) ?_
 clear hK K hv hx6 hx4 hM5
 refine pi_t 6 rfl (by kernel_rfl) (by kernel_rfl) (fun _ _ _ _ h=>h) (fun K hK=>?_)
 go_big_quiet_op
 refine hK _ ?_
 clear hK K
 refine pi_t 7 rfl (by kernel_rfl) (by kernel_rfl) (fun _ _ _ _ h=>h) (fun K hK=>?_)
 go_big_quiet_op
 refine hK _ ?_
 clear hK K
 refine pi_t 8 rfl (by kernel_rfl) (by kernel_rfl) (fun _ _ _ _ h=>h) (fun K hK=>?_)
 go_big_quiet_op
 refine hK _ ?_
 clear hK K
 refine pi_t 9 rfl (by kernel_rfl) (by kernel_rfl) (fun _ _ _ _ h=>h) (fun K hK=>?_)
 go_big_quiet_op
 refine hK _ ?_
 clear hK K
 refine pi_end (by kernel_rfl) ?_
 go_wp2
 go_ret2
 rw [HRR.out]
 exact jointEnd HL.out HE4.out hf1 HK5.out HM5.out HX6.out (HV.out _ _)
set_option maxRecDepth 20000 in
set_option maxHeartbeats 8000000 in
theorem APair_win {w:World} {N p m:Nat} {l:List (Nat × Th)} {last:Nat} (h:AgAt w N p m l last) (what:ByteArray) (a b:Int) (ha:I64 a) (hb2:I64 b) {i:Nat} {p' b':Nat} {C:Cfg} {B n:Nat} {sm:Bk} {bk:Nat → Bk} {z2:Nat × Th} (hf1:fnd l a=some (i,.wi p' b' C B n sm bk)) (hf2:fnd l b=some z2) (hw:¬ (what.toList=[105,110,110,101,114])) :
 Calls Tryz.prog 87 #[.pointer (some ⟨p,0,none⟩),.agg #[.string what,.int .i64 a,.int .i64 b]] w (DoPost w N p m l last ((none,3),stOf l last)):=by
 obtain ⟨x2,y2,hv2⟩:=z2.2.v_two
 have hwi:(what.toList == [105,110,110,101,114])=false:=by simpa using hw
 have hpl:=h.ltp
 have hx1:Ext w (w.alloc (.cells #[.string what,.int .i64 a,.int .i64 b] 182)):=Ext.alloc' _ _
 have hlk:=h.look_a hx1 ha hf1
 have hlk2:=fun W2 (hx:Ext (w.alloc (.cells #[.string what,.int .i64 a,.int .i64 b] 182)) W2)=>h.look_a (hx1.trans' hx) hb2 hf2
 unfold Th.v at hlk
 rw [hv2] at hlk2
 have HL:=Lib.hid h
 have hhp:=hx1.keep h.hp
 have hb:=heap_at w (.cells #[.string what,.int .i64 a,.int .i64 b] 182) rfl
 clear h
 go_enter Tryz.func87,Tryz.ntmps87
 go_wp2_with fail
 obtain ⟨W1,hW1⟩:∃ W1,w.alloc (.cells #[.string what,.int .i64 a,.int .i64 b] 182)=W1:=⟨_,rfl⟩
 rw [hW1] at hx1 hlk hlk2 hhp hb ⊢
 clear hW1
 have p0:=(cell_of hhp 0).trans rfl
 have pl1:=lt_of hhp
 have b1:=(cell_of hb 1).trans rfl
 have bl:=lt_of hb
 have HX1:=Lib.hid hx1
 have HB:=Lib.hid hb
 have HP:=Lib.hid hhp
 clear hx1 hhp hb
 have hC0:=af_drew W1
 refine pi_start (fun w'=>∃ x:After W1,w'=x.w) [] (by kernel_rfl) ?_
 refine pi_t 0 rfl (by kernel_rfl) (by kernel_rfl) (fun _ _ _ _ h=>h) (fun K hK=>?_)
 go_big_quiet_op
 refine hK _ ?_
 clear hK K
 refine pi_t 1 rfl (by kernel_rfl) (by kernel_rfl) (fun _ _ _ _ h=>h) (fun K hK=>?_)
 go_big_quiet_op
 refine hK _ ?_
 clear hK K
 refine pi_t 2 rfl (by kernel_rfl) (by kernel_rfl) (fun _ _ _ _ h=>h) (fun K hK=>?_)
 go_big_quiet_op
 refine hK _ ?_
 clear hK K
 refine pi_t 4 rfl (by kernel_rfl) (by kernel_rfl) (fun _ _ _ _ h=>h) (fun K hK=>?_)
 go_big_quiet_op
 refine hK _ ?_
 clear hK K
 refine pi_c 3 (by assumption) rfl (by kernel_rfl) (by kernel_rfl) (fun _ _ _ _ h=>h) (fun K hK=>?_)
 go_big_quiet_op
 refine hK _ ?_
 clear hK K
 refine pi_c 5 (by assumption) rfl (by kernel_rfl) (by kernel_rfl) (fun _ _ _ _ h=>h) (fun K hK=>?_)
 go_big_quiet_op
 refine hK _ ?_
 clear hK K
 refine pi_c 6 (by assumption) rfl (by kernel_rfl) (by kernel_rfl) (fun _ _ _ _ h=>h) (fun K hK=>?_)
 go_big_quiet_op
 refine hK _ ?_
 clear hK K
 refine pi_t 7 rfl (by kernel_rfl) (by kernel_rfl) (fun _ _ _ _ h=>h) (fun K hK=>?_)
 go_big_quiet_op
 refine hK _ ?_
 clear hK K
 refine pi_t 8 rfl (by kernel_rfl) (by kernel_rfl) (fun _ _ _ _ h=>h) (fun K hK=>?_)
 go_big_quiet_op
 refine hK _ ?_
 clear hK K
 refine pi_t 9 rfl (by kernel_rfl) (by kernel_rfl) (fun _ _ _ _ h=>h) (fun K hK=>?_)
 go_big_quiet_op
 refine hK _ ?_
 clear hK K
 refine pi_l 10 rfl (by kernel_rfl) (fun K hK=>?_)
 go_wp2
 refine hK _ _ (fun _ h=>af_step h (Ext.alloc' _ _)) ?_
 clear hK K
 refine pi_l 11 rfl (by kernel_rfl) (fun K hK=>?_)
 go_wp2
 refine hK _ _ (fun _ _=>⟨⟨_,(Ext.alloc' W1 _).drewR⟩,rfl⟩) ?_
 clear hK K
 refine pi_t 12 rfl (by kernel_rfl) (by kernel_rfl) (fun _ _ _ _ h=>h) (fun K hK=>?_)
 go_big_quiet_op
 refine hK _ ?_
 clear hK K
 refine pi_end (by kernel_rfl) ?_
 have hx2:Ext W1 (W1.alloc (.cells #[.pointer none,.pointer (some ⟨p',0,none⟩)] 152)).drew:=(Ext.alloc' W1 _).drewR
 have hb2:(W1.alloc (.cells #[.pointer none,.pointer (some ⟨p',0,none⟩)] 152)).drew.heap[W1.heap.size]?=some (.cells #[.pointer none,.pointer (some ⟨p',0,none⟩)] 152 (0,0)):=heap_at W1 _ rfl
 obtain ⟨W2,hW2⟩:∃ W2,(W1.alloc (.cells #[.pointer none,.pointer (some ⟨p',0,none⟩)] 152)).drew=W2:=⟨_,rfl⟩
 rw [hW2] at hx2 hb2 ⊢
 clear hW2 hC0 hlk
 have hlk:=fun y=>hlk2 W2 hx2 y
 clear hlk2
 have hb':=hx2.keep HB.out
 have hp':=hx2.keep HP.out
 clear b1 bl p0 pl1
 have b0:=(cell_of hb' 0).trans rfl
 have b2:=(cell_of hb' 2).trans rfl
 have bl:=lt_of hb'
 have p0:=(cell_of hp' 0).trans rfl
 have pl1:=lt_of hp'
 have HX2:=Lib.hid (HX1.out.trans' hx2)
 have HB2:=Lib.hid hb2
 have HB':=Lib.hid hb'
 clear hb' hp' hb2 hx2
 go_wp2_with fail
 have hC0:=af_drew W2
 refine pi_start (fun w'=>∃ x:After W2,w'=x.w) [] (by kernel_rfl) ?_
 refine pi_t 0 rfl (by kernel_rfl) (by kernel_rfl) (fun _ _ _ _ h=>h) (fun K hK=>?_)
 go_big_quiet_op
 refine hK _ ?_
 clear hK K
 refine pi_t 1 rfl (by kernel_rfl) (by kernel_rfl) (fun _ _ _ _ h=>h) (fun K hK=>?_)
 go_big_quiet_op
 refine hK _ ?_
 clear hK K
 refine pi_t 2 rfl (by kernel_rfl) (by kernel_rfl) (fun _ _ _ _ h=>h) (fun K hK=>?_)
 go_big_quiet_op
 refine hK _ ?_
 clear hK K
 refine pi_t 4 rfl (by kernel_rfl) (by kernel_rfl) (fun _ _ _ _ h=>h) (fun K hK=>?_)
 go_big_quiet_op
 refine hK _ ?_
 clear hK K
 refine pi_c 3 (by assumption) rfl (by kernel_rfl) (by kernel_rfl) (fun _ _ _ _ h=>h) (fun K hK=>?_)
 go_big_quiet_op
 refine hK _ ?_
 clear hK K
 refine pi_c 5 (by assumption) rfl (by kernel_rfl) (by kernel_rfl) (fun _ _ _ _ h=>h) (fun K hK=>?_)
 go_big_quiet_op
 refine hK _ ?_
 clear hK K
 refine pi_c 6 (by assumption) rfl (by kernel_rfl) (by kernel_rfl) (fun _ _ _ _ h=>h) (fun K hK=>?_)
 go_big_quiet_op
 refine hK _ ?_
 clear hK K
 refine pi_t 7 rfl (by kernel_rfl) (by kernel_rfl) (fun _ _ _ _ h=>h) (fun K hK=>?_)
 go_big_quiet_op
 refine hK _ ?_
 clear hK K
 refine pi_t 8 rfl (by kernel_rfl) (by kernel_rfl) (fun _ _ _ _ h=>h) (fun K hK=>?_)
 go_big_quiet_op
 refine hK _ ?_
 clear hK K
 refine pi_t 9 rfl (by kernel_rfl) (by kernel_rfl) (fun _ _ _ _ h=>h) (fun K hK=>?_)
 go_big_quiet_op
 refine hK _ ?_
 clear hK K
 refine pi_l 10 rfl (by kernel_rfl) (fun K hK=>?_)
 go_wp2
 refine hK _ _ (fun _ h=>af_step h (Ext.alloc' _ _)) ?_
 clear hK K
 refine pi_l 11 rfl (by kernel_rfl) (fun K hK=>?_)
 go_wp2
 refine hK _ _ (fun _ _=>⟨⟨_,(Ext.alloc' W2 _).drewR⟩,rfl⟩) ?_
 clear hK K
 refine pi_t 12 rfl (by kernel_rfl) (by kernel_rfl) (fun _ _ _ _ h=>h) (fun K hK=>?_)
 go_big_quiet_op
 refine hK _ ?_
 clear hK K
 refine pi_end (by kernel_rfl) ?_
 have hx3:Ext W2 (W2.alloc (.cells #[.pointer x2,.pointer y2] 152)).drew:=(Ext.alloc' W2 _).drewR
 have hb3:(W2.alloc (.cells #[.pointer x2,.pointer y2] 152)).drew.heap[W2.heap.size]?=some (.cells #[.pointer x2,.pointer y2] 152 (0,0)):=heap_at W2 _ rfl
 obtain ⟨W3,hW3⟩:∃ W3,(W2.alloc (.cells #[.pointer x2,.pointer y2] 152)).drew=W3:=⟨_,rfl⟩
 rw [hW3] at hx3 hb3 ⊢
 clear hW3 hC0 hlk
 have hb':=hx3.keep HB'.out
 have hb2:=hx3.keep HB2.out
 clear b0 b2 bl p0 pl1
 have b0:=(cell_of hb' 0).trans rfl
 have bl:=lt_of hb'
 have t0:=(cell_of hb2 0).trans rfl
 have t1:=(cell_of hb2 1).trans rfl
 have tl:=lt_of hb2
 have u0:=(cell_of hb3 0).trans rfl
 have u1:=(cell_of hb3 1).trans rfl
 have ul:=lt_of hb3
 have HBB1:=Lib.hid hb2
 have HBB2:=Lib.hid hb3
 have HX3:=Lib.hid (HX2.out.trans' hx3)
 clear hb' hb2 hb3 hx3
 go_wp2
 go_ret2
 exact DoPost.same HL.out HX3.out (r:=none) rfl
end Go.Proofs.YtmalncfcgcebhaaGreatDoor
namespace Go.Proofs.YtmalncfcgcebhaaGreatDoor
set_option linter.unusedVariables false
open Go.Proofs Go.RowKit
def CellSeq (P:Program) (n gf:Nat) (lb:Array Value) (arg:Nat → Value → Prop) (many:Nat) (bx:Nat → Prop) (Bs:Nat) (w:World):Prop :=
 ∀ (l:Nat) (J:Nat → World → Prop) (W:World),(∀ b,bx b → W.heap[b]?=w.heap[b]?) → (∀ k W v,J k W → J k (W.setCell ⟨Bs,0,none⟩ v)) →
   (∀ k x W1,J k W1 → k < many → arg k x → YieldAt Fence.wide (n - 1) P l #[x] W1 fun e W'=>e=.returned (.bool true)∧J (k+1) W'∧∀ b,bx b → W'.heap[b]?=W1.heap[b]?) →
   J 0 W → CallsIn Fence.wide n P gf (#[.func (.yield l) #[] #[]] ++ lb) W fun e W'=>(∃ v,e=.returned v)∧J many W'
theorem cells_not {W:World} {b l:Nat} {cur:Array Value} {t:TypeId} {f:Nat × Nat} {o:Obj} (h:W.heap[b]?=some (.cells cur t f)) (hl:W.heap[l]?=some o) (ho:o.isCells=false):b ≠ l:=by
 rintro rfl
 rw [h] at hl
 cases hl
 cases ho
theorem put_other (W:World) {b l:Nat} (o:Obj) (h:b ≠ l):(W.putObj l o).heap[b]?=W.heap[b]?:=World.putObj_heap_other h
theorem wpIn_range_cells {P:Program} {n:Nat} {g:Operand} {p:Tmp} {assign body:Code} {Q:Exit → Act → World → Prop} {a:Act} {w:World} (h1:1≤n) {gf:Nat} {lb:Array Value}
 (hg:a.eval g=.func (.func gf) #[] lb) (eg:∀ args w,(callFunc gf args).run P w=.ok (.enter gf args) w) {arg:Nat → Value → Prop} {many:Nat} {bx:Nat → Prop} {Bs:Nat} (hbx:∀ b,bx b → b < w.heap.size) (hBs:Bs < w.heap.size)
 (hseq:CellSeq P (n - 1) gf lb arg many bx Bs w) (I:Nat → World → Prop) (h0:I 0 w)
 (hI1:∀ k W v,I k W → I k (W.setCell ⟨Bs,0,none⟩ v)) (hI2:∀ k W o,I k W → I k (W.alloc o)) (hI3:∀ k W l o o',I k W → w.heap.size≤l → W.heap[l]?=some o → o.isCells=false → I k (W.putObj l o')) (a₁:Value → Act)
 (hassign:∀ (l:Nat) (x:Value) (W:World) (K:Act → World → Prop),K (a₁ x) W →
  assign.wpIn (Fence.wide.inRound l) (n - 1 - 1) P (Exit.then K (fun _ _ _=>False)) { tmps:=(#[p].zip #[x]).foldl (fun t (p,v)=>t.setIfInBounds p v) a.tmps,defers:=[] } W)
 (hbody:∀ (l k:Nat) (x:Value) (W:World),I k W → k < many → arg k x →
  body.wpIn (Fence.wide.inRound l) (n - 1 - 1) P (fun e a' W'=>e=.normal∧KeepsFrom w.heap.size W W'∧I (k+1) W'∧∀ b,bx b → W'.heap[b]?=W.heap[b]?) (a₁ x) W)
 (hdone:∀ (D:Nat) (W:World),w.heap.size≤D → I many W → W.heap[D]?=some (.deferred (some [])) → Q .normal { a with defers:={ target:=.collected D,args:=#[] } :: a.defers } W) :
 (Code.rangeFunc g #[p] assign body).wpIn Fence.wide n P Q a w:=by
 refine wpIn_rangeFunc ?_
 intro fn hfn
 obtain ⟨rec,hrec⟩:∃ rec:LoopState → Option Code → Loop,rec=fun st pe=>{ state:=st,pending:=pe,fn,tmps:=a.tmps,params:=#[p],assign,body,defers:=w.heap.size }:=⟨_,rfl⟩
 obtain ⟨W1,hW1⟩:∃ W1,(w.alloc (.deferred (some []))).alloc (.loop (rec .ready none))=W1:=⟨_,rfl⟩
 have hL1:W1.heap[w.heap.size+1]?=some (.loop (rec .ready none)):=by rw [← hW1]; exact heap_at _ _ (by simp)
 have hK1:W1.heap[w.heap.size]?=some (.deferred (some [])):=by rw [← hW1,heap_old _ _ (by simp)]; exact heap_at _ _ rfl
 refine ⟨w.heap.size+1,[{ target:=.collected w.heap.size,args:=#[] }],W1,{ target:=.fn (.func gf) lb,args:=#[.func (.yield (w.heap.size+1)) #[] #[]] },W1,gf,
  #[.func (.yield (w.heap.size+1)) #[] #[]] ++ lb,W1, ?_, ?_,fun _ _=>trivial, ?_,fun _=>h1, ?_⟩
 · rw [← hW1,hrec]; exact run_enterLoop_outer _ _ _ _ _
 · simp only [resolve,hg]
   simp [go_sem]
 · simp [invoke,go_sem,eg]
 refine (hseq (w.heap.size+1) (fun k W=>I k W∧W.heap[w.heap.size+1]?=some (.loop (rec .ready none))∧W.heap[w.heap.size]?=some (.deferred (some []))) W1 ?_ ?_ ?_ ⟨?_,hL1,hK1⟩).mono ?_
 · intro b hb
   have:=hbx b hb
   rw [← hW1,heap_old _ _ (by simp; omega),heap_old _ _ this]
 · rintro k W v ⟨h2,h3,h4⟩
   exact ⟨hI1 k W v h2,(setCell_other _ _ (by omega)).trans h3,(setCell_other _ _ (by omega)).trans h4⟩
 · rintro k x W ⟨hi,hl,hk⟩ hlt hx
   have hy:=run_yield (P:=P) (args:=#[x]) hl (by rw [hrec]; rfl)
   rw [hrec] at hy
   refine ⟨fn,_,assign,body,hy,roundIn_of_wpIn hfn (hassign _ x W _ ?_)⟩
   refine ⟨_,run_beginRound hl (by rw [hrec]), ?_⟩
   have hl2:(W.putObj (w.heap.size+1) (.loop { rec .ready none with state:=.busy })).heap[w.heap.size+1]?=some (.loop { rec .ready none with state:=.busy }):=World.putObj_heap_same (lt_of hl)
   have hk2:(W.putObj (w.heap.size+1) (.loop { rec .ready none with state:=.busy })).heap[w.heap.size]?=some (.deferred (some [])):=(put_other _ _ (by omega)).trans hk
   refine wpIn_mono (hbody _ k x _ (hI3 k W _ _ _ hi (by omega) hl rfl) hlt hx) ?_
   rintro e a3 W3 ⟨rfl,hkf,hi3,hb3⟩
   have hl3:=hkf.same _ _ (by omega) hl2 rfl
   have hk3:=hkf.same _ _ (Nat.le_refl _) hk2 rfl
   have hr:=run_endRound (P:=P) none hl3
   refine ⟨_,_,hr,rfl,⟨hI3 _ _ _ _ _ hi3 (by omega) hl3 rfl, ?_,(put_other _ _ (by omega)).trans hk3⟩,fun b hb=>?_⟩
   · rw [hrec]
     rw [hrec] at hl3
     exact World.putObj_heap_same (lt_of hl3)
   · have:=hbx b hb
     exact (put_other _ _ (by omega)).trans ((hb3 b hb).trans (put_other _ _ (by omega)))
 · rw [← hW1]; exact hI2 _ _ _ (hI2 _ _ _ h0)
 · rintro e W2 ⟨⟨v,rfl⟩,hi,hl,hk⟩
   exact ⟨none,_,by have:=run_endLoop (P:=P) hl (by rw [hrec]; simp); rw [hrec] at this; exact this,hdone _ _ (Nat.le_refl _) (hI3 _ _ _ _ _ hi (by omega) hl rfl) ((put_other _ _ (by omega)).trans hk)⟩
end Go.Proofs.YtmalncfcgcebhaaGreatDoor
namespace Go.Proofs.YtmalncfcgcebhaaGreatDoor
set_option linter.unusedVariables false
open Go.Proofs Go.RowKit
attribute [local go_sem] Oper.semAt_some
def splitL:List UInt8 → List (List UInt8)
 | []=>[[]]
 | c :: r=>if c=10 then [] :: splitL r else (c :: (splitL r).headD []) :: (splitL r).tail
theorem splitL_ne (l:List UInt8):splitL l ≠ []:=by
 cases l with
 | nil=>simp [splitL]
 | cons c r=>unfold splitL; split <;> simp
theorem splitL_app (l r:List UInt8):splitL (l ++ 10 :: r)=splitL l ++ splitL r:=by
 induction l with
 | nil=>simp [splitL]
 | cons c l ih =>
   rw [List.cons_append,splitL,splitL,ih]
   by_cases h:c=10
   · rw [if_pos h,if_pos h]; rfl
   · rw [if_neg h,if_neg h]
     obtain ⟨x,t,e⟩:∃ x t,splitL l=x :: t:=by
      cases hs:splitL l with
      | nil=>exact absurd hs (splitL_ne l)
      | cons x t=>exact ⟨x,t,rfl⟩
     rw [e]
     rfl
theorem ixb_ge (c:UInt8):∀ l:List UInt8,-1≤Lib.indexByte l c
 | []=>by simp [Lib.indexByte]
 | b :: l=>by
   have:=ixb_ge c l
   unfold Lib.indexByte
   split
   · omega
   · split <;> omega
theorem ixb_eq (c:UInt8) (l:List UInt8):Lib.indexByte (c :: l) 10=if c=10 then 0 else if Lib.indexByte l 10 < 0 then -1 else Lib.indexByte l 10+1:=by
 have h1:=ixb_ge 10 l
 show (if (c == 10)=true then (0:Int) else if (Lib.indexByte l 10 == -1)=true then -1 else Lib.indexByte l 10+1)=_
 by_cases hc:c=10
 · rw [if_pos (by simpa using hc),if_pos hc]
 · rw [if_neg (by simpa using hc),if_neg hc]
   by_cases h2:Lib.indexByte l 10 < 0
   · rw [if_pos (by simp; omega),if_pos h2]
   · rw [if_neg (by simp; omega),if_neg h2]
theorem splitL_none {l:List UInt8} (h:Lib.indexByte l 10 < 0):splitL l=[l]:=by
 induction l with
 | nil=>rfl
 | cons c l ih =>
   rw [ixb_eq] at h
   by_cases hc:c=10
   · subst hc; simp at h
   · rw [if_neg hc] at h
     have h2:Lib.indexByte l 10 < 0:=by
      by_cases h3:Lib.indexByte l 10 < 0
      · exact h3
      · rw [if_neg h3] at h; omega
     rw [splitL,if_neg hc,ih h2]
     rfl
theorem indexByte_split {l:List UInt8} {j:Nat} (h:Lib.indexByte l 10=(j:Int)):∃ a b,l=a ++ 10 :: b∧a.length=j∧∀ c ∈ a,c ≠ 10:=by
 induction l generalizing j with
 | nil=>simp [Lib.indexByte] at h
 | cons c l ih =>
   rw [ixb_eq] at h
   by_cases hc:c=10
   · rw [if_pos hc] at h
     exact ⟨[],l,by rw [hc]; rfl,by simp; omega,by simp⟩
   · rw [if_neg hc] at h
     by_cases h3:Lib.indexByte l 10 < 0
     · rw [if_pos h3] at h; omega
     · rw [if_neg h3] at h
       obtain ⟨a,b,h4,h5,h6⟩:=ih (j:=j - 1) (by omega)
       refine ⟨c :: a,b,by rw [h4]; rfl,by simp; omega,fun d hd=>?_⟩
       rcases List.mem_cons.1 hd with rfl | hd
       · exact hc
       · exact h6 d hd
theorem splitL_word {a:List UInt8} (h:∀ c ∈ a,c ≠ 10):splitL a=[a]:=by
 induction a with
 | nil=>rfl
 | cons c a ih =>
   rw [splitL,if_neg (h c (by simp)),ih (fun d hd=>h d (by simp [hd]))]
   rfl
theorem splitL_some {l:List UInt8} {j:Nat} (h:Lib.indexByte l 10=(j:Int)):j < l.length∧splitL l=l.take j :: splitL (l.drop (j+1)):=by
 obtain ⟨a,b,rfl,rfl,h6⟩:=indexByte_split h
 refine ⟨by simp, ?_⟩
 rw [splitL_app,splitL_word h6]
 simp
theorem SIxByte_c (s:ByteArray) (c:Int) (w:World) :
 Calls Tryz.prog 162 #[.string s,.int .u8 c] w fun e w'=>e=.returned (.int .i64 (Lib.indexByte s.data.toList c.toNat.toUInt8))∧w'=w:=Any.stringslite_IndexByte { Tryz.ixbL with } s c w
set_option maxRecDepth 20000 in
set_option maxHeartbeats 4000000 in
theorem SIndex_c (s:ByteArray) (w:World) :
 Calls Tryz.prog 203 #[.string s,.string ⟨#[10]⟩] w fun e w'=>e=.returned (.int .i64 (Lib.indexByte s.data.toList 10))∧w'=w:=by
 by_cases hs:s=⟨#[10]⟩
 · subst hs
   go_enter Tryz.func203,Tryz.ntmps203
   go_wp2_with fail
   go_ret
   exact ⟨rfl,rfl⟩
 · have hbe:(([10]:List UInt8) == s.toList)=false:=by
    rw [beq_eq_false_iff_ne]
    intro e
    have h2:s=⟨s.toList.toArray⟩:=by rw [Lib.toList_data]
    rw [← e] at h2
    exact hs h2
   have hc0:(⟨#[10]⟩:ByteArray)[0].toNat=10:=rfl
   go_enter Tryz.func203,Tryz.ntmps203
   go_wp2_with fail
   refine Calls.mono (SIxByte_c s _ w) ?_
   rintro e w1 ⟨rfl,rfl⟩
   go_wp2
   go_ret
   exact ⟨rfl,rfl⟩
theorem Index_c (s:ByteArray) (w:World) :
 Calls Tryz.prog 160 #[.string s,.string ⟨#[10]⟩] w fun e w'=>e=.returned (.int .i64 (Lib.indexByte s.data.toList 10))∧w'=w:=by
 have HS:=Lib.hid (SIndex_c s w)
 go_enter Tryz.func160,Tryz.ntmps160
 go_wp2_with fail
 refine Calls.mono HS.out ?_
 rintro e w1 ⟨rfl,rfl⟩
 go_wp2
 go_ret
 exact ⟨rfl,rfl⟩
theorem SplitSeq_c (s:ByteArray) (w:World) :
 Calls Tryz.prog 77 #[.string s,.string ⟨#[10]⟩] w fun e w'=>e=.returned (.func (.func 159) #[] #[.pointer (some ⟨w.heap.size+1,0,none⟩),.pointer (some ⟨w.heap.size,0,none⟩),.pointer (some ⟨w.heap.size+2,0,none⟩)]) ∧
  w'=((w.alloc (.cells #[.string s] 9)).alloc (.cells #[.string ⟨#[10]⟩] 9)).alloc (.cells #[.int .i64 0] 3):=by
 have hmf:∀ (fn:Fn) (first cap:Array Value) (w:World),(Instr.makeFunc fn first cap).run Tryz.prog w=.ok (.func fn first cap) w:=fun _ _ _ _=>rfl
 go_enter Tryz.func77,Tryz.ntmps77
 go_wp2
 go_ret
 exact ⟨rfl,rfl⟩
def bx3 (a b c:Nat) (k:Nat):Prop:=k=a ∨ k=b ∨ k=c
def leftS (Bs:Nat) (W:World):Nat:=match W.cell? ⟨Bs,0,none⟩ with | some (.string s)=>s.size | _=>0
set_option maxRecDepth 100000 in
set_option maxHeartbeats 4000000 in
theorem split_in (n Bq Bs Bv:Nat) (t:ByteArray) (ht:t.size≤100000000) (w:World) (hq:w.heap[Bq]?=some (.cells #[.string ⟨#[10]⟩] 9 (0,0))) (hs:w.heap[Bs]?=some (.cells #[.string t] 9 (0,0))) (hv:w.heap[Bv]?=some (.cells #[.int .i64 0] 3 (0,0))) (nq:Bq ≠ Bs) (nv:Bv ≠ Bs) :
 CellSeq Tryz.prog n 159 #[.pointer (some ⟨Bq,0,none⟩),.pointer (some ⟨Bs,0,none⟩),.pointer (some ⟨Bv,0,none⟩)] (fun k x=>∃ s:ByteArray,x=.string s∧(splitL t.data.toList)[k]?=some s.data.toList) (splitL t.data.toList).length (bx3 Bq Bs Bv) Bs w:=by
 intro l J W hbx hJ hY h0
 have hq:=(hbx Bq (.inl rfl)).trans hq
 have hs:=(hbx Bs (.inr (.inl rfl))).trans hs
 have hv:=(hbx Bv (.inr (.inr rfl))).trans hv
 refine callsIn_of_wp Tryz.func159 rfl trivial ?_ rfl
 simp only [Tryz.ntmps159,List.size_toArray,List.length_cons,List.length_nil,Nat.reduceAdd,Nat.reduceSub,Array.replicate_succ,Array.replicate_zero,List.push_toArray,List.append_toArray,List.nil_append,List.cons_append]
 have c0:=(cell_of hq 0).trans rfl
 gi_wp2
 gi_loopw [7,8] (fun _ _ wr=>∃ (s:ByteArray) (pre:List (List UInt8)),splitL t.data.toList=pre ++ splitL s.data.toList∧s.size≤t.size∧wr.heap[Bq]?=some (.cells #[.string ⟨#[10]⟩] 9 (0,0))∧wr.heap[Bs]?=some (.cells #[.string s] 9 (0,0))∧wr.heap[Bv]?=some (.cells #[.int .i64 0] 3 (0,0))∧J pre.length wr)
  (fun _ _ wr=>leftS Bs wr)
 case atStart=>exact ⟨t,[],rfl,Nat.le_refl _,hq,hs,hv,h0⟩
 case round =>
  obtain ⟨s,pre,hp,hz,rq,rs,rv,hJ0⟩:=hrel
  have q0:=(cell_of rq 0).trans rfl
  have s0:=(cell_of rs 0).trans rfl
  have sf:=frozen_of rs 0
  have sl:=lt_of rs
  have v0:=(cell_of rv 0).trans rfl
  have HL:leftS Bs wr=s.size:=by unfold leftS; rw [show wr.cell? ⟨Bs,0,none⟩=some (.string s) from s0]
  have HP:=Lib.hid hp
  have HLL:=Lib.hid HL
  have hzs:=Lib.size_eq s
  gi_wp2_with fail
  refine ⟨trivial,fun h=>(by cases h),(callsIn_wide.2 (Index_c s _)).mono ?_⟩
  rintro e w1 ⟨rfl,rfl⟩
  by_cases hlt:Lib.indexByte s.data.toList 10 < 0
  · have hsp:=splitL_none hlt
    rw [hsp] at hp
    have HP2:=Lib.hid hp
    have hlen:(splitL t.data.toList).length=pre.length+1:=by rw [hp]; simp
    obtain ⟨fn,tmps,assign,body,hy,hR⟩:=hY pre.length (.string s) w1 hJ0 (by omega) ⟨s,rfl,by rw [hp]; simp⟩
    generalize Lib.indexByte s.data.toList 10=ix at *
    clear hp hsp
    gi_wp2
    refine ⟨fun h=>(by cases h),hR.mono ?_⟩
    rintro e W3 ⟨rfl,hJ3,hb3⟩
    gi_wp2
    go_end0
    rw [hlen]
    exact ⟨⟨_,rfl⟩,hJ3⟩
  · obtain ⟨j,hj⟩:∃ j:Nat,Lib.indexByte s.data.toList 10=(j:Int):=⟨(Lib.indexByte s.data.toList 10).toNat,by omega⟩
    obtain ⟨hjl,hsp⟩:=splitL_some hj
    rw [hj]
    rw [hsp] at hp
    have hlen:(splitL t.data.toList).length=pre.length+1+(splitL (s.data.toList.drop (j+1))).length:=by rw [hp]; simp; omega
    have hpos:=List.length_pos_iff.2 (splitL_ne (s.data.toList.drop (j+1)))
    obtain ⟨fn,tmps,assign,body,hy,hR⟩:=hY pre.length (.string (s.extract 0 j)) w1 hJ0 (by omega) ⟨_,rfl,by rw [hp,Lib.extract_data]; simp⟩
    have HP2:=Lib.hid hp
    have hjs:(j:Int)≤(s.size:Int):=by omega
    have hsl:∀ W,(Instr.slice 9 (.string s) none (some (.int .i64 (j:Int))) none).run Tryz.prog W=.ok (.string (s.extract 0 j)) W:=fun W=>by
     rw [run_slice_string_to_if (w:=W) 9 s .i64 _ Tryz.underlying9,if_pos ⟨by omega,by omega⟩]; rfl
    obtain ⟨m,hm⟩:∃ m:Nat,(j:Int)+1=(m:Int):=⟨j+1,by omega⟩
    have hmj:m=j+1:=by omega
    have hms:(m:Int)≤(s.size:Int):=by omega
    have hmt:(m:Int).toNat=m:=by omega
    have hsl2:∀ W,(Instr.slice 9 (.string s) (some (.int .i64 (m:Int))) none none).run Tryz.prog W=.ok (.string (s.extract m s.size)) W:=fun W=>by
     rw [run_slice_string_from_if (w:=W) 9 s .i64 _ Tryz.underlying9,if_pos ⟨by omega,by omega⟩]; rfl
    have HMJ:=Lib.hid hmj
    clear hp hsp hj hlt hjl hpos hmj
    gi_wp2
    refine ⟨fun h=>(by cases h),hR.mono ?_⟩
    rintro e W3 ⟨rfl,hJ3,hb3⟩
    have rq3:=(hb3 Bq (.inl rfl)).trans rq
    have rs3:=(hb3 Bs (.inr (.inl rfl))).trans rs
    have rv3:=(hb3 Bv (.inr (.inr rfl))).trans rv
    have q0':=(cell_of rq3 0).trans rfl
    have s0':=(cell_of rs3 0).trans rfl
    have sf':=frozen_of rs3 0
    have sl':=lt_of rs3
    have HJ3:=Lib.hid hJ3
    have HRQ:=Lib.hid rq3
    have HRS:=Lib.hid rs3
    have HRV:=Lib.hid rv3
    have v0':=(cell_of rv3 0).trans rfl
    clear q0 s0 sf sl v0 hb3 hJ3 hR hy rq rs rv hq hs hv hJ0 rq3 rs3 rv3 HL
    gi_wp2
    refine ⟨fun _ _=>trivial, ?_⟩
    simp [go_sem,Oper.semAt,execOp,hsl2]
    gi_wp2
    refine ⟨fun _ _=>trivial, ?_⟩
    simp [go_sem,Oper.semAt,execOp,s0',sf']
    gi_wp2
    go_roundw
    case rel =>
     refine ⟨s.extract m s.size,pre ++ [s.data.toList.take j], ?_, ?_,(setCell_other _ _ nq).trans HRQ.out,setCell_same HRS.out 0 _,(setCell_other _ _ nv).trans HRV.out, ?_⟩
     · rw [HP2.out,Lib.extract_data,HMJ.out]
       have:(s.data.toList.drop (j+1)).take (s.size - (j+1))=s.data.toList.drop (j+1):=List.take_of_length_le (by rw [List.length_drop,← hzs]; omega)
       rw [this]; simp
     · have:=Lib.size_eq (s.extract m s.size)
       rw [Lib.extract_data,List.length_take,List.length_drop] at this
       have:=HMJ.out
       omega
     · rw [List.length_append,List.length_singleton]
       exact hJ _ _ _ HJ3.out
    case measure =>
     have e1:leftS Bs (W3.setCell ⟨Bs,0,none⟩ (.string (s.extract m s.size)))=(s.extract m s.size).size:=by
      unfold leftS
      rw [show (W3.setCell ⟨Bs,0,none⟩ (.string (s.extract m s.size))).cell? ⟨Bs,0,none⟩=some (.string (s.extract m s.size)) from (cell_of (setCell_same HRS.out 0 _) 0).trans rfl]
     rw [e1,HLL.out]
     have:=Lib.size_eq (s.extract m s.size)
     rw [Lib.extract_data,List.length_take,List.length_drop] at this
     have:=HMJ.out
     omega
end Go.Proofs.YtmalncfcgcebhaaGreatDoor
namespace Go.Proofs.YtmalncfcgcebhaaGreatDoor
set_option linter.unusedVariables false
open Go.Proofs Go.RowKit
attribute [local go_sem] Oper.semAt_some
def LineIs (S:St) (s:ByteArray) (R:Option (List UInt8) × St):Prop :=
 ∀ (w:World) (N p m:Nat) (l:List (Nat × Th)) (last:Nat),AgAt w N p m l last → stOf l last=S → 10≤N → Tabs w → last < 1000000 → Calls Tryz.prog 15 #[.pointer (some ⟨p,0,none⟩),.string s] w (LinePost w N p m l last R)
def stepR (F:St → List UInt8 → Option (List UInt8) × St) (q:List (List UInt8) × St) (x:List UInt8):List (List UInt8) × St:=(q.1 ++ (F q.2 x).1.toList,(F q.2 x).2)
def runK (F:St → List UInt8 → Option (List UInt8) × St) (S:St) (L:List (List UInt8)):List (List UInt8) × St:=L.foldl (stepR F) ([],S)
theorem runK_snoc (F:St → List UInt8 → Option (List UInt8) × St) (S:St) (L:List (List UInt8)) (x:List UInt8):runK F S (L ++ [x])=stepR F (runK F S L) x:=by unfold runK; rw [List.foldl_append]; rfl
def st0:St:=⟨[],0⟩
def strVs (l:List (List UInt8)):List Value:=l.map strV
def OutAt (n0 Bo:Nat) (o:List (List UInt8)) (W:World):Prop:=∃ v,W.heap[Bo]?=some (.cells #[v] 75 (0,0))∧W.ownsRow n0 9 1 v o.length (strVs o)
structure RunI (n0 r0 p m Ba Bo:Nat) (q:List (List UInt8) × St) (w W:World):Prop where
 ag:∃ l last,AgAt W n0 p m l last∧stOf l last=q.2
 ba:W.heap[Ba]?=some (.cells #[.pointer (some ⟨p,0,none⟩)] 32 (0,0))
 out:OutAt r0 Bo q.1 W
 ext:Ext w W
theorem own_keep {w w':World} {B n size:Nat} {e:TypeId} {v:Value} {xs:List Value} (h:w.ownsRow B e size v n xs) (hk:∀ g,v.ownBlock=some g → w'.heap[g]?=w.heap[g]?):w'.ownsRow B e size v n xs:=by
 obtain ⟨h1,h2⟩:=h
 refine ⟨h1, ?_⟩
 rcases h2 with h2 | ⟨g,cap,cur,rfl,hb,hh,h3⟩
 · exact .inl h2
 · exact .inr ⟨g,cap,cur,rfl,hb,(hk g rfl).trans hh,h3⟩
theorem own_typ {w:World} {B n size:Nat} {e:TypeId} {v:Value} {xs:List Value} (h:w.ownsRow B e size v n xs) {g:Nat} (hg:v.ownBlock=some g):∃ cur,w.heap[g]?=some (.cells cur e (0,0)):=by
 rcases h.2 with ⟨rfl,_⟩ | ⟨g',cap,cur,rfl,_,hh,_⟩
 · cases hg
 · simp only [Value.ownBlock,Option.some.injEq] at hg
   subst hg
   exact ⟨cur,hh⟩
theorem AgAt.notF {w:World} {N p m:Nat} {l:List (Nat × Th)} {last:Nat} (h:AgAt w N p m l last) {k:Nat} {cur:Array Value} {t:TypeId} {f:Nat × Nat} (hk:w.heap[k]?=some (.cells cur t f)) (h1:t ≠ 2) (h2:t ≠ 240) (h3:t ≠ 40) (h4:t ≠ 144):¬ AgF p m l k:=by
 have key:∀ {cur':Array Value} {t':TypeId} {f':Nat × Nat},w.heap[k]?=some (.cells cur' t' f') → t'=t:=fun h'=>by rw [h'] at hk; injection hk with hk; injection hk
 rintro (rfl | rfl | ⟨x,hx,hc⟩)
 · exact h4 (key h.hp).symm
 · obtain ⟨es,c,hm⟩:=h.ism
   rw [hm] at hk; cases hk
 · have hth:=h.th x hx
   cases hxt:x.2 with
   | st kk C B =>
     rw [hxt] at hc hth
     obtain ⟨cu,h5⟩:=KAt.isc hth hc
     exact h1 (key h5).symm
   | wi p' b C B n sm bk =>
     rw [hxt] at hc hth
     obtain ⟨cap,s1,_⟩:=WAt.st hth
     obtain ⟨cu,s2,_⟩:=WAt.row hth
     rcases hc with rfl | rfl | hc | ⟨j,hj,hc⟩
     · exact h2 (key s1).symm
     · exact h3 (key s2).symm
     · obtain ⟨cu,h5⟩:=KAt.isc (WAt.sum hth) hc
       exact h1 (key h5).symm
     · obtain ⟨cu,h5⟩:=KAt.isc (WAt.bks hth j hj) hc
       exact h1 (key h5).symm
theorem AgAt.beside {S:Nat → Prop} {w w':World} {N p m:Nat} {l:List (Nat × Th)} {last:Nat} (h:AgAt w N p m l last) (hM:Mod S w w') (hS:∀ k,S k → k < w.heap.size → ∃ cur t f,w.heap[k]?=some (.cells cur t f)∧(t=9 ∨ t=75)):AgAt w' N p m l last:=by
 refine h.keepS hM (fun k hk hl=>?_) (fun k hk hk2=>?_)
 · obtain ⟨cur,t,f,h1,h2⟩:=hS k hk hl
   exact .inl ⟨cur,t,f,h1,.inr (.inr (.inr (.inr h2)))⟩
 · obtain ⟨cur,t,f,h1,h2⟩:=hS k hk2 (h.flt hk)
   exact h.notF h1 (by rcases h2 with rfl | rfl <;> decide) (by rcases h2 with rfl | rfl <;> decide) (by rcases h2 with rfl | rfl <;> decide) (by rcases h2 with rfl | rfl <;> decide) hk
theorem AgAt.putO {w:World} {N p m:Nat} {l:List (Nat × Th)} {last:Nat} (h:AgAt w N p m l last) {b:Nat} {o o':Obj} (hb:w.heap[b]?=some o) (ho:o.isCells=false) (hm:b ≠ m):AgAt (w.putObj b o') N p m l last:=by
 have hM:Mod (fun k=>k=b) w (w.putObj b o'):=⟨rfl,rfl,rfl,by simp [World.putObj],fun k hk hn=>World.putObj_heap_other hn⟩
 refine h.keepS hM (fun k hk hl=>by subst hk; exact .inr ⟨o,hb,ho⟩) (fun k hk hk2=>?_)
 subst hk2
 rcases hk with rfl | rfl | ⟨x,hx,hc⟩
 · have:=h.hp
   rw [hb] at this; cases this; cases ho
 · exact hm rfl
 · obtain ⟨cur,t,f,h1,_⟩:=(h.th x hx).csT hc
   rw [hb] at h1; cases h1; cases ho
theorem OutAt.keep {r0 Bo:Nat} {o:List (List UInt8)} {W W':World} (h:OutAt r0 Bo o W) (hk:∀ k,(∃ cur t f,W.heap[k]?=some (.cells cur t f)∧(t=9 ∨ t=75)) → k=Bo ∨ r0≤k → W'.heap[k]?=W.heap[k]?):OutAt r0 Bo o W':=by
 obtain ⟨v,h1,h2⟩:=h
 refine ⟨v,(hk Bo ⟨_,_,_,h1,.inr rfl⟩ (.inl rfl)).trans h1,own_keep h2 fun g hg=>?_⟩
 obtain ⟨cur,h3⟩:=own_typ h2 hg
 exact hk g ⟨cur,_,_,h3,.inl rfl⟩ (.inr (own_geB h2 hg))
theorem RunI.line {n0 r0 p m Ba Bo:Nat} {q:List (List UInt8) × St} {w W W':World} (h:RunI n0 r0 p m Ba Bo q w W) (hn:w.heap.size≤n0) {l l':List (Nat × Th)} {last last':Nat} (hA:AgAt W n0 p m l last) (hM:Mod (AgF p m l) W W') (hA':AgAt W' n0 p m l' last') {S':St} (hs:stOf l' last'=S'):RunI n0 r0 p m Ba Bo (q.1,S') w W':=by
 refine ⟨⟨l',last',hA',hs⟩,hM.keep h.ba (hA.notF h.ba (by decide) (by decide) (by decide) (by decide)),h.out.keep fun k ⟨cur,t,f,h1,h2⟩ _=>hM.block k (lt_of h1) (hA.notF h1 ?_ ?_ ?_ ?_),Below.trans h.ext (hM.below h.ext.size fun k hk=>Nat.le_trans hn (hA.flo hk))⟩
 all_goals (rcases h2 with rfl | rfl <;> decide)
theorem RunI.app {n0 r0 p m Ba Bo:Nat} {q:List (List UInt8) × St} {w W W':World} {v v':Value} {y:List UInt8} {c:Obj} (h:RunI n0 r0 p m Ba Bo q w W) (hr:w.heap.size≤r0) (hBo:w.heap.size≤Bo) (hba:Ba ≠ Bo) (hv:W.heap[Bo]?=some (.cells #[v] 75 (0,0))) (hown:W.ownsRow r0 9 1 v q.1.length (strVs q.1))
 (hg:(W.alloc c).grownBy W' v.ownBlock) (hown':W'.ownsRow r0 9 1 v' (q.1.length+1) (strVs q.1 ++ [strV y])):RunI n0 r0 p m Ba Bo (q.1 ++ [y],q.2) w (W'.setCell ⟨Bo,0,none⟩ v')∧Mod (fun k=>v.ownBlock=some k ∨ k=Bo) W (W'.setCell ⟨Bo,0,none⟩ v'):=by
 have hM1:Mod (fun k=>v.ownBlock=some k ∨ k=Bo) (W.alloc c) W':=⟨hg.os,hg.tape,hg.output,hg.size,fun k hk hn=>hg.block k hk (fun e=>hn (.inl e.symm))⟩
 have hM2:Mod (fun k=>v.ownBlock=some k ∨ k=Bo) W' (W'.setCell ⟨Bo,0,none⟩ v'):=⟨rfl,rfl,rfl,by rw [size_setCell]; exact Nat.le_refl _,fun k hk hn=>setCell_other _ _ (fun e=>hn (.inr e))⟩
 have hM:Mod (fun k=>v.ownBlock=some k ∨ k=Bo) W (W'.setCell ⟨Bo,0,none⟩ v'):=(((Ext.alloc' W c).mod _).trans hM1).trans hM2
 have hne:∀ g,v.ownBlock=some g → g ≠ Bo:=fun g hg2 e=>by
  obtain ⟨cur,h3⟩:=own_typ hown hg2
  subst e
  exact blk_ne h3 hv (by decide) rfl
 have hbo:W'.heap[Bo]?=some (.cells #[v] 75 (0,0)):=by
  rw [hg.block Bo (by rw [size_alloc]; exact Nat.lt_succ_of_lt (lt_of hv)) (fun e=>hne _ e.symm rfl),heap_old _ _ (lt_of hv)]
  exact hv
 have hbas:¬ (v.ownBlock=some Ba ∨ Ba=Bo):=by
  rintro (e | e)
  · obtain ⟨cur,h3⟩:=own_typ hown e
    exact blk_ne h3 h.ba (by decide) rfl
  · exact hba e
 refine ⟨⟨?_,hM.keep h.ba hbas,⟨v',setCell_same hbo 0 _, ?_⟩, ?_⟩,hM⟩
 · obtain ⟨l,last,h1,h2⟩:=h.ag
   refine ⟨l,last,h1.beside hM fun k hk _=>?_,h2⟩
   rcases hk with hk | rfl
   · obtain ⟨cur,h3⟩:=own_typ hown hk
     exact ⟨cur,_,_,h3,.inl rfl⟩
   · exact ⟨_,_,_,hv,.inr rfl⟩
 · have e1:strVs (q.1 ++ [y])=strVs q.1 ++ [strV y]:=by simp [strVs]
   rw [e1,List.length_append,List.length_singleton]
   refine own_keep hown' fun g hg2=>setCell_other _ _ (fun e=>?_)
   obtain ⟨cur,h3⟩:=own_typ hown' hg2
   subst e
   exact blk_ne h3 hbo (by decide) rfl
 · refine Below.trans h.ext (hM.below h.ext.size fun k hk=>?_)
   rcases hk with hk | rfl
   · exact Nat.le_trans hr (own_geB hown hk)
   · exact hBo
theorem KeepsFrom.modC {S:Nat → Prop} {B:Nat} {W W':World} (h:Mod S W W') (hS:∀ k o,S k → B≤k → W.heap[k]?=some o → o.isCells=true):KeepsFrom B W W' :=
 ⟨h.size,fun k o hB hk ho=>(h.block k (lt_of hk) (fun hs=>by rw [hS k o hs hB hk] at ho; cases ho)).trans hk⟩
theorem AgAt.cellsF {w:World} {N p m:Nat} {l:List (Nat × Th)} {last:Nat} (h:AgAt w N p m l last) {k:Nat} {o:Obj} (hk:AgF p m l k) (hm:k ≠ m) (ho:w.heap[k]?=some o):o.isCells=true:=by
 rcases hk with rfl | rfl | ⟨x,hx,hc⟩
 · have:=h.hp
   rw [ho] at this; cases this; rfl
 · exact absurd rfl hm
 · obtain ⟨cur,t,f,h1,_⟩:=(h.th x hx).csT hc
   rw [ho] at h1; cases h1; rfl
end Go.Proofs.YtmalncfcgcebhaaGreatDoor
