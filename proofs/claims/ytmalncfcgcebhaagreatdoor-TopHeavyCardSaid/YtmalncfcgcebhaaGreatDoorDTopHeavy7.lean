/- Part. No condition. -/
import Derived.Test.YtmalncfcgcebhaaGreatDoorDTopHeavy2
import Derived.Test.YtmalncfcgcebhaaGreatDoorDTopHeavy3
import Derived.Test.YtmalncfcgcebhaaGreatDoorDTopHeavy6
import Derived.Test.YtmalncfcgcebhaaGreatDoorDTopHeavy4
import Derived.Laws.MakeOwn
import Derived.Laws.CopyOwn
namespace Go.Proofs.YtmalncfcgcebhaaGreatDoor
set_option linter.unusedVariables false
open Go.RowKit
def rowP (l:List Int) (W r:Nat):List Int:=(List.range W).map fun k=>l.getD (r*W+k) 0
theorem rowP_len (l:List Int) (W r:Nat):(rowP l W r).length=W:=by simp [rowP]
theorem rowP_get (l:List Int) {W r k:Nat} (h:k < W):(rowP l W r).getD k 0=l.getD (r*W+k) 0:=by simp [rowP,h]
theorem rowP_all {l:List Int} (h:allI l) (W r:Nat):∀ x∈rowP l W r,I64 x:=by
 intro x hx
 simp only [rowP,List.mem_map,List.mem_range] at hx
 obtain ⟨k,_,rfl⟩:=hx
 exact getD_i64 h _
def innF (l m:List Int) (W:Nat):Nat→Option Int
 | 0=>some 0
 | r+1=>(innF l m W r).bind fun best=>(dotF (rowP l W r) (rowP m W r) W).bind fun n=>some (bif decide (r=0) || decide (n < best) then n else best)
theorem innF_none {l m:List Int} {W r:Nat} (h:innF l m W r=none):∀ {n:Nat},r≤n→innF l m W n=none:=by
 intro n hn
 induction n with
 | zero=>obtain rfl:r=0:=by omega
         exact h
 | succ n ih =>
   rcases Nat.lt_or_ge n r with h1 | h1
   · obtain rfl:r=n+1:=by omega
     exact h
   · simp only [innF,ih h1,Option.bind_none]
def innV:Option Int→Value
 | some s=>.tuple #[.agg #[.int .i64 (hi s),.int .u64 (lo s)],.int .i64 0]
 | none=>.tuple #[.agg #[.int .i64 0,.int .u64 0],.int .i64 4]
theorem zbox {w0 wx:World} {b:Nat} (h:w0.heap[b]?=some (.cells #[.int .i64 0,.int .u64 0] 194 (0,0))) (hE:Ext w0 wx) :
 wx.cell? ⟨b,0,none⟩=some (.int .i64 0)∧wx.cell? ⟨b,1,none⟩=some (.int .u64 0)∧wx.frozen? ⟨b,0,none⟩=false∧wx.frozen? ⟨b,1,none⟩=false∧b < wx.heap.size :=
 have h':=hE.keep h
 ⟨(cell_of h' 0).trans rfl,(cell_of h' 1).trans rfl,frozen_of h' 0,frozen_of h' 1,lt_of h'⟩
set_option maxRecDepth 20000 in
set_option maxHeartbeats 4000000 in
theorem Inner_unlike (s b c s2 b2 c2:Nat) (C C2:Cfg) (lv lv2:Int) (R W R2 W2:Nat) (l l2:List Int) (w:World) (h:SAt w s b c C lv R W l) (h2:SAt w s2 b2 c2 C2 lv2 R2 W2 l2) (hp:PartsAt C lv C2 lv2) :
 Calls Tryz.prog 221 #[.pointer (some ⟨s,0,none⟩),.pointer (some ⟨s2,0,none⟩)] w fun e w'=>e=.returned (.tuple #[.agg #[.int .i64 0,.int .u64 0],.int .i64 5])∧Ext w w':=by
 have H:=Lib.hid h
 have H2:=Lib.hid h2
 clear h h2
 go_enter Tryz.func221,Tryz.ntmps221
 go_upto_region 1 with (fail)
 have hz0:=heap_at w (.cells #[.int .i64 0,.int .u64 0] 194) rfl
 have hE0:Ext w (w.alloc (.cells #[.int .i64 0,.int .u64 0] 194)):=Ext.alloc' _ _
 generalize w.alloc (.cells #[.int .i64 0,.int .u64 0] 194)=w0 at *
 have HZ0:=Lib.hid hz0
 clear hz0
 go_cut [34] (fun s34 wx=>s34=.bool true∧Ext w0 wx)
 case first =>
  cases hp
  all_goals
   go_wp2_with (first | (go_at_call 255; refine (SConfig_c s b c C lv R W l _ (H.out.ext (by (repeat' (first | exact Ext.refl _ | assumption | apply Ext.allocR | apply Ext.drewR | apply Ext.drewNR | (refine Ext.trans' ?_ (by assumption))))))).mono ?_; rintro e w1 ⟨rfl,hb1⟩) | (go_at_call 255; refine (SConfig_c s2 b2 c2 C2 lv2 R2 W2 l2 _ (H2.out.ext (by (repeat' (first | exact Ext.refl _ | assumption | apply Ext.allocR | apply Ext.drewR | apply Ext.drewNR | (refine Ext.trans' ?_ (by assumption))))))).mono ?_; rintro e w2 ⟨rfl,hb2⟩) | (go_at_call 256; refine (SLevel_c s b c C lv R W l _ (H.out.ext (by (repeat' (first | exact Ext.refl _ | assumption | apply Ext.allocR | apply Ext.drewR | apply Ext.drewNR | (refine Ext.trans' ?_ (by assumption))))))).mono ?_; rintro e w3 ⟨rfl,rfl⟩) | (go_at_call 256; refine (SLevel_c s2 b2 c2 C2 lv2 R2 W2 l2 _ (H2.out.ext (by (repeat' (first | exact Ext.refl _ | assumption | apply Ext.allocR | apply Ext.drewR | apply Ext.drewNR | (refine Ext.trans' ?_ (by assumption))))))).mono ?_; rintro e w4 ⟨rfl,rfl⟩))
   go_meet
   exact ⟨by first | rfl | simp [bne, *],by (repeat' (first | exact Ext.refl _ | assumption | apply Ext.allocR | apply Ext.drewR | apply Ext.drewNR | (refine Ext.trans' ?_ (by assumption))))⟩
 case rest =>
  obtain ⟨rfl,hEc⟩:=hcut
  obtain ⟨p0,p1,f0,f1,hl⟩:=zbox HZ0.out hEc
  go_wp2_with fail
  refine bodyPost_ret (v:=.tuple #[.agg #[.int .i64 0,.int .u64 0],.int .i64 5]) (by simp [results,Tryz.results221,go_sem, *]) rfl ⟨rfl, ?_⟩
  exact ((hE0.trans' hEc).setR (Nat.le_refl _) _).setR (Nat.le_refl _) _
set_option maxRecDepth 20000 in
set_option maxHeartbeats 4000000 in
theorem Inner_mode (s b c s2 b2 c2:Nat) (C:Cfg) (lv:Int) (R W:Nat) (l l2:List Int) (w:World) (h:SAt w s b c C lv R W l) (h2:SAt w s2 b2 c2 C lv R W l2) (hm:C.mode≠1) :
 Calls Tryz.prog 221 #[.pointer (some ⟨s,0,none⟩),.pointer (some ⟨s2,0,none⟩)] w fun e w'=>e=.returned (.tuple #[.agg #[.int .i64 0,.int .u64 0],.int .i64 3])∧Ext w w':=by
 have H:=Lib.hid h
 have H2:=Lib.hid h2
 have hm':(C.mode != 1)=true:=by simpa using hm
 clear h h2 hm
 go_enter Tryz.func221,Tryz.ntmps221
 go_upto_region 1 with (fail)
 have hz0:=heap_at w (.cells #[.int .i64 0,.int .u64 0] 194) rfl
 have hE0:Ext w (w.alloc (.cells #[.int .i64 0,.int .u64 0] 194)):=Ext.alloc' _ _
 generalize w.alloc (.cells #[.int .i64 0,.int .u64 0] 194)=w0 at *
 have HZ0:=Lib.hid hz0
 clear hz0
 go_cut [34] (fun s34 wx=>s34=.bool false∧Ext w0 wx)
 case first =>
  go_wp2_with (first | (go_at_call 255; refine (SConfig_c s b c C lv R W l _ (H.out.ext (by (repeat' (first | exact Ext.refl _ | assumption | apply Ext.allocR | apply Ext.drewR | apply Ext.drewNR | (refine Ext.trans' ?_ (by assumption))))))).mono ?_; rintro e w1 ⟨rfl,hb1⟩) | (go_at_call 255; refine (SConfig_c s2 b2 c2 C lv R W l2 _ (H2.out.ext (by (repeat' (first | exact Ext.refl _ | assumption | apply Ext.allocR | apply Ext.drewR | apply Ext.drewNR | (refine Ext.trans' ?_ (by assumption))))))).mono ?_; rintro e w2 ⟨rfl,hb2⟩) | (go_at_call 256; refine (SLevel_c s b c C lv R W l _ (H.out.ext (by (repeat' (first | exact Ext.refl _ | assumption | apply Ext.allocR | apply Ext.drewR | apply Ext.drewNR | (refine Ext.trans' ?_ (by assumption))))))).mono ?_; rintro e w3 ⟨rfl,rfl⟩) | (go_at_call 256; refine (SLevel_c s2 b2 c2 C lv R W l2 _ (H2.out.ext (by (repeat' (first | exact Ext.refl _ | assumption | apply Ext.allocR | apply Ext.drewR | apply Ext.drewNR | (refine Ext.trans' ?_ (by assumption))))))).mono ?_; rintro e w4 ⟨rfl,rfl⟩))
  go_meet
  exact ⟨by first | rfl | simp,by (repeat' (first | exact Ext.refl _ | assumption | apply Ext.allocR | apply Ext.drewR | apply Ext.drewNR | (refine Ext.trans' ?_ (by assumption))))⟩
 case rest =>
  obtain ⟨rfl,hEc⟩:=hcut
  go_wp2_with fail
  refine Calls.mono (SConfig_c s b c C lv R W l _ (H.out.ext ?hx)) ?_
  case hx=>(repeat' (first | exact Ext.refl _ | assumption | apply Ext.allocR | apply Ext.drewR | apply Ext.drewNR | (refine Ext.trans' ?_ (by assumption))))
  rintro e w1 ⟨rfl,hb1⟩
  have hE1:Ext w0 w1:=by (repeat' (first | exact Ext.refl _ | assumption | apply Ext.allocR | apply Ext.drewR | apply Ext.drewNR | (refine Ext.trans' ?_ (by assumption))))
  obtain ⟨p0,p1,f0,f1,hl⟩:=zbox HZ0.out hE1
  go_wp2_with fail
  refine bodyPost_ret (v:=.tuple #[.agg #[.int .i64 0,.int .u64 0],.int .i64 3]) (by simp [results,Tryz.results221,go_sem, *]) rfl ⟨rfl, ?_⟩
  exact (((hE0.trans' hE1).setR (p:=⟨w.heap.size,0,none⟩) (Nat.le_refl _) _).setR (p:=⟨w.heap.size,1,none⟩) (Nat.le_refl _) _).allocR _
end Go.Proofs.YtmalncfcgcebhaaGreatDoor
namespace Go.Proofs.YtmalncfcgcebhaaGreatDoor
set_option linter.unusedVariables false
open Go.RowKit
set_option maxRecDepth 20000 in
set_option maxHeartbeats 8000000 in
theorem Inner_c (s b c s2 b2 c2:Nat) (C:Cfg) (lv:Int) (R W:Nat) (l m:List Int) (w:World) (h:SAt w s b c C lv R W l) (h2:SAt w s2 b2 c2 C lv R W m) (hm:C.mode=1) :
 Calls Tryz.prog 221 #[.pointer (some ⟨s,0,none⟩),.pointer (some ⟨s2,0,none⟩)] w fun e w'=>e=.returned (innV (innF l m W R))∧Ext w w':=by
 have H:=Lib.hid h
 have H2:=Lib.hid h2
 have hm':(C.mode != 1)=false:=by simp [hm]
 have hR:=h.hr
 have hW:=h.hw
 have hR1:=h.g.r1
 have hR8:=h.g.r2
 have hW1:=h.g.w1
 have hW8:=h.g.w2
 have HR:=Lib.hid hR
 have HW:=Lib.hid hW
 have HL:=Lib.hid h.g.len
 have HL2:=Lib.hid h2.g.len
 have HI:=Lib.hid h.fit
 have HI2:=Lib.hid h2.fit
 clear h h2 hm hR hW
 go_enter Tryz.func221,Tryz.ntmps221
 go_upto_region 1 with (fail)
 have hz0:=heap_at w (.cells #[.int .i64 0,.int .u64 0] 194) rfl
 have hE0:Ext w (w.alloc (.cells #[.int .i64 0,.int .u64 0] 194)):=Ext.alloc' _ _
 generalize w.alloc (.cells #[.int .i64 0,.int .u64 0] 194)=w0 at *
 have HZ0:=Lib.hid hz0
 clear hz0
 go_cut [34] (fun s34 wx=>s34=.bool false∧Ext w0 wx)
 case first =>
  go_wp2_with (first | (go_at_call 255; refine (SConfig_c s b c C lv R W l _ (H.out.ext (by (repeat' (first | exact Ext.refl _ | assumption | apply Ext.allocR | apply Ext.drewR | apply Ext.drewNR | (refine Ext.trans' ?_ (by assumption))))))).mono ?_; rintro e w1 ⟨rfl,hb1⟩) | (go_at_call 255; refine (SConfig_c s2 b2 c2 C lv R W m _ (H2.out.ext (by (repeat' (first | exact Ext.refl _ | assumption | apply Ext.allocR | apply Ext.drewR | apply Ext.drewNR | (refine Ext.trans' ?_ (by assumption))))))).mono ?_; rintro e w2 ⟨rfl,hb2⟩) | (go_at_call 256; refine (SLevel_c s b c C lv R W l _ (H.out.ext (by (repeat' (first | exact Ext.refl _ | assumption | apply Ext.allocR | apply Ext.drewR | apply Ext.drewNR | (refine Ext.trans' ?_ (by assumption))))))).mono ?_; rintro e w3 ⟨rfl,rfl⟩) | (go_at_call 256; refine (SLevel_c s2 b2 c2 C lv R W m _ (H2.out.ext (by (repeat' (first | exact Ext.refl _ | assumption | apply Ext.allocR | apply Ext.drewR | apply Ext.drewNR | (refine Ext.trans' ?_ (by assumption))))))).mono ?_; rintro e w4 ⟨rfl,rfl⟩))
  go_meet
  exact ⟨by first | rfl | simp,by (repeat' (first | exact Ext.refl _ | assumption | apply Ext.allocR | apply Ext.drewR | apply Ext.drewNR | (refine Ext.trans' ?_ (by assumption))))⟩
 case rest =>
  obtain ⟨rfl,hEc⟩:=hcut
  go_wp2_with fail
  refine Calls.mono (SConfig_c s b c C lv R W l _ (H.out.ext ?hx)) ?_
  case hx=>(repeat' (first | exact Ext.refl _ | assumption | apply Ext.allocR | apply Ext.drewR | apply Ext.drewNR | (refine Ext.trans' ?_ (by assumption))))
  rintro e w1 ⟨rfl,hb1⟩
  have hE1:Ext w0 w1:=by (repeat' (first | exact Ext.refl _ | assumption | apply Ext.allocR | apply Ext.drewR | apply Ext.drewNR | (refine Ext.trans' ?_ (by assumption))))
  have hCb:CfgAt (w1.alloc (.cells #[.int .i64 C.bits,.int .i64 C.rows,.int .i64 C.width,.int .i64 C.mode,.int .u64 C.seed] 24)) w1.heap.size C:=CfgAt.box C _ rfl
  have hEB:Ext w1 (w1.alloc (.cells #[.int .i64 C.bits,.int .i64 C.rows,.int .i64 C.width,.int .i64 C.mode,.int .u64 C.seed] 24)):=Ext.alloc' _ _
  clear hb1 hEc
  go_wp2_with fail
  generalize w1.alloc (.cells #[.int .i64 C.bits,.int .i64 C.rows,.int .i64 C.width,.int .i64 C.mode,.int .u64 C.seed] 24)=w2 at *
  have hE2:=hE1.trans' hEB
  refine Calls.mono (SCells_c s b c C lv R W l _ (H.out.ext (by (repeat' (first | exact Ext.refl _ | assumption | apply Ext.allocR | apply Ext.drewR | apply Ext.drewNR | (refine Ext.trans' ?_ (by assumption))))))) ?_
  rintro e w3 ⟨v3,rfl,ho3,_,hx3⟩
  have hE3:Ext w2 w3:=hx3
  have hi3:=IntsAt.of_row ho3
  obtain ⟨g1,o1,k1,rfl,hg1,hc1⟩:=hi3.slice (by rw [HL.out]; exact Nat.mul_pos hR1 hW1)
  obtain ⟨cp1,hcp1⟩:∃ c1,R*W≤k1:=⟨0,by
   have h2:=ho3.2.resolve_left (fun h=>by cases h.1)
   obtain ⟨g',cap',cur,hv',_,_,hc',_⟩:=h2
   have:=(Value.slice.inj hv').2.2
   rw [HL.out] at hc'
   omega⟩
  rw [HL.out] at hi3 hc1 ⊢
  have HC1:=Lib.hid hc1
  clear ho3 hx3 hi3 hc1
  go_wp2_with fail
  refine Calls.mono (SCells_c s2 b2 c2 C lv R W m _ (H2.out.ext (by (repeat' (first | exact Ext.refl _ | assumption | apply Ext.allocR | apply Ext.drewR | apply Ext.drewNR | (refine Ext.trans' ?_ (by assumption))))))) ?_
  rintro e w4 ⟨v4,rfl,ho4,_,hx4⟩
  have hE4:Ext w3 w4:=hx4
  have hi4:=IntsAt.of_row ho4
  obtain ⟨g2,o2,k2,rfl,hg2,hc2⟩:=hi4.slice (by rw [HL2.out]; exact Nat.mul_pos hR1 hW1)
  obtain ⟨cp2,hcp2⟩:∃ c1,R*W≤k2:=⟨0,by
   have h2:=ho4.2.resolve_left (fun h=>by cases h.1)
   obtain ⟨g',cap',cur,hv',_,_,hc',_⟩:=h2
   have:=(Value.slice.inj hv').2.2
   rw [HL2.out] at hc'
   omega⟩
  rw [HL2.out] at hi4 hc2 ⊢
  have HC2:=Lib.hid hc2
  have hCb4:=hCb.ext (hE3.trans' hE4)
  have c1':=hCb4.c1
  have cl:=hCb4.lt
  rw [HR.out] at c1'
  clear ho4 hx4 hi4 hc2
  have hE24:=hE3.trans' hE4
  have hEw4:Ext w w4:=hE0.trans' (hE2.trans' hE24)
  have hz4:=(hE2.trans' hE24).keep HZ0.out
  have HZ4:=Lib.hid hz4
  have hg13:g1 < w4.heap.size:=Nat.lt_of_lt_of_le hg1 hE4.size
  have hc14:∀ j,j < R*W→w4.cell? ⟨g1,o1+j,none⟩=some (.int .i64 (l.getD j 0)):=fun j hj=>((bcell hE4).1 g1 _ hg1).trans (HC1.out j hj)
  have HC14:=Lib.hid hc14
  have HCB4:=Lib.hid hCb4
  have hN2:R*W≤1024:=Nat.le_trans (Nat.mul_le_mul hR8 hW8) (by decide)
  clear hz4 hc14 hCb4 hCb hE24 hE3 hE4 hE2 hE1 hEB HZ0 HC1 H H2
  go_wp2_with fail
  go_loopw [48] (fun u wr=>∃ (r:Nat) (best:Int),r≤R∧u=.int .i64 r∧innF l m W r=some best∧Ext w4 wr∧wr.heap[w4.heap.size]?=some (.cells #[.int .i64 (hi best),.int .u64 (lo best)] 194 (0,0))) (fun u _=>R - (intOf u).toNat)
  case atStart=>exact ⟨0,0,Nat.zero_le _,rfl,rfl,Ext.alloc' _ _,heap_at _ _ rfl⟩
  case round =>
   obtain ⟨r,best,hr,rfl,hin,hE,hg9⟩:=hrel
   clear c1' cl
   by_cases hgo:r < R
   · have hCr:=HCB4.out.ext hE
     have c2':=hCr.c2
     have cl:=hCr.lt
     rw [HW.out] at c2'
     obtain ⟨f,hf⟩:∃ f,r*W=f:=⟨_,rfl⟩
     have hf1:(r:Int)*(W:Int)=(f:Int):=by rw [← hf]; simp
     have hf2:((r:Int)+1)*(W:Int)=((f+W:Nat):Int):=by rw [Int.add_mul,hf1]; simp
     have hfN:f+W≤R*W:=by rw [← hf,← Nat.succ_mul]; exact Nat.mul_le_mul_right _ hgo
     have hf1b:f+W≤1024:=by omega
     have HIN:=Lib.hid hin
     have HG9:=Lib.hid hg9
     have HFF:=Lib.hid hf
     clear hin hg9 hCr hf
     go_wp2_with fail
     refine wp_region_after (by kernel_rfl) (by kernel_rfl) ?_
     repeat (go_big_quiet_step (fail))
     refine wpQuiet_nil ?_
     rintro _ ⟨xx,rfl⟩
     obtain ⟨wq,hq⟩:=xx
     try dsimp only
     obtain ⟨dt,hdt⟩:∃ dt,dotF (rowP l W r) (rowP m W r) W=dt:=⟨_,rfl⟩
     obtain ⟨rh,rl,ok,hdv,hok1,hok0⟩:∃ (rh rl:Int) (ok:Bool),dotV dt=.tuple #[.agg #[.int .i64 rh,.int .u64 rl],.bool ok]∧(ok=true→∃ n,dt=some n∧rh=hi n∧rl=lo n)∧(ok=false→dt=none):=by
      cases dt with
      | none=>exact ⟨0,0,false,rfl,(fun h=>by cases h),(fun _=>rfl)⟩
      | some n=>exact ⟨hi n,lo n,true,rfl,(fun _=>⟨n,rfl,rfl,rfl⟩),(fun h=>by cases h)⟩
     have hEq:Ext w4 wq:=hE.trans' hq
     have hi1:∀ (cc:Nat) (w':World),Ext w4 w'→IntsAt w' (.slice (some ⟨g1,o1+f,none⟩) W cc) (rowP l W r):=fun cc w' hE'=>.inr ⟨g1,o1+f,cc,by rw [rowP_len],Nat.lt_of_lt_of_le hg13 hE'.size,fun k hk=>by
      rw [rowP_len] at hk
      rw [rowP_get _ hk,HFF.out,Nat.add_assoc]
      exact ((bcell hE').1 g1 _ hg13).trans (HC14.out (f+k) (by omega))⟩
     have hi2:∀ (cc:Nat) (w':World),Ext w4 w'→IntsAt w' (.slice (some ⟨g2,o2+f,none⟩) W cc) (rowP m W r):=fun cc w' hE'=>.inr ⟨g2,o2+f,cc,by rw [rowP_len],Nat.lt_of_lt_of_le hg2 hE'.size,fun k hk=>by
      rw [rowP_len] at hk
      rw [rowP_get _ hk,HFF.out,Nat.add_assoc]
      exact ((bcell hE').1 g2 _ hg2).trans (HC2.out (f+k) (by omega))⟩
     have hdot:∀ (cc cc2:Nat) (w':World),Ext w4 w'→Calls Tryz.prog 225 #[.slice (some ⟨g1,o1+f,none⟩) W cc,.slice (some ⟨g2,o2+f,none⟩) W cc2] w' fun e w''=>e=.returned (.tuple #[.agg #[.int .i64 rh,.int .u64 rl],.bool ok])∧Ext w' w'':=by
      intro cc cc2 w' hE'
      have:=Dot_c (rowP l W r) (rowP m W r) _ _ w' (rowP_all HI.out W r) (rowP_all HI2.out W r) (by rw [rowP_len,rowP_len]) (by rw [rowP_len]; omega) (hi1 cc w' hE') (hi2 cc2 w' hE')
      rw [rowP_len,hdt,hdv] at this
      exact this
     have HDOT:=Lib.hid hdot
     have HDT:=Lib.hid hdt
     have HOK1:=Lib.hid hok1
     have HOK0:=Lib.hid hok0
     clear hi1 hi2 hdot hdv hok1 hok0 hdt c2' cl hf1 hf2
     go_upto_region 12 with (fail)
     go_cut [13,14] (fun s13 s14 wx=>∃ z:Nat,s13=.pointer (some ⟨z,0,none⟩)∧s14=.bool ok∧wx.heap[z]?=some (.cells #[.int .i64 rh,.int .u64 rl] 194 (0,0))∧Ext wq wx∧wq.heap.size≤z)
     case first =>
      have hC0:=af_drew wq
      refine pi_start (fun w'=>∃ x:After wq,w'=x.w) [] (by kernel_rfl) ?_
      refine pi_t 0 rfl (by kernel_rfl) (by kernel_rfl) (fun _ _ _ _ h=>h) (fun K hK=>?_)
      go_big_quiet_op
      refine hK _ ?_
      clear hK K
      refine pi_t 1 rfl (by kernel_rfl) (by kernel_rfl) (fun _ _ _ _ h=>h) (fun K hK=>?_)
      go_big_quiet_op
      refine hK _ ?_
      clear hK K
      refine pi_t 2 rfl (by kernel_rfl) (by kernel_rfl) (fun _ _ _ _ h=>h) (fun K hK=>?_)
      go_big_quiet_op
      refine hK _ ?_
      clear hK K
      refine pi_t 3 rfl (by kernel_rfl) (by kernel_rfl) (fun _ _ _ _ h=>h) (fun K hK=>?_)
      go_big_quiet_op
      refine hK _ ?_
      clear hK K
      refine pi_t 4 rfl (by kernel_rfl) (by kernel_rfl) (fun _ _ _ _ h=>h) (fun K hK=>?_)
      go_big_quiet_op
      refine hK _ ?_
      clear hK K
      refine pi_t 5 rfl (by kernel_rfl) (by kernel_rfl) (fun _ _ _ _ h=>h) (fun K hK=>?_)
      go_big_quiet_op
      refine hK _ ?_
      clear hK K
      refine pi_t 6 rfl (by kernel_rfl) (by kernel_rfl) (fun _ _ _ _ h=>h) (fun K hK=>?_)
      go_big_quiet_op
      refine hK _ ?_
      clear hK K
      refine pi_t 7 rfl (by kernel_rfl) (by kernel_rfl) (fun _ _ _ _ h=>h) (fun K hK=>?_)
      go_big_quiet_op
      refine hK _ ?_
      clear hK K
      refine pi_t 8 rfl (by kernel_rfl) (by kernel_rfl) (fun _ _ _ _ h=>h) (fun K hK=>?_)
      go_big_quiet_op
      refine hK _ ?_
      clear hK K
      refine pi_t 9 rfl (by kernel_rfl) (by kernel_rfl) (fun _ _ _ _ h=>h) (fun K hK=>?_)
      go_big_quiet_op
      refine hK _ ?_
      clear hK K
      refine pi_b 10 14 rfl rfl (by kernel_rfl) (fun K hK=>?_) (fun K hK=>?_)
      · rw [Nat.add_sub_cancel_left]
        go_wp2_with (go_at_call 225; refine (HDOT.out _ _ _ (hEq.trans' (by (repeat' (first | exact Ext.refl _ | assumption | apply Ext.allocR | apply Ext.drewR | apply Ext.drewNR | (refine Ext.trans' ?_ (by assumption))))))).mono ?_; rintro e wa ⟨rfl,hxa⟩)
        refine hK _ _ (fun _ h=>af_step h hxa) ?_
        clear hK K
        have hEa:Ext wq wa:=Ext.trans' (Below.drew (Ext.refl wq)) hxa
        refine pi_t 11 rfl (by kernel_rfl) (by kernel_rfl) (fun _ _ _ _ h=>h) (fun K hK=>?_)
        go_big_quiet_op
        refine hK _ ?_
        clear hK K
        refine pi_t 12 rfl (by kernel_rfl) (by kernel_rfl) (fun _ _ _ _ h=>h) (fun K hK=>?_)
        go_big_quiet_op
        refine hK _ ?_
        clear hK K
        refine pi_t 13 rfl (by kernel_rfl) (by kernel_rfl) (fun _ _ _ _ h=>h) (fun K hK=>?_)
        go_big_quiet_op
        refine hK _ ?_
        clear hK K
        refine pi_l 14 rfl (by kernel_rfl) (fun K hK=>?_)
        go_wp2
        refine hK _ _ (fun _ h=>af_step h (Ext.alloc' _ _)) ?_
        clear hK K
        refine pi_l 15 rfl (by kernel_rfl) (fun K hK=>?_)
        go_wp2
        have hsz:=hEa.size
        refine hK _ _ (fun _ h=>⟨⟨_,hEa.allocR _⟩,rfl⟩) ?_
        clear hK K
        refine pi_t 16 rfl (by kernel_rfl) (by kernel_rfl) (fun _ _ _ _ h=>h) (fun K hK=>?_)
        go_big_quiet_op
        refine hK _ ?_
        clear hK K
        refine pi_end (by kernel_rfl) ?_
        go_wp2_with fail
        go_meet
        exact ⟨_,rfl,rfl,heap_at _ _ rfl,hEa.allocR _,hsz⟩
      · go_wp2
        refine hK _ _ (fun _ h=>af_step h (Ext.alloc' _ _)) ?_
        clear hK K
        refine pi_l 10 rfl (by kernel_rfl) (fun K hK=>?_)
        rw [Nat.add_sub_cancel_left]
        go_wp2_with (go_at_call 225; refine (HDOT.out _ _ _ (hEq.trans' (by (repeat' (first | exact Ext.refl _ | assumption | apply Ext.allocR | apply Ext.drewR | apply Ext.drewNR | (refine Ext.trans' ?_ (by assumption))))))).mono ?_; rintro e wa ⟨rfl,hxa⟩)
        refine hK _ _ (fun _ h=>af_step h hxa) ?_
        clear hK K
        have hEa:Ext wq wa:=Ext.trans' (Ext.alloc' wq _) (Ext.trans' (Below.drew (Ext.refl _)) hxa)
        have hbx:wa.heap[wq.heap.size]?=some (.cells #[.int .i64 0,.int .u64 0] 194 (0,0)):=hxa.keep (heap_at wq.drew _ rfl)
        have p0:=(cell_of hbx 0).trans rfl
        have p1:=(cell_of hbx 1).trans rfl
        have f0:=frozen_of hbx 0
        have f1:=frozen_of hbx 1
        have HBX:=Lib.hid hbx
        clear hbx
        refine pi_t 11 rfl (by kernel_rfl) (by kernel_rfl) (fun _ _ _ _ h=>h) (fun K hK=>?_)
        go_big_quiet_op
        refine hK _ ?_
        clear hK K
        refine pi_t 12 rfl (by kernel_rfl) (by kernel_rfl) (fun _ _ _ _ h=>h) (fun K hK=>?_)
        go_big_quiet_op
        refine hK _ ?_
        clear hK K
        refine pi_t 13 rfl (by kernel_rfl) (by kernel_rfl) (fun _ _ _ _ h=>h) (fun K hK=>?_)
        go_big_quiet_op
        refine hK _ ?_
        clear hK K
        refine pi_l 15 rfl (by kernel_rfl) (fun K hK=>?_)
        go_wp2
        refine hK _ _ (fun _ h=>⟨⟨_,(hEa.setR (p:=⟨wq.heap.size,0,none⟩) (Nat.le_refl _) _).setR (p:=⟨wq.heap.size,1,none⟩) (Nat.le_refl _) _⟩,rfl⟩) ?_
        clear hK K
        refine pi_t 16 rfl (by kernel_rfl) (by kernel_rfl) (fun _ _ _ _ h=>h) (fun K hK=>?_)
        go_big_quiet_op
        refine hK _ ?_
        clear hK K
        refine pi_end (by kernel_rfl) ?_
        go_wp2_with fail
        go_meet
        exact ⟨_,rfl,rfl,set2 HBX.out _ _,(hEa.setR (p:=⟨wq.heap.size,0,none⟩) (Nat.le_refl _) _).setR (p:=⟨wq.heap.size,1,none⟩) (Nat.le_refl _) _,Nat.le_refl _⟩
     case rest =>
      obtain ⟨z,rfl,rfl,hz,hEc,hzz⟩:=hcut
      have hEx:=hEq.trans' hEc
      have y0:=(cell_of hz 0).trans rfl
      have y1:=(cell_of hz 1).trans rfl
      have zl:=lt_of hz
      have hg9:=(hq.trans' hEc).keep HG9.out
      have hls:=lt_of HG9.out
      have hqs:=hq.size
      cases ok
      · have hnn:innF l m W (r+1)=none:=by
         have h1:=HOK0.out rfl
         simp only [innF,HIN.out,HDT.out,h1,Option.bind_some,Option.bind_none]
        have hnil:=innF_none hnn (n:=R) (by omega)
        obtain ⟨p0,p1,f0,f1,hl⟩:=zbox HZ4.out hEx
        have HNIL:=Lib.hid hnil
        clear hg9 hnn hnil
        go_wp2_with fail
        refine bodyPost_ret (v:=.tuple #[.agg #[.int .i64 0,.int .u64 0],.int .i64 4]) (by simp [results,Tryz.results221,go_sem, *]) rfl ⟨by rw [HNIL.out]; rfl, ?_⟩
        exact ((hEw4.trans' hEx).setR (p:=⟨w.heap.size,0,none⟩) (Nat.le_refl _) _).setR (p:=⟨w.heap.size,1,none⟩) (Nat.le_refl _) _
      · obtain ⟨n,rfl,rfl,rfl⟩:=HOK1.out rfl
        have a0:=(cell_of hg9 0).trans rfl
        have a1:=(cell_of hg9 1).trans rfl
        have f0:=frozen_of hg9 0
        have f1:=frozen_of hg9 1
        have HG9':=Lib.hid hg9
        have hss:innF l m W (r+1)=some (bif decide (r=0) || decide (n < best) then n else best):=by
         simp only [innF,HIN.out,HDT.out,Option.bind_some]
        by_cases hr0:r=0
        · have hr0':((r:Int) == 0)=true:=by simp [hr0]
          have hdd:(decide (r=0) || decide (n < best))=true:=by simp [hr0]
          rw [hdd] at hss
          have HSS:=Lib.hid hss
          clear hg9 hss hdd hr0
          go_wp2_with fail
          go_roundw
          case rel =>
           exact ⟨r+1,n,by omega,by go_num,HSS.out,(hEx.setR (p:=⟨w4.heap.size,0,none⟩) (Nat.le_refl _) _).setR (p:=⟨w4.heap.size,1,none⟩) (Nat.le_refl _) _,set2 HG9'.out _ _⟩
          case measure=>simp [intOf]; omega
        · have hr0':((r:Int) == 0)=false:=by simpa using hr0
          by_cases hlt:n < best
          · have hdd:(decide (r=0) || decide (n < best))=true:=by simp [hlt]
            rw [hdd] at hss
            have HSS:=Lib.hid hss
            clear hg9 hss hdd hr0
            go_wp2_with fail
            refine Calls.mono (Less_c n best _) ?_
            rintro e wl ⟨rfl,hxl⟩
            rw [decide_eq_true hlt]
            have hz':=hxl.keep hz
            have y0':=(cell_of hz' 0).trans rfl
            have y1':=(cell_of hz' 1).trans rfl
            have zl':=lt_of hz'
            have hg9':=hxl.keep HG9'.out
            have a0':=(cell_of hg9' 0).trans rfl
            have a1':=(cell_of hg9' 1).trans rfl
            have f0':=frozen_of hg9' 0
            have f1':=frozen_of hg9' 1
            have HG9'':=Lib.hid hg9'
            clear hg9' hz'
            go_wp2_with fail
            go_roundw
            case rel =>
             exact ⟨r+1,n,by omega,by go_num,HSS.out,((hEx.trans' hxl).setR (p:=⟨w4.heap.size,0,none⟩) (Nat.le_refl _) _).setR (p:=⟨w4.heap.size,1,none⟩) (Nat.le_refl _) _,set2 HG9''.out _ _⟩
            case measure=>simp [intOf]; omega
          · have hdd:(decide (r=0) || decide (n < best))=false:=by simp [hlt,hr0]
            rw [hdd] at hss
            have HSS:=Lib.hid hss
            clear hg9 hss hdd hr0
            go_wp2_with fail
            refine Calls.mono (Less_c n best _) ?_
            rintro e wl ⟨rfl,hxl⟩
            rw [decide_eq_false (show ¬ n < best by omega)]
            have hg9':=hxl.keep HG9'.out
            have HG9'':=Lib.hid hg9'
            clear hg9'
            go_wp2_with fail
            go_roundw
            case rel=>exact ⟨r+1,best,by omega,by go_num,HSS.out,hEx.trans' hxl,HG9''.out⟩
            case measure=>simp [intOf]; omega
   · obtain rfl:r=R:=by omega
     have HIN:=Lib.hid hin
     have a0:=(cell_of hg9 0).trans rfl
     have a1:=(cell_of hg9 1).trans rfl
     have al:=lt_of hg9
     obtain ⟨p0,p1,f0,f1,hl⟩:=zbox HZ4.out hE
     clear hin hg9
     go_wp2_with fail
     refine bodyPost_ret (v:=.tuple #[.agg #[.int .i64 (hi best),.int .u64 (lo best)],.int .i64 0]) (by simp [results,Tryz.results221,go_sem, *]) rfl ⟨by rw [HIN.out]; rfl, ?_⟩
     exact ((hEw4.trans' hE).setR (p:=⟨w.heap.size,0,none⟩) (Nat.le_refl _) _).setR (p:=⟨w.heap.size,1,none⟩) (Nat.le_refl _) _
end Go.Proofs.YtmalncfcgcebhaaGreatDoor
namespace Go.Proofs.YtmalncfcgcebhaaGreatDoor
set_option linter.unusedVariables false
open Go.RowKit
def lvInn (C:Cfg) (lv:Int) (l m:List Int):Option Int:=bif isX C lv then dotF l m (kN C lv) else innF l m (wN C) (rN C)
@[go_sem] theorem fld_mode (b r c m s:Int) (w:World):(Instr.field 24 (.agg #[.int .i64 b,.int .i64 r,.int .i64 c,.int .i64 m,.int .u64 s]) 3).run Tryz.prog w=.ok (.int .i64 m) w:=by kernel_rfl
set_option maxRecDepth 20000 in
set_option maxHeartbeats 8000000 in
theorem LInnerX_c (s b c s2 b2 c2:Nat) (C:Cfg) (lv:Int) (N:Nat) (l m:List Int) (w:World) (h:EAt w s b c C lv N l) (h2:EAt w s2 b2 c2 C lv N m) (hm:C.mode=1) :
 Calls Tryz.prog 178 #[.iface 267 (.pointer (some ⟨s,0,none⟩)),.iface 267 (.pointer (some ⟨s2,0,none⟩))] w fun e w'=>e=.returned (innV (dotF l m N))∧Ext w w':=by
 have H:=Lib.hid h
 have H2:=Lib.hid h2
 have hm':(C.mode != 1)=false:=by simp [hm]
 have hln:=h.len
 have hln2:=h2.len
 have hN:=h.g.w2
 have HI:=Lib.hid h.fit
 have HI2:=Lib.hid h2.fit
 have HL:=Lib.hid hln
 have HL2:=Lib.hid hln2
 clear h h2 hm hln hln2
 go_enter Tryz.func178,Tryz.ntmps178
 go_wp2_with fail
 refine (sk_ix _ _ _ _).mono ?_
 rintro e w1 ⟨rfl,rfl⟩
 go_wp2_with fail
 refine (arr_xx _ _ _).mono ?_
 rintro e w1 ⟨rfl,rfl⟩
 go_upto_region 5 with (fail)
 have hz0:=heap_at w (.cells #[.int .i64 0,.int .u64 0] 194) rfl
 have hE0:Ext w (w.alloc (.cells #[.int .i64 0,.int .u64 0] 194)):=Ext.alloc' _ _
 generalize w.alloc (.cells #[.int .i64 0,.int .u64 0] 194)=w0 at *
 have HZ0:=Lib.hid hz0
 clear hz0
 go_cut [34] (fun s34 wx=>s34=.bool false∧Ext w0 wx)
 case first =>
  go_wp2_with (first | (go_at_call 223; refine (EConfig_c s b c C lv N l _ (H.out.ext (by (repeat' (first | exact Ext.refl _ | assumption | apply Ext.allocR | apply Ext.drewR | apply Ext.drewNR | (refine Ext.trans' ?_ (by assumption))))))).mono ?_; rintro e w1 ⟨rfl,hb1⟩) | (go_at_call 223; refine (EConfig_c s2 b2 c2 C lv N m _ (H2.out.ext (by (repeat' (first | exact Ext.refl _ | assumption | apply Ext.allocR | apply Ext.drewR | apply Ext.drewNR | (refine Ext.trans' ?_ (by assumption))))))).mono ?_; rintro e w2 ⟨rfl,hb2⟩) | (go_at_call 224; refine (ELevel_c s b c C lv N l _ (H.out.ext (by (repeat' (first | exact Ext.refl _ | assumption | apply Ext.allocR | apply Ext.drewR | apply Ext.drewNR | (refine Ext.trans' ?_ (by assumption))))))).mono ?_; rintro e w3 ⟨rfl,rfl⟩) | (go_at_call 224; refine (ELevel_c s2 b2 c2 C lv N m _ (H2.out.ext (by (repeat' (first | exact Ext.refl _ | assumption | apply Ext.allocR | apply Ext.drewR | apply Ext.drewNR | (refine Ext.trans' ?_ (by assumption))))))).mono ?_; rintro e w4 ⟨rfl,rfl⟩))
  go_meet
  exact ⟨by first | rfl | simp,by (repeat' (first | exact Ext.refl _ | assumption | apply Ext.allocR | apply Ext.drewR | apply Ext.drewNR | (refine Ext.trans' ?_ (by assumption))))⟩
 case rest =>
  obtain ⟨rfl,hEc⟩:=hcut
  go_wp2_with fail
  refine Calls.mono (EConfig_c s b c C lv N l _ (H.out.ext ?hx)) ?_
  case hx=>(repeat' (first | exact Ext.refl _ | assumption | apply Ext.allocR | apply Ext.drewR | apply Ext.drewNR | (refine Ext.trans' ?_ (by assumption))))
  rintro e w1 ⟨rfl,hb1⟩
  have hE1:Ext w0 w1:=by (repeat' (first | exact Ext.refl _ | assumption | apply Ext.allocR | apply Ext.drewR | apply Ext.drewNR | (refine Ext.trans' ?_ (by assumption))))
  clear hb1 hEc
  go_wp2_with fail
  refine Calls.mono (ECells_c s b c C lv N l _ (H.out.ext ?hx)) ?_
  case hx=>(repeat' (first | exact Ext.refl _ | assumption | apply Ext.allocR | apply Ext.drewR | apply Ext.drewNR | (refine Ext.trans' ?_ (by assumption))))
  rintro e w2 ⟨v1,rfl,ho1,_,hx2⟩
  have hE2:Ext w0 w2:=by (repeat' (first | exact Ext.refl _ | assumption | apply Ext.allocR | apply Ext.drewR | apply Ext.drewNR | (refine Ext.trans' ?_ (by assumption))))
  have hi1:=IntsAt.of_row ho1
  obtain ⟨p1,q1,rfl⟩:=own_sl ho1
  clear hx2 hE1 ho1
  go_wp2_with fail
  refine Calls.mono (ECells_c s2 b2 c2 C lv N m _ (H2.out.ext ?hx)) ?_
  case hx=>(repeat' (first | exact Ext.refl _ | assumption | apply Ext.allocR | apply Ext.drewR | apply Ext.drewNR | (refine Ext.trans' ?_ (by assumption))))
  rintro e w3 ⟨v2,rfl,ho2,_,hx3⟩
  have hE3:Ext w0 w3:=by (repeat' (first | exact Ext.refl _ | assumption | apply Ext.allocR | apply Ext.drewR | apply Ext.drewNR | (refine Ext.trans' ?_ (by assumption))))
  have hi2:=IntsAt.of_row ho2
  have hi1':=hi1.ext hx3
  obtain ⟨p2,q2,rfl⟩:=own_sl ho2
  have HI1:=Lib.hid hi1'
  have HI2':=Lib.hid hi2
  clear hx3 hE2 ho2 hi1 hi2 hi1'
  go_wp2_with fail
  refine Calls.mono (Dot_c l m _ _ _ HI.out HI2.out (by rw [HL.out,HL2.out]) (by rw [HL.out]; omega) HI1.out HI2'.out) ?_
  rintro e w4 ⟨rfl,hx4⟩
  have hE4:Ext w0 w4:=by (repeat' (first | exact Ext.refl _ | assumption | apply Ext.allocR | apply Ext.drewR | apply Ext.drewNR | (refine Ext.trans' ?_ (by assumption))))
  obtain ⟨p0,p1',f0,f1,hl⟩:=zbox HZ0.out hE4
  rw [HL.out]
  clear hx4 hE3
  cases hd:dotF l m N with
  | none =>
    have HD:=Lib.hid hd
    clear hd
    rw [show dotV none=.tuple #[.agg #[.int .i64 0,.int .u64 0],.bool false] from rfl]
    go_wp2_with fail
    refine bodyPost_ret (v:=.tuple #[.agg #[.int .i64 0,.int .u64 0],.int .i64 4]) (by simp [results,Tryz.results178,go_sem, *]) rfl ⟨by rw [HD.out]; rfl, ?_⟩
    exact (((hE0.trans' hE4).setR (p:=⟨w.heap.size,0,none⟩) (Nat.le_refl _) _).setR (p:=⟨w.heap.size,1,none⟩) (Nat.le_refl _) _).allocR _
  | some z =>
    have HD:=Lib.hid hd
    clear hd
    rw [show dotV (some z)=.tuple #[.agg #[.int .i64 (hi z),.int .u64 (lo z)],.bool true] from rfl]
    go_wp2_with fail
    refine bodyPost_ret (v:=.tuple #[.agg #[.int .i64 (hi z),.int .u64 (lo z)],.int .i64 0]) (by simp [results,Tryz.results178,go_sem, *]) rfl ⟨by rw [HD.out]; rfl, ?_⟩
    exact (((hE0.trans' hE4).setR (p:=⟨w.heap.size,0,none⟩) (Nat.le_refl _) _).setR (p:=⟨w.heap.size,1,none⟩) (Nat.le_refl _) _).allocR _
set_option maxRecDepth 20000 in
set_option maxHeartbeats 8000000 in
theorem LInnerX_mode (s b c s2 b2 c2:Nat) (C:Cfg) (lv:Int) (N:Nat) (l m:List Int) (w:World) (h:EAt w s b c C lv N l) (h2:EAt w s2 b2 c2 C lv N m) (hm:C.mode≠1) :
 Calls Tryz.prog 178 #[.iface 267 (.pointer (some ⟨s,0,none⟩)),.iface 267 (.pointer (some ⟨s2,0,none⟩))] w fun e w'=>e=.returned (.tuple #[.agg #[.int .i64 0,.int .u64 0],.int .i64 3])∧Ext w w':=by
 have H:=Lib.hid h
 have H2:=Lib.hid h2
 have hm':(C.mode != 1)=true:=by simpa using hm
 clear h h2 hm
 go_enter Tryz.func178,Tryz.ntmps178
 go_wp2_with fail
 refine (sk_ix _ _ _ _).mono ?_
 rintro e w1 ⟨rfl,rfl⟩
 go_wp2_with fail
 refine (arr_xx _ _ _).mono ?_
 rintro e w1 ⟨rfl,rfl⟩
 go_upto_region 5 with (fail)
 have hz0:=heap_at w (.cells #[.int .i64 0,.int .u64 0] 194) rfl
 have hE0:Ext w (w.alloc (.cells #[.int .i64 0,.int .u64 0] 194)):=Ext.alloc' _ _
 generalize w.alloc (.cells #[.int .i64 0,.int .u64 0] 194)=w0 at *
 have HZ0:=Lib.hid hz0
 clear hz0
 go_cut [34] (fun s34 wx=>s34=.bool false∧Ext w0 wx)
 case first =>
  go_wp2_with (first | (go_at_call 223; refine (EConfig_c s b c C lv N l _ (H.out.ext (by (repeat' (first | exact Ext.refl _ | assumption | apply Ext.allocR | apply Ext.drewR | apply Ext.drewNR | (refine Ext.trans' ?_ (by assumption))))))).mono ?_; rintro e w1 ⟨rfl,hb1⟩) | (go_at_call 223; refine (EConfig_c s2 b2 c2 C lv N m _ (H2.out.ext (by (repeat' (first | exact Ext.refl _ | assumption | apply Ext.allocR | apply Ext.drewR | apply Ext.drewNR | (refine Ext.trans' ?_ (by assumption))))))).mono ?_; rintro e w2 ⟨rfl,hb2⟩) | (go_at_call 224; refine (ELevel_c s b c C lv N l _ (H.out.ext (by (repeat' (first | exact Ext.refl _ | assumption | apply Ext.allocR | apply Ext.drewR | apply Ext.drewNR | (refine Ext.trans' ?_ (by assumption))))))).mono ?_; rintro e w3 ⟨rfl,rfl⟩) | (go_at_call 224; refine (ELevel_c s2 b2 c2 C lv N m _ (H2.out.ext (by (repeat' (first | exact Ext.refl _ | assumption | apply Ext.allocR | apply Ext.drewR | apply Ext.drewNR | (refine Ext.trans' ?_ (by assumption))))))).mono ?_; rintro e w4 ⟨rfl,rfl⟩))
  go_meet
  exact ⟨by first | rfl | simp,by (repeat' (first | exact Ext.refl _ | assumption | apply Ext.allocR | apply Ext.drewR | apply Ext.drewNR | (refine Ext.trans' ?_ (by assumption))))⟩
 case rest =>
  obtain ⟨rfl,hEc⟩:=hcut
  go_wp2_with fail
  refine Calls.mono (EConfig_c s b c C lv N l _ (H.out.ext ?hx)) ?_
  case hx=>(repeat' (first | exact Ext.refl _ | assumption | apply Ext.allocR | apply Ext.drewR | apply Ext.drewNR | (refine Ext.trans' ?_ (by assumption))))
  rintro e w1 ⟨rfl,hb1⟩
  have hE1:Ext w0 w1:=by (repeat' (first | exact Ext.refl _ | assumption | apply Ext.allocR | apply Ext.drewR | apply Ext.drewNR | (refine Ext.trans' ?_ (by assumption))))
  obtain ⟨p0,p1,f0,f1,hl⟩:=zbox HZ0.out hE1
  clear hb1 hEc
  go_wp2_with fail
  refine bodyPost_ret (v:=.tuple #[.agg #[.int .i64 0,.int .u64 0],.int .i64 3]) (by simp [results,Tryz.results178,go_sem, *]) rfl ⟨rfl, ?_⟩
  exact ((hE0.trans' hE1).setR (p:=⟨w.heap.size,0,none⟩) (Nat.le_refl _) _).setR (p:=⟨w.heap.size,1,none⟩) (Nat.le_refl _) _
set_option maxRecDepth 20000 in
set_option maxHeartbeats 8000000 in
theorem LInnerS_c (s s2:Nat) (w:World) (h w0:Int) (k:Int)
 (hI:∀ W',Ext w W'→Calls Tryz.prog 221 #[.pointer (some ⟨s,0,none⟩),.pointer (some ⟨s2,0,none⟩)] W' fun e w'=>e=.returned (.tuple #[.agg #[.int .i64 h,.int .u64 w0],.int .i64 k])∧Ext W' w') :
 Calls Tryz.prog 178 #[.iface 270 (.pointer (some ⟨s,0,none⟩)),.iface 270 (.pointer (some ⟨s2,0,none⟩))] w fun e w'=>e=.returned (.tuple #[.agg #[.int .i64 h,.int .u64 w0],.int .i64 k])∧Ext w w':=by
 have HI:=Lib.hid hI
 clear hI
 go_enter Tryz.func178,Tryz.ntmps178
 go_wp2_with fail
 refine (sk_ss _ _ _).mono ?_
 rintro e w1 ⟨rfl,rfl⟩
 go_wp2_with fail
 have hz0:=heap_at w (.cells #[.int .i64 0,.int .u64 0] 194) rfl
 have hE0:Ext w (w.alloc (.cells #[.int .i64 0,.int .u64 0] 194)):=Ext.alloc' _ _
 generalize w.alloc (.cells #[.int .i64 0,.int .u64 0] 194)=wz at *
 refine (HI.out _ hE0).mono ?_
 rintro e w2 ⟨rfl,hx2⟩
 obtain ⟨p0,p1,f0,f1,hl⟩:=zbox hz0 hx2
 go_wp2_with fail
 refine bodyPost_ret (v:=.tuple #[.agg #[.int .i64 h,.int .u64 w0],.int .i64 k]) (by simp [results,Tryz.results178,go_sem, *]) rfl ⟨rfl, ?_⟩
 exact ((hE0.trans' hx2).setR (p:=⟨w.heap.size,0,none⟩) (Nat.le_refl _) _).setR (p:=⟨w.heap.size,1,none⟩) (Nat.le_refl _) _
theorem LInner_c (C:Cfg) (lv:Int) (L L2:Lev) (l m:List Int) (w:World) (h:LvAt w L C lv l) (h2:LvAt w L2 C lv m) (hm:C.mode=1) :
 Calls Tryz.prog 178 #[lvV C lv L,lvV C lv L2] w fun e w'=>e=.returned (innV (lvInn C lv l m))∧Ext w w':=by
 unfold lvInn
 cases hx:isX C lv with
 | true =>
   rw [lvV_x hx,lvV_x hx]
   exact LInnerX_c _ _ _ _ _ _ C lv _ l m w (h.x hx) (h2.x hx) hm
 | false =>
   rw [lvV_s hx,lvV_s hx]
   have:=fun W' (he:Ext w W')=>Inner_c _ _ _ _ _ _ C lv _ _ l m W' ((h.sk hx).ext he) ((h2.sk hx).ext he) hm
   show Calls _ _ _ _ fun e w'=>e=.returned (innV (innF l m (wN C) (rN C)))∧_
   cases hi:innF l m (wN C) (rN C) with
   | none=>rw [hi] at this; exact LInnerS_c _ _ w 0 0 4 this
   | some z=>rw [hi] at this; exact LInnerS_c _ _ w _ _ 0 this
theorem LInner_mode (C:Cfg) (lv:Int) (L L2:Lev) (l m:List Int) (w:World) (h:LvAt w L C lv l) (h2:LvAt w L2 C lv m) (hm:C.mode≠1) :
 Calls Tryz.prog 178 #[lvV C lv L,lvV C lv L2] w fun e w'=>e=.returned (.tuple #[.agg #[.int .i64 0,.int .u64 0],.int .i64 3])∧Ext w w':=by
 cases hx:isX C lv with
 | true =>
   rw [lvV_x hx,lvV_x hx]
   exact LInnerX_mode _ _ _ _ _ _ C lv _ l m w (h.x hx) (h2.x hx) hm
 | false =>
   rw [lvV_s hx,lvV_s hx]
   exact LInnerS_c _ _ w 0 0 3 fun W' he=>Inner_mode _ _ _ _ _ _ C lv _ _ l m W' ((h.sk hx).ext he) ((h2.sk hx).ext he) hm
end Go.Proofs.YtmalncfcgcebhaaGreatDoor
namespace Go.Proofs.YtmalncfcgcebhaaGreatDoor
set_option linter.unusedVariables false
open Go.RowKit
set_option maxRecDepth 20000 in
set_option maxHeartbeats 4000000 in
theorem KMerge_c (s g s2 g2 : Nat) (C : Cfg) (B : Nat) (L L2 : Nat → Lev) (ls ls2 : Nat → List Int) (w : World) (h : KAt w s g C B L ls) (h2 : KAt w s2 g2 C B L2 ls2) (hmd : "Merge" = "Subtract" → C.mode ≠ 2) :
 Calls Tryz.prog 138 #[.pointer (some ⟨s,0,none⟩),.pointer (some ⟨s2,0,none⟩)] w (KJoinPost w s g C B L (fun n=>plusL (ls n) (ls2 n))):=by
 have HA:=Lib.hid (KAllMerge_c s g s2 g2 C B L L2 ls ls2 w h h2 hmd)
 clear h h2 hmd
 go_enter Tryz.func138,Tryz.ntmps138
 go_wp2_with fail
 refine Calls.mono HA.out ?_
 rintro e w1 (⟨h1,rfl,h2,h3⟩ | ⟨h1,rfl,h2⟩)
 · go_wp2
   go_ret
   exact .inl ⟨h1,rfl,h2,h3⟩
 · go_wp2
   go_ret
   exact .inr ⟨h1,rfl,h2⟩
set_option maxRecDepth 20000 in
set_option maxHeartbeats 4000000 in
theorem KMerge_no (s g s2 g2:Nat) (C C2:Cfg) (B B2:Nat) (L L2:Nat→Lev) (ls ls2:Nat→List Int) (w:World) (h:KAt w s g C B L ls) (h2:KAt w s2 g2 C2 B2 L2 ls2) (hne:C≠C2) :
 Calls Tryz.prog 138 #[.pointer (some ⟨s,0,none⟩),.pointer (some ⟨s2,0,none⟩)] w fun e w'=>e=.returned (.int .i64 5)∧Ext w w':=by
 have HA:=Lib.hid (fun W (hW:Ext w W)=>KAlike_no s g s2 g2 C C2 B B2 L L2 ls ls2 W (h.ext hW) (h2.ext hW) hne)
 clear h h2 hne
 have hall:Calls Tryz.prog 180 #[.agg #[.func (.func 179) #[] #[]],.pointer (some ⟨s,0,none⟩),.pointer (some ⟨s2,0,none⟩)] w fun e w'=>e=.returned (.int .i64 5)∧Ext w w':=by
  go_enter Tryz.func180,Tryz.ntmps180
  go_wp2
  go_step3
  go_wp2_with fail
  refine Calls.mono (HA.out _ (Ext.alloc' _ _)) ?_
  rintro e w1 ⟨rfl,hx1⟩
  go_wp2
  try rw [Exit.noGoto_ret]
  go_ret
  exact ⟨rfl,(Ext.alloc' _ _).trans' hx1⟩
 have HALL:=Lib.hid hall
 clear hall HA
 go_enter Tryz.func138,Tryz.ntmps138
 go_wp2_with fail
 refine Calls.mono HALL.out ?_
 rintro e w1 ⟨rfl,hx1⟩
 go_wp2
 go_ret
 exact ⟨rfl,hx1⟩
set_option maxRecDepth 20000 in
set_option maxHeartbeats 4000000 in
theorem KSubtract_c (s g s2 g2 : Nat) (C : Cfg) (B : Nat) (L L2 : Nat → Lev) (ls ls2 : Nat → List Int) (w : World) (h : KAt w s g C B L ls) (h2 : KAt w s2 g2 C B L2 ls2) (hmd : "Subtract" = "Subtract" → C.mode ≠ 2) :
 Calls Tryz.prog 139 #[.pointer (some ⟨s,0,none⟩),.pointer (some ⟨s2,0,none⟩)] w (KJoinPost w s g C B L (fun n=>minusL (ls n) (ls2 n))):=by
 have HA:=Lib.hid (KAllSubtract_c s g s2 g2 C B L L2 ls ls2 w h h2 hmd)
 clear h h2 hmd
 go_enter Tryz.func139,Tryz.ntmps139
 go_wp2_with fail
 refine Calls.mono HA.out ?_
 rintro e w1 (⟨h1,rfl,h2,h3⟩ | ⟨h1,rfl,h2⟩)
 · go_wp2
   go_ret
   exact .inl ⟨h1,rfl,h2,h3⟩
 · go_wp2
   go_ret
   exact .inr ⟨h1,rfl,h2⟩
set_option maxRecDepth 20000 in
set_option maxHeartbeats 4000000 in
theorem KSubtract_no (s g s2 g2:Nat) (C C2:Cfg) (B B2:Nat) (L L2:Nat→Lev) (ls ls2:Nat→List Int) (w:World) (h:KAt w s g C B L ls) (h2:KAt w s2 g2 C2 B2 L2 ls2) (hne:C≠C2) :
 Calls Tryz.prog 139 #[.pointer (some ⟨s,0,none⟩),.pointer (some ⟨s2,0,none⟩)] w fun e w'=>e=.returned (.int .i64 5)∧Ext w w':=by
 have HA:=Lib.hid (fun W (hW:Ext w W)=>KAlike_no s g s2 g2 C C2 B B2 L L2 ls ls2 W (h.ext hW) (h2.ext hW) hne)
 clear h h2 hne
 have hall:Calls Tryz.prog 180 #[.agg #[.func (.func 181) #[] #[]],.pointer (some ⟨s,0,none⟩),.pointer (some ⟨s2,0,none⟩)] w fun e w'=>e=.returned (.int .i64 5)∧Ext w w':=by
  go_enter Tryz.func180,Tryz.ntmps180
  go_wp2
  go_step3
  go_wp2_with fail
  refine Calls.mono (HA.out _ (Ext.alloc' _ _)) ?_
  rintro e w1 ⟨rfl,hx1⟩
  go_wp2
  try rw [Exit.noGoto_ret]
  go_ret
  exact ⟨rfl,(Ext.alloc' _ _).trans' hx1⟩
 have HALL:=Lib.hid hall
 clear hall HA
 go_enter Tryz.func139,Tryz.ntmps139
 go_wp2_with fail
 refine Calls.mono HALL.out ?_
 rintro e w1 ⟨rfl,hx1⟩
 go_wp2
 go_ret
 exact ⟨rfl,hx1⟩
set_option maxRecDepth 20000 in
set_option maxHeartbeats 8000000 in
theorem KSubtract_mode (s g s2 g2:Nat) (C:Cfg) (B:Nat) (L L2:Nat→Lev) (ls ls2:Nat→List Int) (w:World) (h:KAt w s g C B L ls) (h2:KAt w s2 g2 C B L2 ls2) (hm:C.mode=2) :
 Calls Tryz.prog 139 #[.pointer (some ⟨s,0,none⟩),.pointer (some ⟨s2,0,none⟩)] w fun e w'=>e=.returned (.int .i64 3)∧Ext w w':=by
 have HH:=Lib.hid h
 have HH2:=Lib.hid h2
 have hok:=h.ok
 have hb1:=hok.b1
 have hb2:=hok.b2
 have HM:=Lib.hid hm
 clear h h2 hm
 have hall:Calls Tryz.prog 180 #[.agg #[.func (.func 181) #[] #[]],.pointer (some ⟨s,0,none⟩),.pointer (some ⟨s2,0,none⟩)] w fun e w'=>e=.returned (.int .i64 3)∧Ext w w':=by
  go_enter Tryz.func180,Tryz.ntmps180
  go_wp2
  go_step3
  go_wp2_with fail
  refine Calls.mono (KAlike_yes s g s2 g2 C B L L2 ls ls2 _ (HH.out.ext (Ext.alloc' _ _)) (HH2.out.ext (Ext.alloc' _ _))) ?_
  rintro e w1 ⟨rfl,hx1⟩
  have hj1:=hx1.keep (heap_at w (.cells #[.func (.func 181) #[] #[]] 298) rfl)
  have hE1:Ext w w1:=(Ext.alloc' _ _).trans' hx1
  clear hx1
  go_wp2
  go_step3
  go_wp2_with fail
  refine Calls.mono (SKConfig_c s g C B L ls _ (HH.out.ext hE1)) ?_
  rintro e w2 ⟨rfl,hx2⟩
  have hj2:=hx2.keep hj1
  have hE2:Ext w w2:=hE1.trans' hx2
  clear hj1 hx2 hE1
  have hfd:∀ w,(Instr.field 24 (.agg #[.int .i64 C.bits,.int .i64 C.rows,.int .i64 C.width,.int .i64 C.mode,.int .u64 C.seed]) 0).run Tryz.prog w=.ok (.int .i64 C.bits) w:=fun _=>by kernel_rfl
  have hlt':(0:Int) < C.bits+1:=by omega
  go_wp2
  refine wp_loop_rounds 1 ?_
  rw [rounds_succ]
  go_wp2_with fail
  refine Calls.mono (KAt_c s g C B L ls _ (HH.out.ext hE2) 0 (Nat.zero_le _)) ?_
  rintro e w3 ⟨M,rfl,hL,m1,m2,m3,hx3⟩
  have hE3:=hE2.trans' hx3
  rw [lvV_eq]
  have HL:=Lib.hid hL
  clear hL
  go_wp2_with fail
  refine Calls.mono (KAt_c s2 g2 C B L2 ls2 _ (HH2.out.ext hE3) 0 (Nat.zero_le _)) ?_
  rintro e w4 ⟨M2,rfl,hL2,n1,n2,n3,hx4⟩
  have hE4:=hE3.trans' hx4
  rw [lvV_eq]
  have HL4:=Lib.hid (HL.out.ext hx4)
  have HL2:=Lib.hid hL2
  have hj4:=(hx3.trans' hx4).keep hj2
  have c0:=(cell_of hj4 0).trans rfl
  have l0:=lt_of hj4
  clear hL2 HL
  have hcall:Calls Tryz.prog 181 #[.iface (lvT C (0:Nat)) (.pointer (some ⟨M.s,0,none⟩)),.iface (lvT C (0:Nat)) (.pointer (some ⟨M2.s,0,none⟩))] w4 (fun e w'=>e=.returned (.int .i64 3)∧Ext w4 w') :=
   LSubtract_mode C (0:Nat) M M2 _ _ w4 HL4.out HL2.out HM.out
  have HCALL:=Lib.hid hcall
  clear hcall
  go_wp2_with fail
  refine Calls.mono HCALL.out ?_
  rintro e w5 ⟨rfl,hx5⟩
  go_wp2
  try rw [Exit.noGoto_ret]
  go_ret
  exact ⟨rfl,hE4.trans' hx5⟩
 have HALL:=Lib.hid hall
 clear hall
 go_enter Tryz.func139,Tryz.ntmps139
 go_wp2_with fail
 refine Calls.mono HALL.out ?_
 rintro e w1 ⟨rfl,hx1⟩
 go_wp2
 go_ret
 exact ⟨rfl,hx1⟩
theorem wz2 {w w':World} (h:Ext w w') {c:Array Value} {t:TypeId} (hb:w'.heap[w.heap.size]?=some (.cells c t (0,0))) (u v:Value):Ext w ((w'.setCell ⟨w.heap.size,0,none⟩ u).setCell ⟨w.heap.size,1,none⟩ v) :=
 (h.setR (p:=⟨w.heap.size,0,none⟩) (Nat.le_refl _) u).setR (p:=⟨w.heap.size,1,none⟩) (Nat.le_refl _) v
set_option maxRecDepth 20000 in
set_option maxHeartbeats 8000000 in
theorem KInner_c (s g s2 g2:Nat) (C:Cfg) (B:Nat) (L L2:Nat→Lev) (ls ls2:Nat→List Int) (w:World) (h:KAt w s g C B L ls) (h2:KAt w s2 g2 C B L2 ls2) (H:Int) (l:Int) (k:Int)
 (hI:∀ (M M2:Lev) (W:World),LvAt W M C 0 (ls 0)→LvAt W M2 C 0 (ls2 0)→Calls Tryz.prog 178 #[lvV C 0 M,lvV C 0 M2] W fun e w'=>e=.returned (.tuple #[.agg #[.int .i64 H,.int .u64 l],.int .i64 k])∧Ext W w') :
 Calls Tryz.prog 137 #[.pointer (some ⟨s,0,none⟩),.pointer (some ⟨s2,0,none⟩)] w fun e w'=>e=.returned (.tuple #[.agg #[.int .i64 H,.int .u64 l],.int .i64 k])∧Ext w w':=by
 have HH:=Lib.hid h
 have HH2:=Lib.hid h2
 have HI:=Lib.hid hI
 clear h h2 hI
 go_enter Tryz.func137,Tryz.ntmps137
 go_wp2_with fail
 refine Calls.mono (KAlike_yes s g s2 g2 C B L L2 ls ls2 _ (HH.out.ext (Ext.alloc' _ _)) (HH2.out.ext (Ext.alloc' _ _))) ?_
 rintro e w1 ⟨rfl,hx1⟩
 have hb1:=hx1.keep (heap_at w (.cells #[.int .i64 0,.int .u64 0] 194) rfl)
 have hE1:Ext w w1:=(Ext.alloc' _ _).trans' hx1
 clear hx1
 go_wp2_with fail
 refine Calls.mono (KAt_c s g C B L ls _ (HH.out.ext hE1) 0 (Nat.zero_le _)) ?_
 rintro e w3 ⟨M,rfl,hL,m1,m2,m3,hx3⟩
 have hE3:=hE1.trans' hx3
 rw [lvV_eq]
 have HL:=Lib.hid hL
 clear hL
 go_wp2_with fail
 refine Calls.mono (KAt_c s2 g2 C B L2 ls2 _ (HH2.out.ext hE3) 0 (Nat.zero_le _)) ?_
 rintro e w4 ⟨M2,rfl,hL2,n1,n2,n3,hx4⟩
 have hE4:=hE3.trans' hx4
 rw [lvV_eq]
 have hcall:=HI.out M M2 w4 (HL.out.ext hx4) hL2
 have hb4:=(hx3.trans' hx4).keep hb1
 rw [lvV_eq,lvV_eq] at hcall
 have HCALL:=Lib.hid hcall
 clear hcall hL2 HL hb1 hx3 hx4
 go_wp2_with fail
 refine Calls.mono HCALL.out ?_
 rintro e w5 ⟨rfl,hx5⟩
 have hb5:=hx5.keep hb4
 have hE5:=hE4.trans' hx5
 have p0:=(cell_of hb5 0).trans rfl
 have p1:=(cell_of hb5 1).trans rfl
 have f0:=frozen_of hb5 0
 have f1:=frozen_of hb5 1
 have l5:=lt_of hb5
 have HB5:=Lib.hid hb5
 clear hb4 hb5
 go_wp2_with fail
 refine bodyPost_ret (v:=.tuple #[.agg #[.int .i64 H,.int .u64 l],.int .i64 k]) (by simp [results,Tryz.results137,go_sem, *]) rfl ⟨rfl,wz2 hE5 HB5.out _ _⟩
set_option maxRecDepth 20000 in
set_option maxHeartbeats 8000000 in
theorem KInner_no (s g s2 g2:Nat) (C C2:Cfg) (B B2:Nat) (L L2:Nat→Lev) (ls ls2:Nat→List Int) (w:World) (h:KAt w s g C B L ls) (h2:KAt w s2 g2 C2 B2 L2 ls2) (hne:C≠C2) :
 Calls Tryz.prog 137 #[.pointer (some ⟨s,0,none⟩),.pointer (some ⟨s2,0,none⟩)] w fun e w'=>e=.returned (.tuple #[.agg #[.int .i64 0,.int .u64 0],.int .i64 5])∧Ext w w':=by
 have HA:=Lib.hid (fun W (hW:Ext w W)=>KAlike_no s g s2 g2 C C2 B B2 L L2 ls ls2 W (h.ext hW) (h2.ext hW) hne)
 clear h h2 hne
 go_enter Tryz.func137,Tryz.ntmps137
 go_wp2_with fail
 refine Calls.mono (HA.out _ (Ext.alloc' _ _)) ?_
 rintro e w1 ⟨rfl,hx1⟩
 have hb5:=hx1.keep (heap_at w (.cells #[.int .i64 0,.int .u64 0] 194) rfl)
 have hE1:Ext w w1:=(Ext.alloc' _ _).trans' hx1
 have p0:=(cell_of hb5 0).trans rfl
 have p1:=(cell_of hb5 1).trans rfl
 have f0:=frozen_of hb5 0
 have f1:=frozen_of hb5 1
 have l5:=lt_of hb5
 have HB5:=Lib.hid hb5
 clear hb5 hx1
 go_wp2_with fail
 refine bodyPost_ret (v:=.tuple #[.agg #[.int .i64 0,.int .u64 0],.int .i64 5]) (by simp [results,Tryz.results137,go_sem, *]) rfl ⟨rfl,wz2 hE1 HB5.out _ _⟩
end Go.Proofs.YtmalncfcgcebhaaGreatDoor
namespace Go.Proofs.YtmalncfcgcebhaaGreatDoor
set_option linter.unusedVariables false
open Go.RowKit
attribute [local go_sem] Oper.semAt_some
def KUpdPost (w:World) (s g:Nat) (C:Cfg) (B:Nat) (L:Nat→Lev) (ls:Nat→List Int) (key d:Int) (e:Ending) (w':World):Prop :=
 e=.returned (.int .i64 (errK C B ls key d))∧KAt w' s g C B L (bif decide (errK C B ls key d=0) then updK C ls key d else ls)∧Mod (cellsOf B L) w w'
set_option maxRecDepth 100000 in
set_option maxHeartbeats 4000000 in
theorem KUpdate_c (s g:Nat) (C:Cfg) (B:Nat) (L:Nat→Lev) (ls:Nat→List Int) (key d:Int) (w:World) (h:KAt w s g C B L ls) (hd:I64 d) (hk:U64 key) :
 Calls Tryz.prog 126 #[.pointer (some ⟨s,0,none⟩),.int .u64 key,.int .i64 d] w (KUpdPost w s g C B L ls key d):=by
 have hok:=h.ok
 have hlt:=h.lts
 have hltg:=h.ltg
 obtain ⟨cap,hex,hcap⟩:=h.ex
 have c0:=(cell_of hex 0).trans rfl
 have c1:=(cell_of hex 1).trans rfl
 have c2:=(cell_of hex 2).trans rfl
 have c3:=(cell_of hex 3).trans rfl
 have c4:=(cell_of hex 4).trans rfl
 have hb2:C.bits≤59:=hok.b2
 have hb1:1≤C.bits:=hok.b1
 have HE:=Lib.hid hex
 have HH:=Lib.hid h
 clear h hex
 refine (callsIn_wide (n:=5)).1 ?_
 refine callsIn_of_wp_marks Tryz.func126 rfl trivial ?_ rfl
 simp only [Tryz.ntmps126,List.size_toArray,List.length_cons,List.length_nil,Nat.reduceAdd,Nat.reduceSub,Array.replicate_succ,Array.replicate_zero,List.push_toArray,List.append_toArray,List.nil_append,List.cons_append]
 gi_wp2_with fail
 refine ⟨trivial,(callsIn_wide.2 (Keys_c C hok 0 (Int.le_refl 0) (by omega) _)).mono ?_⟩
 rintro e w1 ⟨rfl,hx1⟩
 have hE1:Ext w w1:=(Ext.alloc' w _).trans' hx1
 have h1:=HH.out.ext hE1
 have db:=hx1.keep (heap_at w (.cells #[.int .i64 d] 2) rfl)
 have hls:=h1.lts
 by_cases hkey:keys C 0≤key
 · have e1:errK C B ls key d=2:=by unfold errK; rw [decide_eq_true hkey]; rfl
   have hge:decide (keys C 0≤key)=true:=decide_eq_true hkey
   gi_wp2
   exact ⟨_,results_tmp rfl _ _ _,by rw [e1]; rfl,by rw [e1]; exact h1,hE1.mod _⟩
 · have hge:decide (keys C 0≤key)=false:=decide_eq_false hkey
   gi_wp2_with fail
   refine ⟨trivial,(callsIn_wide.2 (Kat_c s key _)).mono ?_⟩
   rintro e w2 ⟨rfl,rfl⟩
   gi_wp2
   obtain ⟨W0,hW0⟩:∃ W0,((w1.alloc (.cells #[.int .i64 0] 41)).alloc (.cells #[.pointer (some ⟨s,0,none⟩)] 40)).alloc (.cells #[.int .u64 key] 22)=W0:=⟨_,rfl⟩
   have hsz:W0.heap.size=w1.heap.size+3:=by rw [← hW0]; simp
   have hEW:Ext w1 W0:=by rw [← hW0]; exact ((Ext.alloc' _ _).allocR _).allocR _
   have hb0:W0.heap[w1.heap.size]?=some (.cells #[.int .i64 0] 41 (0,0)):=by rw [← hW0,heap_old _ _ (by simp; omega),heap_old _ _ (by simp)]; exact heap_at _ _ rfl
   have hb1':W0.heap[w1.heap.size+1]?=some (.cells #[.pointer (some ⟨s,0,none⟩)] 40 (0,0)):=by rw [← hW0,heap_old _ _ (by simp)]; exact heap_at _ _ (size_alloc _ _).symm
   have hb2':W0.heap[w1.heap.size+2]?=some (.cells #[.int .u64 key] 22 (0,0)):=by rw [← hW0]; exact heap_at _ _ (by simp)
   rw [hW0]
   have h2:=h1.ext hEW
   obtain ⟨cap2,hex2,hcap2⟩:=h2.ex
   have H2:=Lib.hid h2
   have hBd:B≤59:=by have:=hok.b2; have:=h2.hB; omega
   refine wpIn_rangeFunc_ownF rfl (by decide) (gf:=207) (lb:=#[.pointer (some ⟨w1.heap.size+1,0,none⟩),.pointer (some ⟨w1.heap.size+1+1,0,none⟩)]) rfl trivial (enters_of Tryz.func207 (by kernel_rfl) rfl)
    (kat1_stops 4 (w1.heap.size+1) (w1.heap.size+2) W0.heap.size s g cap2 (fun k=>k=w1.heap.size) C L B key hk hBd (by omega) (by omega) h2.lts h2.ltg (by omega) (by omega) (by omega) (by have:=h1.ltg; omega) W0 (Nat.le_refl _)
     ((cell_of hb1' 0).trans rfl) ((cell_of hb2' 0).trans rfl) ((cell_of hex2 5).trans rfl) (fun n hn=>h2.cell hn)) KpS.t (fun W l o o' hl ho hc hw=>KpS.b (Nat.le_refl _) W l o o' hl ho hc hw) (Below.refl _ _) (fun _=>rfl)
    (fun pre W=>W.heap[w1.heap.size]?=some (.cells #[.int .i64 (errF C ls key d (vals pre))] 41 (0,0))∧Mod (fun k=>k=w1.heap.size) W0 W)
    (fun _ _ _=>False)
    (OwnFrom.and (ownFrom_box (by omega) _) (ownFrom_mod (Nat.le_refl _)))
    (fun _ _ _ _ _ hs _ _=>hs)
    ⟨hb0,Mod.refl _ _⟩
    (fun x=>{ tmps:=#[.pointer (some ⟨s,0,none⟩),.int .u64 key,.int .i64 d,undef,undef,.pointer (some ⟨w.heap.size,0,none⟩),.int .i64 0,.pointer (some ⟨w1.heap.size,0,none⟩),lvV C x.1 (L x.1),.int .u64 (sh x.1 key),undef,undef,.int .u64 key,.pointer (some ⟨s,0,none⟩),.pointer (some ⟨s,0,none⟩),.pointer (some ⟨s,0,none⟩),.agg #[.int .i64 C.bits,.int .i64 C.rows,.int .i64 C.width,.int .i64 C.mode,.int .u64 C.seed],.int .u64 (keys C 0),.bool false,.pointer (some ⟨s,0,none⟩),.int .u64 key,.func (.func 207) #[] #[.pointer (some ⟨w1.heap.size+1,0,none⟩),.pointer (some ⟨w1.heap.size+1+1,0,none⟩)],lvV C x.1 (L x.1),.int .u64 (sh x.1 key),undef,undef,undef,undef,undef,undef,undef,undef,undef,undef,undef,undef,undef,undef,undef,undef,undef,undef,undef],defers:=[] }) ?assign ?body ?done ?stop
   case assign =>
    intro l x W K hK
    dsimp only [lvEnc]
    gi_wp2
    exact hK
   case body =>
    rintro l pre x W ⟨hbad,hM0⟩ hlen
    have hM:=mod_new hEW hM0 (Nat.le_refl _)
    have hxn:=x.2
    have h3:=h1.keepN h1.low (fun k hk _=>hM.block k hk (fun h=>h))
    have hLx:=h3.lev x.1 x.2
    have hbc:=(cell_of hbad 0).trans rfl
    have hdW:=hM.keep db (fun h=>h)
    have hdc:=(cell_of hdW 0).trans rfl
    have hbl:=lt_of hbad
    have hdl:=lt_of hdW
    have hkx:=sh_u64 hk x.1
    gi_wp2
    cases hx:isX C x.1 with
    | true =>
      have hA:=(hLx.x hx).ext (Below.drew (Ext.refl W))
      have HX:=Lib.hid hx
      rw [lvV_x hx]
      clear hx
      refine pi_startR (fun w'=>∃ x:After W,w'=x.w) [7] (by kernel_rfl) (fun ⟨_,_,hh⟩=>hh) (by kernel_rfl) ?_
      have hC0:=af_drew W
      refine pi_c 0 (by assumption) rfl (by kernel_rfl) (by kernel_rfl) (fun _ _ _ _ h=>h) (fun K hK=>?_)
      go_big_quiet_op
      refine hK _ ?_
      clear hK K
      refine pi_t 1 rfl (by kernel_rfl) (by kernel_rfl) (fun _ _ _ _ h=>h) (fun K hK=>?_)
      go_big_quiet_op
      refine hK _ ?_
      clear hK K
      refine pi_t 2 rfl (by kernel_rfl) (by kernel_rfl) (fun _ _ _ _ h=>h) (fun K hK=>?_)
      go_big_quiet_op
      refine hK _ ?_
      clear hK K
      refine pi_c 3 (by assumption) rfl (by kernel_rfl) (by kernel_rfl) (fun _ _ _ _ h=>h) (fun K hK=>?_)
      go_big_quiet_op
      refine hK _ ?_
      clear hK K
      refine pi_l 4 rfl (by kernel_rfl) (fun K hK=>?_)
      go_wp2_with fail
      refine (ECheck_c _ _ _ C _ _ _ (sh x.1 key) d _ hA hd hkx).mono ?_
      rintro e w3 ⟨rfl,hx3⟩
      have hb3:=hx3.keep (show W.drew.heap[w1.heap.size]?=_ from hbad)
      have hbc3:=(cell_of hb3 0).trans rfl
      have hbl3:=lt_of hb3
      have hbf3:=frozen_of hb3 0
      go_wp2
      refine hK _ _ (fun _ h=>af_step h hx3) ?_
      clear hK K
      refine pi_l 5 rfl (by kernel_rfl) (fun K hK=>?_)
      go_wp2
      refine hK _ _ (fun _ h=>af_step h (Ext.alloc' _ _)) ?_
      clear hK K
      refine pi_l 6 rfl (by kernel_rfl) (fun K hK=>?_)
      go_wp2_with fail
      refine (first_c w3.heap.size 2 (errF C ls key d (vals pre)) (errX C x.1 (ls x.1) (sh x.1 key) d) _ ((cell_of (heap_at w3 _ rfl) 0).trans rfl) ((cell_of (heap_at w3 _ rfl) 1).trans rfl)).mono ?_
      rintro e w4 ⟨rfl,rfl⟩
      go_wp2
      refine hK _ _ (fun _ h=>h) ?_
      clear hK K
      refine pi_l 7 rfl (by kernel_rfl) (fun K hK=>?_)
      go_wp2
      refine hK _ _ (by simp) ?_
      clear hK K
      refine pi_end (by kernel_rfl) ?_
      obtain ⟨r1,r2,r3,r4⟩:=chk_round (v:=.int .i64 (fst_ (errF C ls key d (vals pre)) (errX C x.1 (ls x.1) (sh x.1 key) d))) (o:=.cells #[.int .i64 (errF C ls key d (vals pre)),.int .i64 (errX C x.1 (ls x.1) (sh x.1 key) d)] 41) hbad (Ext.trans' (Below.drew (Ext.refl W)) hx3) hM0
      exact ⟨r1,r2,by rw [vals_snoc,errF_snoc,lvE_x HX.out]; exact r3,r4⟩
    | false =>
      have hA:=(hLx.sk hx).ext (Below.drew (Ext.refl W))
      have HX:=Lib.hid hx
      rw [lvV_s hx]
      clear hx
      refine pi_startR (fun w'=>∃ x:After W,w'=x.w) [7] (by kernel_rfl) (fun ⟨_,_,hh⟩=>hh) (by kernel_rfl) ?_
      have hC0:=af_drew W
      refine pi_c 0 (by assumption) rfl (by kernel_rfl) (by kernel_rfl) (fun _ _ _ _ h=>h) (fun K hK=>?_)
      go_big_quiet_op
      refine hK _ ?_
      clear hK K
      refine pi_t 1 rfl (by kernel_rfl) (by kernel_rfl) (fun _ _ _ _ h=>h) (fun K hK=>?_)
      go_big_quiet_op
      refine hK _ ?_
      clear hK K
      refine pi_t 2 rfl (by kernel_rfl) (by kernel_rfl) (fun _ _ _ _ h=>h) (fun K hK=>?_)
      go_big_quiet_op
      refine hK _ ?_
      clear hK K
      refine pi_c 3 (by assumption) rfl (by kernel_rfl) (by kernel_rfl) (fun _ _ _ _ h=>h) (fun K hK=>?_)
      go_big_quiet_op
      refine hK _ ?_
      clear hK K
      refine pi_l 4 rfl (by kernel_rfl) (fun K hK=>?_)
      go_wp2_with fail
      refine (Check_c _ _ _ C _ _ _ _ (sh x.1 key) d _ hA hd hkx.1).mono ?_
      rintro e w3 ⟨rfl,hx3⟩
      have hb3:=hx3.keep (show W.drew.heap[w1.heap.size]?=_ from hbad)
      have hbc3:=(cell_of hb3 0).trans rfl
      have hbl3:=lt_of hb3
      have hbf3:=frozen_of hb3 0
      go_wp2
      refine hK _ _ (fun _ h=>af_step h hx3) ?_
      clear hK K
      refine pi_l 5 rfl (by kernel_rfl) (fun K hK=>?_)
      go_wp2
      refine hK _ _ (fun _ h=>af_step h (Ext.alloc' _ _)) ?_
      clear hK K
      refine pi_l 6 rfl (by kernel_rfl) (fun K hK=>?_)
      go_wp2_with fail
      refine (first_c w3.heap.size 2 (errF C ls key d (vals pre)) (errU C x.1 (rN C) (wN C) (ls x.1) (sh x.1 key) d) _ ((cell_of (heap_at w3 _ rfl) 0).trans rfl) ((cell_of (heap_at w3 _ rfl) 1).trans rfl)).mono ?_
      rintro e w4 ⟨rfl,rfl⟩
      go_wp2
      refine hK _ _ (fun _ h=>h) ?_
      clear hK K
      refine pi_l 7 rfl (by kernel_rfl) (fun K hK=>?_)
      go_wp2
      refine hK _ _ (by simp) ?_
      clear hK K
      refine pi_end (by kernel_rfl) ?_
      obtain ⟨r1,r2,r3,r4⟩:=chk_round (v:=.int .i64 (fst_ (errF C ls key d (vals pre)) (errU C x.1 (rN C) (wN C) (ls x.1) (sh x.1 key) d))) (o:=.cells #[.int .i64 (errF C ls key d (vals pre)),.int .i64 (errU C x.1 (rN C) (wN C) (ls x.1) (sh x.1 key) d)] 41) hbad (Ext.trans' (Below.drew (Ext.refl W)) hx3) hM0
      exact ⟨r1,r2,by rw [vals_snoc,errF_snoc,lvE_s HX.out]; exact r3,r4⟩
   case done =>
    rintro D xs W hD hxs ⟨hbad,hM0⟩ hdef
    have hM:=mod_new hEW hM0 (Nat.le_refl _)
    have hz:errF C ls key d (vals xs)=errs C ls key d (B+1):=by unfold vals; rw [hxs,errF_range]
    rw [hz] at hbad
    have hek:errK C B ls key d=errs C ls key d (B+1):=by unfold errK; rw [hge]; rfl
    have h3:=h1.keepN h1.low (fun k hk _=>hM.block k hk (fun h=>h))
    have hbc:=(cell_of hbad 0).trans rfl
    have hdW:=hM.keep db (fun h=>h)
    have hdc:=(cell_of hdW 0).trans rfl
    have hbl:=lt_of hbad
    have hdl:=lt_of hdW
    have HZ:=Lib.hid hek
    have HXS:=Lib.hid hz
    clear hek hz hxs
    by_cases hzz:errs C ls key d (B+1)=0
    · gi_wp2_with fail
      refine ⟨trivial,(callsIn_wide.2 (Kat_c s key _)).mono ?_⟩
      rintro e w2 ⟨rfl,rfl⟩
      gi_wp2
      obtain ⟨W2,hW2⟩:∃ W2,(W.alloc (.cells #[.pointer (some ⟨s,0,none⟩)] 40)).alloc (.cells #[.int .u64 key] 22)=W2:=⟨_,rfl⟩
      have hsz2:W2.heap.size=W.heap.size+2:=by rw [← hW2]; simp
      have hEW2:Ext W W2:=by rw [← hW2]; exact (Ext.alloc' _ _).allocR _
      have hb1':W2.heap[W.heap.size]?=some (.cells #[.pointer (some ⟨s,0,none⟩)] 40 (0,0)):=by rw [← hW2,heap_old _ _ (by simp)]; exact heap_at _ _ rfl
      have hb2':W2.heap[W.heap.size+1]?=some (.cells #[.int .u64 key] 22 (0,0)):=by rw [← hW2]; exact heap_at _ _ (size_alloc _ _).symm
      have hdef2:=hEW2.keep hdef
      have hd2:=hEW2.keep hdW
      rw [hW2]
      have h4:=h3.ext hEW2
      obtain ⟨cap4,hex4,hcap4⟩:=h4.ex
      have hall:∀ n,n≤B→lvE C n (ls n) (sh n key) d=0:=fun n hn=>errs_zero.1 hzz n (by omega)
      have hlt3:∀ k,cellsOf B L k→k < W.heap.size:=fun k hk=>h3.ltc hk
      have hlt0:∀ k,cellsOf B L k→k < w.heap.size:=fun k hk=>HH.out.ltc hk
      have hWl:=hM.size
      have hDl:=lt_of hdef
      refine wpIn_rangeFunc_ownF rfl (by decide) (gf:=207) (lb:=#[.pointer (some ⟨W.heap.size,0,none⟩),.pointer (some ⟨W.heap.size+1,0,none⟩)]) rfl trivial (enters_of Tryz.func207 (by kernel_rfl) rfl)
       (kat1_stops 4 W.heap.size (W.heap.size+1) W2.heap.size s g cap4 (cellsOf B L) C L B key hk hBd (by omega) (by omega) h4.lts h4.ltg (fun h=>absurd (hlt3 _ h) (by omega)) (fun h=>absurd (hlt3 _ h) (by omega)) h3.nots h3.notg W2 (Nat.le_refl _)
        ((cell_of hb1' 0).trans rfl) ((cell_of hb2' 0).trans rfl) ((cell_of hex4 5).trans rfl) (fun n hn=>h4.cell hn)) KpS.t (fun W l o o' hl ho hc hw=>KpS.b (Nat.le_refl _) W l o o' hl ho hc hw) (Below.refl _ _) (fun _=>rfl)
       (fun pre W'=>W'.heap[D]?=some (.deferred (some []))∧(∃ ls',KAt W' s g C B L ls'∧((vals pre).Nodup→∀ n,ls' n=partK C ls key d (vals pre) n))∧Mod (cellsOf B L) W2 W')
       (fun _ _ _=>False)
       (OwnFrom.and (ownFrom_box (by omega) (fun _=>_)) (OwnFrom.and (fun pre W' W'' row hs hg hr=>by obtain ⟨ls',h,hp⟩:=hs; exact ⟨ls',h.keepN h4.low (fun k hk hN=>grown_low hg (fun r e=>(hr r e).1) hk hN),hp⟩) (ownFrom_mod (Nat.le_refl _))))
       (fun _ _ _ _ _ hs _ _=>hs)
       ⟨hdef2,⟨ls,h4,fun _ n=>rfl⟩,Mod.refl _ _⟩
       (fun x=>{ tmps:=#[.pointer (some ⟨s,0,none⟩),.int .u64 key,.int .i64 d,undef,undef,.pointer (some ⟨w.heap.size,0,none⟩),.int .i64 0,.pointer (some ⟨w1.heap.size,0,none⟩),undef,undef,lvV C x.1 (L x.1),.int .u64 (sh x.1 key),.int .u64 key,.pointer (some ⟨s,0,none⟩),.pointer (some ⟨s,0,none⟩),.pointer (some ⟨s,0,none⟩),.agg #[.int .i64 C.bits,.int .i64 C.rows,.int .i64 C.width,.int .i64 C.mode,.int .u64 C.seed],.int .u64 (keys C 0),.bool false,.pointer (some ⟨s,0,none⟩),.int .u64 key,.func (.func 207) #[] #[.pointer (some ⟨w1.heap.size+1,0,none⟩),.pointer (some ⟨w1.heap.size+1+1,0,none⟩)],undef,undef,undef,undef,undef,undef,undef,undef,undef,.int .i64 0,.bool false,undef,.pointer (some ⟨s,0,none⟩),.int .u64 key,.func (.func 207) #[] #[.pointer (some ⟨W.heap.size,0,none⟩),.pointer (some ⟨W.heap.size+1,0,none⟩)],lvV C x.1 (L x.1),.int .u64 (sh x.1 key),undef,undef,undef,undef],defers:=[] }) ?assign2 ?body2 ?done2 ?stop2
      case assign2 =>
       intro l x W K hK
       dsimp only [lvEnc]
       gi_wp2
       exact hK
      case body2 =>
       rintro l pre x V ⟨hD5,⟨ls',h5,hp5⟩,hM5⟩ hlen
       have hd5:=hM5.keep hd2 (fun h=>absurd (hlt0 _ h) (by omega))
       have hdc5:=(cell_of hd5 0).trans rfl
       have hdl5:=lt_of hd5
       have hkx:=sh_u64 hk x.1
       have hLx:=h5.lev x.1 x.2
       have fin:=fun w3 hres=>upd_round (w3:=w3) (x:=x) h5 hp5 hM5 hD5 hall hres
       cases hx:isX C x.1 with
       | true =>
         have hA:=hLx.x hx
         have HX:=Lib.hid hx
         rw [lvV_x hx]
         clear hx
         refine wpIn_block ?_
         refine region_plainR (fun ⟨_,_,hh⟩=>hh) (by kernel_rfl) ?_
         go_wp2_with fail
         refine Calls.mono (EUpdate_c _ _ _ C _ _ _ (sh x.1 key) d _ hA hd hkx) ?_
         rintro e w3 ⟨rfl,hres⟩
         gi_wp2
         rw [← lvE_x HX.out,← lvU_x HX.out] at hres
         exact fin w3 (hres.imp (fun ⟨a,b,c⟩=>⟨a,.inl ⟨HX.out,b⟩,c⟩) (fun h=>h))
       | false =>
         have hA:=hLx.sk hx
         have HX:=Lib.hid hx
         rw [lvV_s hx]
         clear hx
         refine wpIn_block ?_
         refine region_plainR (fun ⟨_,_,hh⟩=>hh) (by kernel_rfl) ?_
         go_wp2_with fail
         refine Calls.mono (Update_c _ _ _ C _ _ _ _ (sh x.1 key) d _ hA hd hkx.1) ?_
         rintro e w3 ⟨rfl,hres⟩
         gi_wp2
         rw [← lvE_s HX.out,← lvU_s HX.out] at hres
         exact fin w3 (hres.imp (fun ⟨a,b,c⟩=>⟨a,.inr ⟨HX.out,b⟩,c⟩) (fun h=>h))
      case done2 =>
       rintro D2 ys V hD2 hys ⟨hD5,⟨ls',h5,hp5⟩,hM5⟩ hdef5
       gi_wp2
       have hne:D≠D2:=by omega
       refine ⟨by simp,.inl ⟨_,_,rfl,run_takeDeferred hdef5,⟨by simp,.inl ⟨_,_,rfl,run_takeDeferred ((World.putObj_heap_other hne).trans hD5), ?_⟩⟩⟩⟩
       have hq:Mod (cellsOf B L) w V:=(((hE1.mod _).trans (hM.mono (fun _ h _=>h.elim))).trans (hEW2.mod _)).trans hM5
       have hwl:=hE1.size
       refine ⟨_,results_tmp rfl _ _ _,by rw [HZ.out,hzz]; rfl, ?_,mod_putD (mod_putD hq (by omega)) (by omega)⟩
       rw [HZ.out,hzz]
       refine KAt.cong (ls:=ls') ?_ (part_end hys hp5)
       exact h5.keepN HH.out.low (fun k _ hN=>(World.putObj_heap_other (by omega)).trans (World.putObj_heap_other (by omega)))
      case stop2 =>
       rintro D2 c pre V hD2 _ hh _
       exact hh.elim
    · gi_wp2
      refine ⟨by simp,.inl ⟨_,_,rfl,run_takeDeferred hdef, ?_⟩⟩
      have hp:Mod (fun _=>False) w1 (W.putObj D (.deferred none)):=mod_putD hM (by omega)
      refine ⟨_,results_tmp rfl _ _ _,by rw [HZ.out]; rfl, ?_,(hE1.mod _).trans (hp.mono (fun _ h _=>h.elim))⟩
      rw [HZ.out,decide_eq_false hzz]
      exact h1.keepN h1.low (fun k hk _=>hp.block k hk (fun h=>h))
   case stop =>
    rintro D c pre W hD _ hh _
    exact hh.elim
end Go.Proofs.YtmalncfcgcebhaaGreatDoor
namespace Go.Proofs.YtmalncfcgcebhaaGreatDoor
set_option linter.unusedVariables false
open Go.RowKit
set_option maxRecDepth 100000 in
set_option maxHeartbeats 2000000 in
theorem within_no01 (a b c d:Int) (s:Nat) (w:World)
 (f0:decide (a < 1)=true)
 (hs:w.heap[s]?=some (.cells #[.int .i64 a,.int .i64 59,.int .i64 b,.int .i64 8,.int .i64 c,.int .i64 128,.int .i64 d,.int .i64 3] 266 (0,0))) :
 Calls Tryz.prog 148 #[.slice (some ⟨s,0,none⟩) 4 4] w fun e w'=>e=.returned (.bool false)∧Ext w w':=by
 have hlt:=lt_of hs
 have l1:s < w.heap.size+1:=by omega
 have l2:s < w.heap.size+1+1:=by omega
 have l3:s < w.heap.size+1+1+1:=by omega
 have k0:=cell_of hs 0
 have k1:=cell_of hs 1
 have k2:=cell_of hs 2
 have k3:=cell_of hs 3
 have k4:=cell_of hs 4
 have k5:=cell_of hs 5
 have k6:=cell_of hs 6
 have k7:=cell_of hs 7
 simp at k0 k1 k2 k3 k4 k5 k6 k7
 clear hs
 go_enter Tryz.func148,Tryz.ntmps148
 go_wp2
 refine wp_loop_rounds 1 ?_
 iterate 1 (rw [rounds_succ]; go_wp2)
 go_ret
 exact ⟨rfl,by (repeat' (first | exact Ext.refl _ | assumption | apply Ext.allocR | apply Ext.drewR | apply Ext.drewNR | (refine Ext.trans' ?_ (by assumption))))⟩
set_option maxRecDepth 100000 in
set_option maxHeartbeats 2000000 in
theorem within_no02 (a b c d:Int) (s:Nat) (w:World)
 (f0:decide (a < 1)=false) (g0:decide (59 < a)=true)
 (hs:w.heap[s]?=some (.cells #[.int .i64 a,.int .i64 59,.int .i64 b,.int .i64 8,.int .i64 c,.int .i64 128,.int .i64 d,.int .i64 3] 266 (0,0))) :
 Calls Tryz.prog 148 #[.slice (some ⟨s,0,none⟩) 4 4] w fun e w'=>e=.returned (.bool false)∧Ext w w':=by
 have hlt:=lt_of hs
 have l1:s < w.heap.size+1:=by omega
 have l2:s < w.heap.size+1+1:=by omega
 have l3:s < w.heap.size+1+1+1:=by omega
 have k0:=cell_of hs 0
 have k1:=cell_of hs 1
 have k2:=cell_of hs 2
 have k3:=cell_of hs 3
 have k4:=cell_of hs 4
 have k5:=cell_of hs 5
 have k6:=cell_of hs 6
 have k7:=cell_of hs 7
 simp at k0 k1 k2 k3 k4 k5 k6 k7
 clear hs
 go_enter Tryz.func148,Tryz.ntmps148
 go_wp2
 refine wp_loop_rounds 1 ?_
 iterate 1 (rw [rounds_succ]; go_wp2)
 go_ret
 exact ⟨rfl,by (repeat' (first | exact Ext.refl _ | assumption | apply Ext.allocR | apply Ext.drewR | apply Ext.drewNR | (refine Ext.trans' ?_ (by assumption))))⟩
set_option maxRecDepth 100000 in
set_option maxHeartbeats 2000000 in
theorem within_no11 (a b c d:Int) (s:Nat) (w:World)
 (f0:decide (a < 1)=false) (g0:decide (59 < a)=false) (f1:decide (b < 1)=true)
 (hs:w.heap[s]?=some (.cells #[.int .i64 a,.int .i64 59,.int .i64 b,.int .i64 8,.int .i64 c,.int .i64 128,.int .i64 d,.int .i64 3] 266 (0,0))) :
 Calls Tryz.prog 148 #[.slice (some ⟨s,0,none⟩) 4 4] w fun e w'=>e=.returned (.bool false)∧Ext w w':=by
 have hlt:=lt_of hs
 have l1:s < w.heap.size+1:=by omega
 have l2:s < w.heap.size+1+1:=by omega
 have l3:s < w.heap.size+1+1+1:=by omega
 have k0:=cell_of hs 0
 have k1:=cell_of hs 1
 have k2:=cell_of hs 2
 have k3:=cell_of hs 3
 have k4:=cell_of hs 4
 have k5:=cell_of hs 5
 have k6:=cell_of hs 6
 have k7:=cell_of hs 7
 simp at k0 k1 k2 k3 k4 k5 k6 k7
 clear hs
 go_enter Tryz.func148,Tryz.ntmps148
 go_wp2
 refine wp_loop_rounds 2 ?_
 iterate 2 (rw [rounds_succ]; go_wp2)
 go_ret
 exact ⟨rfl,by (repeat' (first | exact Ext.refl _ | assumption | apply Ext.allocR | apply Ext.drewR | apply Ext.drewNR | (refine Ext.trans' ?_ (by assumption))))⟩
set_option maxRecDepth 100000 in
set_option maxHeartbeats 2000000 in
theorem within_no12 (a b c d:Int) (s:Nat) (w:World)
 (f0:decide (a < 1)=false) (g0:decide (59 < a)=false) (f1:decide (b < 1)=false) (g1:decide (8 < b)=true)
 (hs:w.heap[s]?=some (.cells #[.int .i64 a,.int .i64 59,.int .i64 b,.int .i64 8,.int .i64 c,.int .i64 128,.int .i64 d,.int .i64 3] 266 (0,0))) :
 Calls Tryz.prog 148 #[.slice (some ⟨s,0,none⟩) 4 4] w fun e w'=>e=.returned (.bool false)∧Ext w w':=by
 have hlt:=lt_of hs
 have l1:s < w.heap.size+1:=by omega
 have l2:s < w.heap.size+1+1:=by omega
 have l3:s < w.heap.size+1+1+1:=by omega
 have k0:=cell_of hs 0
 have k1:=cell_of hs 1
 have k2:=cell_of hs 2
 have k3:=cell_of hs 3
 have k4:=cell_of hs 4
 have k5:=cell_of hs 5
 have k6:=cell_of hs 6
 have k7:=cell_of hs 7
 simp at k0 k1 k2 k3 k4 k5 k6 k7
 clear hs
 go_enter Tryz.func148,Tryz.ntmps148
 go_wp2
 refine wp_loop_rounds 2 ?_
 iterate 2 (rw [rounds_succ]; go_wp2)
 go_ret
 exact ⟨rfl,by (repeat' (first | exact Ext.refl _ | assumption | apply Ext.allocR | apply Ext.drewR | apply Ext.drewNR | (refine Ext.trans' ?_ (by assumption))))⟩
set_option maxRecDepth 100000 in
set_option maxHeartbeats 2000000 in
theorem within_no21 (a b c d:Int) (s:Nat) (w:World)
 (f0:decide (a < 1)=false) (g0:decide (59 < a)=false) (f1:decide (b < 1)=false) (g1:decide (8 < b)=false) (f2:decide (c < 1)=true)
 (hs:w.heap[s]?=some (.cells #[.int .i64 a,.int .i64 59,.int .i64 b,.int .i64 8,.int .i64 c,.int .i64 128,.int .i64 d,.int .i64 3] 266 (0,0))) :
 Calls Tryz.prog 148 #[.slice (some ⟨s,0,none⟩) 4 4] w fun e w'=>e=.returned (.bool false)∧Ext w w':=by
 have hlt:=lt_of hs
 have l1:s < w.heap.size+1:=by omega
 have l2:s < w.heap.size+1+1:=by omega
 have l3:s < w.heap.size+1+1+1:=by omega
 have k0:=cell_of hs 0
 have k1:=cell_of hs 1
 have k2:=cell_of hs 2
 have k3:=cell_of hs 3
 have k4:=cell_of hs 4
 have k5:=cell_of hs 5
 have k6:=cell_of hs 6
 have k7:=cell_of hs 7
 simp at k0 k1 k2 k3 k4 k5 k6 k7
 clear hs
 go_enter Tryz.func148,Tryz.ntmps148
 go_wp2
 refine wp_loop_rounds 3 ?_
 iterate 3 (rw [rounds_succ]; go_wp2)
 go_ret
 exact ⟨rfl,by (repeat' (first | exact Ext.refl _ | assumption | apply Ext.allocR | apply Ext.drewR | apply Ext.drewNR | (refine Ext.trans' ?_ (by assumption))))⟩
set_option maxRecDepth 100000 in
set_option maxHeartbeats 2000000 in
theorem within_no22 (a b c d:Int) (s:Nat) (w:World)
 (f0:decide (a < 1)=false) (g0:decide (59 < a)=false) (f1:decide (b < 1)=false) (g1:decide (8 < b)=false) (f2:decide (c < 1)=false) (g2:decide (128 < c)=true)
 (hs:w.heap[s]?=some (.cells #[.int .i64 a,.int .i64 59,.int .i64 b,.int .i64 8,.int .i64 c,.int .i64 128,.int .i64 d,.int .i64 3] 266 (0,0))) :
 Calls Tryz.prog 148 #[.slice (some ⟨s,0,none⟩) 4 4] w fun e w'=>e=.returned (.bool false)∧Ext w w':=by
 have hlt:=lt_of hs
 have l1:s < w.heap.size+1:=by omega
 have l2:s < w.heap.size+1+1:=by omega
 have l3:s < w.heap.size+1+1+1:=by omega
 have k0:=cell_of hs 0
 have k1:=cell_of hs 1
 have k2:=cell_of hs 2
 have k3:=cell_of hs 3
 have k4:=cell_of hs 4
 have k5:=cell_of hs 5
 have k6:=cell_of hs 6
 have k7:=cell_of hs 7
 simp at k0 k1 k2 k3 k4 k5 k6 k7
 clear hs
 go_enter Tryz.func148,Tryz.ntmps148
 go_wp2
 refine wp_loop_rounds 3 ?_
 iterate 3 (rw [rounds_succ]; go_wp2)
 go_ret
 exact ⟨rfl,by (repeat' (first | exact Ext.refl _ | assumption | apply Ext.allocR | apply Ext.drewR | apply Ext.drewNR | (refine Ext.trans' ?_ (by assumption))))⟩
set_option maxRecDepth 100000 in
set_option maxHeartbeats 2000000 in
theorem within_no31 (a b c d:Int) (s:Nat) (w:World)
 (f0:decide (a < 1)=false) (g0:decide (59 < a)=false) (f1:decide (b < 1)=false) (g1:decide (8 < b)=false) (f2:decide (c < 1)=false) (g2:decide (128 < c)=false) (f3:decide (d < 1)=true)
 (hs:w.heap[s]?=some (.cells #[.int .i64 a,.int .i64 59,.int .i64 b,.int .i64 8,.int .i64 c,.int .i64 128,.int .i64 d,.int .i64 3] 266 (0,0))) :
 Calls Tryz.prog 148 #[.slice (some ⟨s,0,none⟩) 4 4] w fun e w'=>e=.returned (.bool false)∧Ext w w':=by
 have hlt:=lt_of hs
 have l1:s < w.heap.size+1:=by omega
 have l2:s < w.heap.size+1+1:=by omega
 have l3:s < w.heap.size+1+1+1:=by omega
 have k0:=cell_of hs 0
 have k1:=cell_of hs 1
 have k2:=cell_of hs 2
 have k3:=cell_of hs 3
 have k4:=cell_of hs 4
 have k5:=cell_of hs 5
 have k6:=cell_of hs 6
 have k7:=cell_of hs 7
 simp at k0 k1 k2 k3 k4 k5 k6 k7
 clear hs
 go_enter Tryz.func148,Tryz.ntmps148
 go_wp2
 refine wp_loop_rounds 4 ?_
 iterate 4 (rw [rounds_succ]; go_wp2)
 go_ret
 exact ⟨rfl,by (repeat' (first | exact Ext.refl _ | assumption | apply Ext.allocR | apply Ext.drewR | apply Ext.drewNR | (refine Ext.trans' ?_ (by assumption))))⟩
set_option maxRecDepth 100000 in
set_option maxHeartbeats 2000000 in
theorem within_no32 (a b c d:Int) (s:Nat) (w:World)
 (f0:decide (a < 1)=false) (g0:decide (59 < a)=false) (f1:decide (b < 1)=false) (g1:decide (8 < b)=false) (f2:decide (c < 1)=false) (g2:decide (128 < c)=false) (f3:decide (d < 1)=false) (g3:decide (3 < d)=true)
 (hs:w.heap[s]?=some (.cells #[.int .i64 a,.int .i64 59,.int .i64 b,.int .i64 8,.int .i64 c,.int .i64 128,.int .i64 d,.int .i64 3] 266 (0,0))) :
 Calls Tryz.prog 148 #[.slice (some ⟨s,0,none⟩) 4 4] w fun e w'=>e=.returned (.bool false)∧Ext w w':=by
 have hlt:=lt_of hs
 have l1:s < w.heap.size+1:=by omega
 have l2:s < w.heap.size+1+1:=by omega
 have l3:s < w.heap.size+1+1+1:=by omega
 have k0:=cell_of hs 0
 have k1:=cell_of hs 1
 have k2:=cell_of hs 2
 have k3:=cell_of hs 3
 have k4:=cell_of hs 4
 have k5:=cell_of hs 5
 have k6:=cell_of hs 6
 have k7:=cell_of hs 7
 simp at k0 k1 k2 k3 k4 k5 k6 k7
 clear hs
 go_enter Tryz.func148,Tryz.ntmps148
 go_wp2
 refine wp_loop_rounds 4 ?_
 iterate 4 (rw [rounds_succ]; go_wp2)
 go_ret
 exact ⟨rfl,by (repeat' (first | exact Ext.refl _ | assumption | apply Ext.allocR | apply Ext.drewR | apply Ext.drewNR | (refine Ext.trans' ?_ (by assumption))))⟩
def okB (c:Cfg):Bool:=decide (1≤c.bits∧c.bits≤59∧1≤c.rows∧c.rows≤8∧1≤c.width∧c.width≤128∧1≤c.mode∧c.mode≤3)
theorem okB_ok {c:Cfg} (h:okB c=true) (hs:U64 c.seed):c.Ok:=by
 have:=of_decide_eq_true h
 exact ⟨this.1,this.2.1,this.2.2.1,this.2.2.2.1,this.2.2.2.2.1,this.2.2.2.2.2.1,this.2.2.2.2.2.2.1,this.2.2.2.2.2.2.2,hs⟩
theorem within_bad (c:Cfg) (h:okB c=false) (s:Nat) (w:World)
 (hs:w.heap[s]?=some (.cells #[.int .i64 c.bits,.int .i64 59,.int .i64 c.rows,.int .i64 8,.int .i64 c.width,.int .i64 128,.int .i64 c.mode,.int .i64 3] 266 (0,0))) :
 Calls Tryz.prog 148 #[.slice (some ⟨s,0,none⟩) 4 4] w fun e w'=>e=.returned (.bool false)∧Ext w w':=by
 have h':=of_decide_eq_false h
 by_cases a1:c.bits < 1
 · exact within_no01 _ _ _ _ s w (decide_eq_true a1) hs
 by_cases a2:59 < c.bits
 · exact within_no02 _ _ _ _ s w (decide_eq_false a1) (decide_eq_true a2) hs
 by_cases b1:c.rows < 1
 · exact within_no11 _ _ _ _ s w (decide_eq_false a1) (decide_eq_false a2) (decide_eq_true b1) hs
 by_cases b2:8 < c.rows
 · exact within_no12 _ _ _ _ s w (decide_eq_false a1) (decide_eq_false a2) (decide_eq_false b1) (decide_eq_true b2) hs
 by_cases c1:c.width < 1
 · exact within_no21 _ _ _ _ s w (decide_eq_false a1) (decide_eq_false a2) (decide_eq_false b1) (decide_eq_false b2) (decide_eq_true c1) hs
 by_cases c2:128 < c.width
 · exact within_no22 _ _ _ _ s w (decide_eq_false a1) (decide_eq_false a2) (decide_eq_false b1) (decide_eq_false b2) (decide_eq_false c1) (decide_eq_true c2) hs
 by_cases d1:c.mode < 1
 · exact within_no31 _ _ _ _ s w (decide_eq_false a1) (decide_eq_false a2) (decide_eq_false b1) (decide_eq_false b2) (decide_eq_false c1) (decide_eq_false c2) (decide_eq_true d1) hs
 by_cases d2:3 < c.mode
 · exact within_no32 _ _ _ _ s w (decide_eq_false a1) (decide_eq_false a2) (decide_eq_false b1) (decide_eq_false b2) (decide_eq_false c1) (decide_eq_false c2) (decide_eq_false d1) (decide_eq_true d2) hs
 exact absurd ⟨by omega,by omega,by omega,by omega,by omega,by omega,by omega,by omega⟩ h'
set_option maxHeartbeats 1000000 in
theorem Right_no (c:Cfg) (h:okB c=false) (w:World) :
 Calls Tryz.prog 100 #[.agg #[.int .i64 c.bits,.int .i64 c.rows,.int .i64 c.width,.int .i64 c.mode,.int .u64 c.seed]] w fun e w'=>e=.returned (.bool false)∧Ext w w':=by
 go_enter Tryz.func100,Tryz.ntmps100
 go_wp2_with (go_at_call 148; refine (within_bad c h _ _ ?hs).mono ?_)
 · skip
   exact heap_at _ _ (by simp only [size_alloc])
 rintro e w1 ⟨rfl,hb⟩
 go_wp2
 go_ret
 refine ⟨rfl, ?_⟩
 (repeat' (first | exact Ext.refl _ | assumption | apply Ext.allocR | apply Ext.drewR | apply Ext.drewNR | (refine Ext.trans' ?_ (by assumption))))
set_option maxRecDepth 20000 in
set_option maxHeartbeats 1000000 in
theorem KNew_no (C:Cfg) (h:okB C=false) (w:World) :
 Calls Tryz.prog 55 #[.agg #[.int .i64 C.bits,.int .i64 C.rows,.int .i64 C.width,.int .i64 C.mode,.int .u64 C.seed]] w fun e w'=>e=.returned (.tuple #[.pointer none,.int .i64 1])∧Ext w w':=by
 go_enter Tryz.func55,Tryz.ntmps55
 go_wp2_with fail
 refine (Right_no C h _).mono ?_
 rintro e w1 ⟨rfl,hb⟩
 go_wp2
 go_ret2
 refine ⟨rfl, ?_⟩
 (repeat' (first | exact Ext.refl _ | assumption | apply Ext.allocR | apply Ext.drewR | apply Ext.drewNR | (refine Ext.trans' ?_ (by assumption))))
end Go.Proofs.YtmalncfcgcebhaaGreatDoor
namespace Go.Proofs.YtmalncfcgcebhaaGreatDoor
set_option linter.unusedVariables false
open Go.RowKit
theorem zs_bnd (n:Nat):Bnd 0 (zs n):=by
 intro x hx
 simp only [zs,List.mem_replicate] at hx
 omega
theorem lvE_ok {C:Cfg} {lv:Int} {l:List Int} {key d B T:Int} (h:Bnd B l) (hB:0≤B) (hT:0≤T) (hd:-T≤d∧d≤T) (hs:B+T≤4611686018427387904) (hk:key < keys C lv) (hm:C.mode=2→0≤d):lvE C lv l key d=0:=by
 cases hx:isX C lv with
 | false=>rw [lvE_s hx]; exact upd_ok h hB hT hd hs hk hm
 | true =>
   rw [lvE_x hx,errX_sum hk (fun hh=>by have:=hm hh.1; omega)]
   have h2:=h.getD hB key.toNat
   rw [fitB_yes (by unfold I64; omega)]
   rfl
theorem lvU_bnd {C:Cfg} {lv:Int} {l:List Int} {key d B T:Int} (h:Bnd B l) (hB:0≤B) (hT:0≤T) (hd:-T≤d∧d≤T):Bnd (B+T) (lvU C lv l key d):=by
 cases hx:isX C lv with
 | false=>rw [lvU_s hx]; exact upd_bnd h hB hT hd
 | true =>
   rw [lvU_x hx]
   intro x hx
   unfold updX at hx
   rcases List.mem_or_eq_of_mem_set hx with h1 | rfl
   · have:=h x h1; omega
   · have h2:=h.getD hB key.toNat; omega
theorem updK_bnd {C:Cfg} {ls:Nat→List Int} {key d B' T:Int} {n:Nat} (h:Bnd B' (ls n)) (hB:0≤B') (hT:0≤T) (hd:-T≤d∧d≤T):Bnd (B'+T) (updK C ls key d n):=lvU_bnd h hB hT hd
theorem errK_ok {C:Cfg} (hok:C.Ok) {B:Nat} (hBb:C.bits=B) {ls:Nat→List Int} {key d B' T:Int} (h:∀ n,n≤B→Bnd B' (ls n)) (hB:0≤B') (hT:0≤T) (hd:-T≤d∧d≤T) (hs:B'+T≤4611686018427387904) (hk0:0≤key) (hk:key < keys C 0) (hm:C.mode=2→0≤d):errK C B ls key d=0 :=
 errK_zero.2 ⟨hk,fun n hn=>lvE_ok (h n hn) hB hT hd hs (sh_lt hok (by omega) hk0 hk) hm⟩
end Go.Proofs.YtmalncfcgcebhaaGreatDoor
namespace Go.Proofs.YtmalncfcgcebhaaGreatDoor
set_option linter.unusedVariables false
open Go.RowKit
structure Bk where
 s:Nat
 g:Nat
 L:Nat→Lev
 ls:Nat→List Int
def Bk.At (k:Bk) (w:World) (C:Cfg) (B:Nat):Prop:=KAt w k.s k.g C B k.L k.ls
structure WAt (w:World) (N p b:Nat) (C:Cfg) (B n:Nat) (sm:Bk) (bk:Nat→Bk):Prop where
 st:∃ cap,w.heap[p]?=some (.cells #[.pointer (some ⟨sm.s,0,none⟩),.slice (some ⟨b,0,none⟩) n cap] 240 (0,0))∧cap=n
 row:∃ cur,w.heap[b]?=some (.cells cur 40 (0,0))∧∀ i,i < n→cur[i]?=some (.pointer (some ⟨(bk i).s,0,none⟩))
 sum:sm.At w C B
 bks:∀ i,i < n→(bk i).At w C B
 sepS:∀ i,i < n→∀ m,m≤B→¬ cellsOf B (bk i).L (sm.L m).c
 sepB:∀ i j,i < n→j < n→i≠j→∀ m,m≤B→¬ cellsOf B (bk i).L ((bk j).L m).c
 n1:1≤n
 n2:n≤16
 md:C.mode=1
 loP:N≤p
 loB:N≤b
 loC:∀ i,i < n→∀ m,m≤B→N≤((bk i).L m).c
section
variable {w w':World} {N p b:Nat} {C:Cfg} {B n:Nat} {sm:Bk} {bk:Nat→Bk}
theorem WAt.ext (h:WAt w N p b C B n sm bk) (he:Ext w w'):WAt w' N p b C B n sm bk:=by
 refine ⟨?_, ?_,KAt.ext h.sum he,fun i hi=>KAt.ext (h.bks i hi) he,h.sepS,h.sepB,h.n1,h.n2,h.md,h.loP,h.loB,h.loC⟩
 · obtain ⟨cap,h1,h2⟩:=h.st; exact ⟨cap,he.keep h1,h2⟩
 · obtain ⟨cur,h1,h2⟩:=h.row; exact ⟨cur,he.keep h1,h2⟩
end
set_option maxRecDepth 20000 in
set_option maxHeartbeats 4000000 in
theorem WSum_c {N p b:Nat} {C:Cfg} {B n:Nat} {sm:Bk} {bk:Nat→Bk} {w:World} (h:WAt w N p b C B n sm bk) :
 Calls Tryz.prog 123 #[.pointer (some ⟨p,0,none⟩)] w (KCopyPost w C B sm.ls):=by
 obtain ⟨cap,hst,hcap⟩:=h.st
 have p0:=(cell_of hst 0).trans rfl
 have pl:=lt_of hst
 have HC:=Lib.hid (KCopy_c sm.s sm.g C B sm.L sm.ls w h.sum)
 clear hst h
 go_enter Tryz.func123,Tryz.ntmps123
 go_wp2_with fail
 refine Calls.mono HC.out ?_
 rintro e w1 ⟨s,g,L,rfl,h1,h2,h3,h4,h5⟩
 go_wp2
 go_ret
 exact ⟨s,g,L,rfl,h1,h2,h3,h4,h5⟩
end Go.Proofs.YtmalncfcgcebhaaGreatDoor
namespace Go.Proofs.YtmalncfcgcebhaaGreatDoor
set_option linter.unusedVariables false
open Go.Proofs Go.RowKit
inductive Th where
 | st (k:Bk) (C:Cfg) (B:Nat)
 | wi (p b:Nat) (C:Cfg) (B n:Nat) (sm:Bk) (bk:Nat→Bk)
inductive AT where
 | st (C:Cfg) (B:Nat) (ls:Nat→List Int)
 | wi (C:Cfg) (B n:Nat) (sm:Nat→List Int) (bk:Nat→Nat→List Int)
def Th.v:Th→Value
 | .st k C B=>.agg #[.pointer (some ⟨k.s,0,none⟩),.pointer none]
 | .wi p b C B n sm bk=>.agg #[.pointer none,.pointer (some ⟨p,0,none⟩)]
def Th.At (w:World):Th→Prop
 | .st k C B=>k.At w C B
 | .wi p b C B n sm bk=>WAt w 0 p b C B n sm bk
def Th.cs:Th→Nat→Prop
 | .st k C B=>cellsOf B k.L
 | .wi p b C B n sm bk=>fun i=>i=p∨i=b∨cellsOf B sm.L i∨∃ j,j < n∧cellsOf B (bk j).L i
def Th.ab:Th→AT
 | .st k C B=>.st C B k.ls
 | .wi p b C B n sm bk=>.wi C B n sm.ls (fun i=>(bk i).ls)
def Wr (w:World) (k:Nat):Prop:=(∃ cur t f,w.heap[k]?=some (.cells cur t f)∧(t=2∨t=240∨t=40∨t=144∨t=9∨t=75))∨∃ o,w.heap[k]?=some o∧o.isCells=false
theorem Wr.ne {w:World} {k j:Nat} (h:Wr w k) {cur:Array Value} {t:TypeId} {f:Nat × Nat} (hj:w.heap[j]?=some (.cells cur t f)) (h1:t≠2) (h2:t≠240) (h3:t≠40) (h4:t≠144) (h5:t≠9) (h6:t≠75):k≠j:=by
 rintro rfl
 rcases h with ⟨cur',t',f',hk,ht⟩ | ⟨o,hk,ho⟩
 · rw [hk] at hj
   injection hj with hj
   injection hj with _ hj
   subst hj
   rcases ht with h | h | h | h | h | h
   · exact h1 h
   · exact h2 h
   · exact h3 h
   · exact h4 h
   · exact h5 h
   · exact h6 h
 · rw [hk] at hj; cases hj; cases ho
theorem LvAt.keepS {S:Nat→Prop} {w w':World} {L:Lev} {C:Cfg} {lv:Int} {l:List Int} (h:LvAt w L C lv l) (hM:Mod S w w') (hS:∀ k,S k→k < w.heap.size→Wr w k) (hc:¬ S L.c):LvAt w' L C lv l:=by
 refine h.keep (hM.block _ h.lts fun hs=>?_) (hM.block _ h.ltb fun hs=>?_) (hM.block _ h.ltc hc)
 · have hw:=hS _ hs h.lts
   rcases h with ⟨_,h⟩ | ⟨_,h⟩ <;> exact hw.ne h.ex (by decide) (by decide) (by decide) (by decide) (by decide) (by decide) rfl
 · have hw:=hS _ hs h.ltb
   rcases h with ⟨_,h⟩ | ⟨_,h⟩ <;> (obtain ⟨cap,h1,_⟩:=h.g.ex; exact hw.ne h1 (by decide) (by decide) (by decide) (by decide) (by decide) (by decide) rfl)
theorem KAt.keepS {S:Nat→Prop} {w w':World} {s g:Nat} {C:Cfg} {B:Nat} {L:Nat→Lev} {ls:Nat→List Int} (h:KAt w s g C B L ls) (hM:Mod S w w') (hS:∀ k,S k→k < w.heap.size→Wr w k) (hc:∀ k,cellsOf B L k→¬ S k):KAt w' s g C B L ls:=by
 refine ⟨?_, ?_,fun n hn=>(h.lev n hn).keepS hM hS (hc _ ⟨n,hn,rfl⟩),h.sep,h.ok,h.hB⟩
 · obtain ⟨cap,h1,h2⟩:=h.ex
   exact ⟨cap,hM.keep h1 (fun hs=>(hS _ hs h.lts).ne h1 (by decide) (by decide) (by decide) (by decide) (by decide) (by decide) rfl),h2⟩
 · obtain ⟨cur,h1,h2⟩:=h.row
   exact ⟨cur,hM.keep h1 (fun hs=>(hS _ hs h.ltg).ne h1 (by decide) (by decide) (by decide) (by decide) (by decide) (by decide) rfl),h2⟩
theorem WAt.keepS {S:Nat→Prop} {w w':World} {N p b:Nat} {C:Cfg} {B n:Nat} {sm:Bk} {bk:Nat→Bk} (h:WAt w N p b C B n sm bk) (hM:Mod S w w') (hS:∀ k,S k→k < w.heap.size→Wr w k) (hc:∀ k,Th.cs (.wi p b C B n sm bk) k→¬ S k):WAt w' N p b C B n sm bk:=by
 refine ⟨?_, ?_, ?_,fun i hi=>?_,h.sepS,h.sepB,h.n1,h.n2,h.md,h.loP,h.loB,h.loC⟩
 · obtain ⟨cap,h1,h2⟩:=h.st
   exact ⟨cap,hM.keep h1 (hc p (.inl rfl)),h2⟩
 · obtain ⟨cur,h1,h2⟩:=h.row
   exact ⟨cur,hM.keep h1 (hc b (.inr (.inl rfl))),h2⟩
 · exact KAt.keepS h.sum hM hS (fun k hk=>hc k (.inr (.inr (.inl hk))))
 · exact KAt.keepS (h.bks i hi) hM hS (fun k hk=>hc k (.inr (.inr (.inr ⟨i,hi,hk⟩))))
theorem Th.At.keepS {S:Nat→Prop} {w w':World} {T:Th} (h:T.At w) (hM:Mod S w w') (hS:∀ k,S k→k < w.heap.size→Wr w k) (hc:∀ k,T.cs k→¬ S k):T.At w':=by
 cases T with
 | st k C B=>exact KAt.keepS h hM hS hc
 | wi p b C B n sm bk=>exact WAt.keepS h hM hS hc
theorem Th.At.ext {w w':World} {T:Th} (h:T.At w) (hx:Ext w w'):T.At w':=by
 cases T with
 | st k C B=>exact KAt.ext h hx
 | wi p b C B n sm bk=>exact WAt.ext h hx
theorem Th.At.wr {w:World} {T:Th} (h:T.At w) {k:Nat} (hk:T.cs k):Wr w k:=by
 have key:∀ {s g:Nat} {C:Cfg} {B:Nat} {L:Nat→Lev} {ls:Nat→List Int},KAt w s g C B L ls→cellsOf B L k→Wr w k:=fun h hk=>by
  obtain ⟨cur,h1⟩:=h.isc hk
  exact .inl ⟨cur,_,_,h1,.inl rfl⟩
 cases T with
 | st k C B=>exact key h hk
 | wi p b C B n sm bk =>
   rcases hk with rfl | rfl | hk | ⟨j,hj,hk⟩
   · obtain ⟨cap,h1,_⟩:=h.st; exact .inl ⟨_,_,_,h1,.inr (.inl rfl)⟩
   · obtain ⟨cur,h1,_⟩:=h.row; exact .inl ⟨_,_,_,h1,.inr (.inr (.inl rfl))⟩
   · exact key h.sum hk
   · exact key (h.bks j hj) hk
theorem Wr.lt {w:World} {k:Nat} (h:Wr w k):k < w.heap.size:=by
 rcases h with ⟨_,_,_,h,_⟩ | ⟨_,h,_⟩ <;> exact lt_of h
theorem Th.At.lt {w:World} {T:Th} (h:T.At w) {k:Nat} (hk:T.cs k):k < w.heap.size:=(h.wr hk).lt
structure AgAt (w:World) (N p m:Nat) (l:List (Nat × Th)) (last:Nat):Prop where
 hp:w.heap[p]?=some (.cells #[.map (some m),.int .i64 (last:Int)] 144 (0,0))
 hm:∃ n,w.ownsMap Tryz.prog 3 Rh m n (hD (l.map fun x=>(x.1,x.2.v)))∧n≤last
 th:∀ x∈l,x.2.At w
 sep:l.Pairwise fun a b=>∀ k,a.2.cs k→¬ b.2.cs k
 up:l.Pairwise fun a b=>a.1 < b.1
 le:∀ x∈l,x.1≤last
 len:l.length≤32
 lo:N≤p∧N≤m∧∀ x∈l,∀ k,x.2.cs k→N≤k
def AgF (p m:Nat) (l:List (Nat × Th)) (k:Nat):Prop:=k=p∨k=m∨∃ x∈l,x.2.cs k
section
variable {w w':World} {N p m:Nat} {l:List (Nat × Th)} {last:Nat}
theorem AgAt.ism (h:AgAt w N p m l last):∃ es c,w.heap[m]?=some (.map es c):=by
 obtain ⟨n,⟨es,c,h1,_⟩,_⟩:=h.hm
 exact ⟨es,c,h1⟩
theorem AgAt.wr (h:AgAt w N p m l last) {k:Nat} (hk:AgF p m l k):Wr w k:=by
 rcases hk with rfl | rfl | ⟨x,hx,hk⟩
 · exact .inl ⟨_,_,_,h.hp,.inr (.inr (.inr (.inl rfl)))⟩
 · obtain ⟨es,c,h1⟩:=h.ism; exact .inr ⟨_,h1,rfl⟩
 · exact (h.th x hx).wr hk
theorem AgAt.flt (h:AgAt w N p m l last) {k:Nat} (hk:AgF p m l k):k < w.heap.size:=(h.wr hk).lt
theorem AgAt.flo (h:AgAt w N p m l last) {k:Nat} (hk:AgF p m l k):N≤k:=by
 rcases hk with rfl | rfl | ⟨x,hx,hk⟩
 · exact h.lo.1
 · exact h.lo.2.1
 · exact h.lo.2.2 x hx k hk
theorem owns_keep {P:Program} {kt:TypeId} {R:Value→Option (DataW Value × List MemPlace)} {b n:Nat} {D:DataW Value} (h:w.ownsMap P kt R b n D) (hb:w'.heap[b]?=w.heap[b]?):w'.ownsMap P kt R b n D:=by
 obtain ⟨es,c,h1,h2⟩:=h
 exact ⟨es,c,hb.trans h1,h2⟩
theorem AgAt.keepS {S:Nat→Prop} (h:AgAt w N p m l last) (hM:Mod S w w') (hS:∀ k,S k→k < w.heap.size→Wr w k) (hc:∀ k,AgF p m l k→¬ S k):AgAt w' N p m l last:=by
 refine ⟨hM.keep h.hp (hc p (.inl rfl)), ?_,fun x hx=>(h.th x hx).keepS hM hS (fun k hk=>hc k (.inr (.inr ⟨x,hx,hk⟩))),h.sep,h.up,h.le,h.len,h.lo⟩
 obtain ⟨n,h1,h2⟩:=h.hm
 exact ⟨n,owns_keep h1 (hM.block _ h1.lt (hc m (.inr (.inl rfl)))),h2⟩
theorem AgAt.ext (h:AgAt w N p m l last) (hx:Ext w w'):AgAt w' N p m l last :=
 h.keepS (hx.mod fun _=>False) (fun _ hf=>hf.elim) (fun _ _ hf=>hf)
theorem AgAt.ltp (h:AgAt w N p m l last):p < w.heap.size:=lt_of h.hp
theorem AgAt.below (h:AgAt w N p m l last) (hM:Mod (AgF p m l) w w'):Below N w w' :=
 hM.below (Nat.le_trans h.lo.1 (Nat.le_of_lt h.ltp)) (fun k hk=>h.flo hk)
end
structure St where
 l:List (Nat × AT)
 last:Nat
def stOf (l:List (Nat × Th)) (last:Nat):St:=⟨l.map fun x=>(x.1,x.2.ab),last⟩
def fnd (l:List (Nat × Th)) (k:Int):Option (Nat × Th):=l.find? fun x=>decide ((x.1:Int)=k)
theorem fnd_map (l:List (Nat × Th)) (k:Int):(l.map fun x=>(x.1,x.2.v)).find? (keyB k)=(fnd l k).map fun x=>(x.1,x.2.v):=by
 unfold fnd
 rw [List.find?_map]
 rfl
theorem fnd_ab (l:List (Nat × Th)) (k:Int):(l.map fun x=>(x.1,x.2.ab)).find? (fun x=>decide ((x.1:Int)=k))=(fnd l k).map fun x=>(x.1,x.2.ab):=by
 unfold fnd
 rw [List.find?_map]
 rfl
theorem fnd_mem {l:List (Nat × Th)} {k:Int} {x:Nat × Th} (h:fnd l k=some x):x∈l∧(x.1:Int)=k :=
 ⟨List.mem_of_find?_eq_some h,by simpa using List.find?_some h⟩
def zT:Value:=.agg #[.pointer none,.pointer none]
theorem zT_run (w:World):(zeroValue 152).run Tryz.prog w=.ok zT w:=Tryz.zeroValue152 w
section
variable {w w':World} {N p m:Nat} {l:List (Nat × Th)} {last:Nat}
theorem AgAt.look (h:AgAt w N p m l last) {k:Int} (hk:I64 k) {x:Nat × Th} (hx:fnd l k=some x) :
 (Instr.lookup 142 (.map (some m)) (.int .i64 k) true).run Tryz.prog w=.ok (.tuple #[x.2.v,.bool true]) w∧(Instr.lookup 142 (.map (some m)) (.int .i64 k) false).run Tryz.prog w=.ok x.2.v w:=by
 obtain ⟨n,h1,_⟩:=h.hm
 exact look_yes h1 Tryz.underlying3 Tryz.underlying142 (zT_run w) hk (x:=(x.1,x.2.v)) (by rw [fnd_map,hx]; rfl)
theorem AgAt.lookno (h:AgAt w N p m l last) {k:Int} (hk:I64 k) (hx:fnd l k=none) :
 (Instr.lookup 142 (.map (some m)) (.int .i64 k) true).run Tryz.prog w=.ok (.tuple #[zT,.bool false]) w:=by
 obtain ⟨n,h1,_⟩:=h.hm
 exact look_no h1 Tryz.underlying3 Tryz.underlying142 (zT_run w) hk (by rw [fnd_map,hx]; rfl)
end
end Go.Proofs.YtmalncfcgcebhaaGreatDoor
namespace Go.Proofs.YtmalncfcgcebhaaGreatDoor
set_option linter.unusedVariables false
open Go.Proofs Go.RowKit
theorem Th.At.csT {w:World} {T:Th} (h:T.At w) {k:Nat} (hk:T.cs k):∃ cur t f,w.heap[k]?=some (.cells cur t f)∧t≠144:=by
 have key:∀ {s g:Nat} {C:Cfg} {B:Nat} {L:Nat→Lev} {ls:Nat→List Int},KAt w s g C B L ls→cellsOf B L k→∃ cur t f,w.heap[k]?=some (.cells cur t f)∧t≠144:=fun h hk=>by
  obtain ⟨cur,h1⟩:=h.isc hk
  exact ⟨cur,_,_,h1,by decide⟩
 cases T with
 | st kk C B=>exact key h hk
 | wi p b C B n sm bk =>
   rcases hk with rfl | rfl | hk | ⟨j,hj,hk⟩
   · obtain ⟨cap,h1,_⟩:=h.st; exact ⟨_,_,_,h1,by decide⟩
   · obtain ⟨cur,h1,_⟩:=h.row; exact ⟨_,_,_,h1,by decide⟩
   · exact key h.sum hk
   · exact key (h.bks j hj) hk
theorem vs_app (l:List (Nat × Th)) (k:Nat) (T:Th):(l++[(k,T)]).map (fun x=>(x.1,x.2.v))=l.map (fun x=>(x.1,x.2.v))++[(k,T.v)]:=by simp
section
variable {w w':World} {N p m:Nat} {l:List (Nat × Th)} {last:Nat}
theorem AgAt.apart (h:AgAt w N p m l last) {T:Th} (hT:T.At w) {k:Nat} (hk:T.cs k):k≠p∧k≠m:=by
 obtain ⟨cur,t,f,h1,h2⟩:=hT.csT hk
 obtain ⟨es,c,hm⟩:=h.ism
 refine ⟨?_, ?_⟩
 · rintro rfl
   exact blk_ne h1 h.hp h2 rfl
 · rintro rfl
   rw [h1] at hm; cases hm
theorem AgAt.pm (h:AgAt w N p m l last):p≠m:=by
 rintro rfl
 obtain ⟨es,c,hm⟩:=h.ism
 have:=h.hp
 rw [hm] at this; cases this
theorem AgAt.more {T:Th} (h:AgAt w N p m l last) (hT:T.At w) (hf:∀ k,T.cs k→¬ AgF p m l k) (hN:∀ k,T.cs k→N≤k) (hlen:l.length < 32) {n:Nat}
 (hp:w'.heap[p]?=some (.cells #[.map (some m),.int .i64 ((last+1:Nat):Int)] 144 (0,0)))
 (hm:w'.ownsMap Tryz.prog 3 Rh m n ((hD (l.map fun x=>(x.1,x.2.v))).put (.int .i64 ((last+1:Nat):Int)) (.held T.v))) (hn:n≤last+1) (hM:Mod (fun k=>k=p∨k=m) w w') :
 AgAt w' N p m (l++[(last+1,T)]) (last+1):=by
 have hS:∀ k,(k=p∨k=m)→k < w.heap.size→Wr w k:=by
  rintro k hk _
  rcases hk with rfl | rfl
  · exact h.wr (.inl rfl)
  · exact h.wr (.inr (.inl rfl))
 rw [hD_put _ _ _ (by
  intro x hx
  obtain ⟨y,hy,rfl⟩:=List.mem_map.1 hx
  have:=h.le y hy
  show y.1 < last+1
  omega),← vs_app] at hm
 refine ⟨hp,⟨n,hm,hn⟩, ?_, ?_, ?_, ?_, ?_,h.lo.1,h.lo.2.1, ?_⟩
 · intro x hx
   rcases List.mem_append.1 hx with hx | hx
   · exact (h.th x hx).keepS hM hS (fun k hk hkk=>by have:=h.apart (h.th x hx) hk; omega)
   · simp only [List.mem_singleton] at hx
     subst hx
     exact Th.At.keepS hT hM hS (fun k hk hkk=>by have:=h.apart hT hk; omega)
 · rw [List.pairwise_append]
   refine ⟨h.sep,List.pairwise_singleton _ _,fun a ha b hb k h1 h2=>?_⟩
   simp only [List.mem_singleton] at hb
   subst hb
   exact hf k h2 (.inr (.inr ⟨a,ha,h1⟩))
 · rw [List.pairwise_append]
   refine ⟨h.up,List.pairwise_singleton _ _,fun a ha b hb=>?_⟩
   simp only [List.mem_singleton] at hb
   subst hb
   have:=h.le a ha
   show a.1 < last+1
   omega
 · intro x hx
   rcases List.mem_append.1 hx with hx | hx
   · have:=h.le x hx; omega
   · simp only [List.mem_singleton] at hx
     subst hx
     exact Nat.le_refl _
 · simp; omega
 · intro x hx k hk
   rcases List.mem_append.1 hx with hx | hx
   · exact h.lo.2.2 x hx k hk
   · simp only [List.mem_singleton] at hx
     subst hx
     exact hN k hk
def dropL {α:Type} (l:List (Nat × α)) (k:Int):List (Nat × α):=l.filter fun x=>!decide ((x.1:Int)=k)
theorem vs_drop (l:List (Nat × Th)) (k:Int):(dropL l k).map (fun x=>(x.1,x.2.v))=(l.map fun x=>(x.1,x.2.v)).filter fun x=>!keyB k x:=by
 unfold dropL
 rw [List.filter_map]
 rfl
theorem ab_drop (l:List (Nat × Th)) (k:Int):(dropL l k).map (fun x=>(x.1,x.2.ab))=dropL (l.map fun x=>(x.1,x.2.ab)) k:=by
 unfold dropL
 rw [List.filter_map]
 rfl
theorem AgAt.less {k:Int} (h:AgAt w N p m l last) {n:Nat} (hm:w'.ownsMap Tryz.prog 3 Rh m n ((hD (l.map fun x=>(x.1,x.2.v))).del (.int .i64 k))) (hn:n≤last) (hM:Mod (fun k=>k=m) w w'):AgAt w' N p m (dropL l k) last:=by
 rw [hD_del,← vs_drop] at hm
 have hsub:∀ x∈dropL l k,x∈l:=fun x hx=>(List.mem_filter.1 hx).1
 have hS:∀ k,k=m→k < w.heap.size→Wr w k:=by
  rintro k rfl _; exact h.wr (.inr (.inl rfl))
 exact ⟨hM.keep h.hp h.pm,⟨n,hm,hn⟩,fun x hx=>(h.th x (hsub x hx)).keepS hM hS (fun k hk=>(h.apart (h.th x (hsub x hx)) hk).2),h.sep.sublist List.filter_sublist,h.up.sublist List.filter_sublist,fun x hx=>h.le x (hsub x hx),Nat.le_trans (List.length_filter_le _ _) h.len,h.lo.1,h.lo.2.1,fun x hx=>h.lo.2.2 x (hsub x hx)⟩
theorem agF_drop {k:Int} {i:Nat} (h:AgF p m (dropL l k) i):AgF p m l i:=by
 rcases h with h | h | ⟨x,hx,h⟩
 · exact .inl h
 · exact .inr (.inl h)
 · exact .inr (.inr ⟨x,(List.mem_filter.1 hx).1,h⟩)
def setL {α:Type} (l:List (Nat × α)) (h:Nat) (x:α):List (Nat × α):=l.map fun y=>if y.1=h then (h,x) else y
theorem setL_at {α:Type} {a b:List (Nat × α)} {h:Nat} {y x:α} (hu:(a++(h,y) :: b).Pairwise fun u v=>u.1 < v.1):setL (a++(h,y) :: b) h x=a++(h,x) :: b:=by
 rw [List.pairwise_append,List.pairwise_cons] at hu
 obtain ⟨_,⟨h2,_⟩,h3⟩:=hu
 unfold setL
 rw [List.map_append,List.map_cons,if_pos rfl]
 congr 1
 · conv=>rhs; rw [← List.map_id a]
   apply List.map_congr_left
   intro z hz
   have:=h3 z hz (h,y) (by simp)
   rw [if_neg (by show z.1≠h; have:z.1 < h:=this; omega)]
   rfl
 · congr 1
   conv=>rhs; rw [← List.map_id b]
   apply List.map_congr_left
   intro z hz
   have:=h2 z hz
   rw [if_neg (by show z.1≠h; have:h < z.1:=this; omega)]
   rfl
theorem setL_ab (l:List (Nat × Th)) (h:Nat) (T:Th):(setL l h T).map (fun x=>(x.1,x.2.ab))=setL (l.map fun x=>(x.1,x.2.ab)) h T.ab:=by
 unfold setL
 rw [List.map_map,List.map_map]
 apply List.map_congr_left
 intro x _
 show (fun x:Nat × Th=>(x.1,x.2.ab)) (if x.1=h then (h,T) else x)=(if x.1=h then (h,T.ab) else (x.1,x.2.ab))
 by_cases e:x.1=h
 · rw [if_pos e,if_pos e]
 · rw [if_neg e,if_neg e]
theorem fnd_split {l:List (Nat × Th)} {k:Int} {x:Nat × Th} (h:fnd l k=some x):∃ a b,l=a++x :: b:=by
 obtain ⟨h1,_⟩:=fnd_mem h
 obtain ⟨a,b,rfl⟩:=List.append_of_mem h1
 exact ⟨a,b,rfl⟩
theorem AgAt.chg {h0:Nat} {T0 T:Th} {a b:List (Nat × Th)} (h:AgAt w N p m (a++(h0,T0) :: b) last) (hv:T.v=T0.v) (hT:T.At w') (hM:Mod T0.cs w w') (hf:∀ k,T.cs k→T0.cs k∨w.heap.size≤k):AgAt w' N p m (a++(h0,T) :: b) last:=by
 have hT0:=h.th (h0,T0) (by simp)
 have hS:∀ k,T0.cs k→k < w.heap.size→Wr w k:=fun k hk _=>hT0.wr hk
 have hsep:=h.sep
 rw [List.pairwise_append,List.pairwise_cons] at hsep
 obtain ⟨s1,⟨s2,s3⟩,s4⟩:=hsep
 have hold:∀ x,x∈a∨x∈b→x.2.At w∧∀ k,x.2.cs k→¬ T0.cs k:=by
  rintro x (hx | hx)
  · exact ⟨h.th x (by simp [hx]),fun k hk hk0=>s4 x hx (h0,T0) (by simp) k hk hk0⟩
  · exact ⟨h.th x (by simp [hx]),fun k hk hk0=>s2 x hx k hk0 hk⟩
 have hnew:∀ x,x∈a∨x∈b→∀ k,x.2.cs k→¬ T.cs k:=fun x hx k hk hk2=>by
  rcases hf k hk2 with h5 | h5
  · exact (hold x hx).2 k hk h5
  · have:=(hold x hx).1.lt hk; omega
 have hup:=h.up
 rw [List.pairwise_append,List.pairwise_cons] at hup
 obtain ⟨u1,⟨u2,u3⟩,u4⟩:=hup
 obtain ⟨n,hm,hn⟩:=h.hm
 have evs:(a++(h0,T) :: b).map (fun x=>(x.1,x.2.v))=(a++(h0,T0) :: b).map fun x=>(x.1,x.2.v):=by simp [hv]
 refine ⟨hM.keep h.hp (fun e=>(h.apart hT0 e).1 rfl),⟨n, ?_,hn⟩, ?_, ?_, ?_, ?_,by have:=h.len; simpa using this,h.lo.1,h.lo.2.1, ?_⟩
 · rw [evs]
   exact owns_keep hm (hM.block _ hm.lt (fun e=>(h.apart hT0 e).2 rfl))
 · intro x hx
   rcases List.mem_append.1 hx with hx | hx
   · exact (hold x (.inl hx)).1.keepS hM hS (hold x (.inl hx)).2
   · rcases List.mem_cons.1 hx with rfl | hx
     · exact hT
     · exact (hold x (.inr hx)).1.keepS hM hS (hold x (.inr hx)).2
 · rw [List.pairwise_append,List.pairwise_cons]
   refine ⟨s1,⟨fun x hx k hk hk2=>hnew x (.inr hx) k hk2 hk,s3⟩,fun x hx y hy=>?_⟩
   rcases List.mem_cons.1 hy with rfl | hy
   · exact hnew x (.inl hx)
   · exact s4 x hx y (by simp [hy])
 · rw [List.pairwise_append,List.pairwise_cons]
   refine ⟨u1,⟨u2,u3⟩,fun x hx y hy=>?_⟩
   rcases List.mem_cons.1 hy with rfl | hy
   · exact u4 x hx (h0,T0) (by simp)
   · exact u4 x hx y (by simp [hy])
 · intro x hx
   rcases List.mem_append.1 hx with hx | hx
   · exact h.le x (by simp [hx])
   · rcases List.mem_cons.1 hx with rfl | hx
     · exact h.le (h0,T0) (by simp)
     · exact h.le x (by simp [hx])
 · intro x hx k hk
   rcases List.mem_append.1 hx with hx | hx
   · exact h.lo.2.2 x (by simp [hx]) k hk
   · rcases List.mem_cons.1 hx with rfl | hx
     · rcases hf k hk with h5 | h5
       · exact h.lo.2.2 (h0,T0) (by simp) k h5
       · have:=h.ltp; have:=h.lo.1; omega
     · exact h.lo.2.2 x (by simp [hx]) k hk
end
end Go.Proofs.YtmalncfcgcebhaaGreatDoor
