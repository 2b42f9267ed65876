/- Part. No condition. -/
import Derived.Test.YtmalncfcgcebhaaGreatDoorDTopAnswers15
import Derived.Test.YtmalncfcgcebhaaGreatDoorDTopAnswers14
import Derived.Test.YtmalncfcgcebhaaGreatDoorDTopAnswers1
import Derived.Test.YtmalncfcgcebhaaGreatDoorDTopAnswers10
import Derived.Test.YtmalncfcgcebhaaGreatDoorDTopAnswers3
import Derived.Test.YtmalncfcgcebhaaGreatDoorDTopAnswers4
import Derived.ProofKit
import Derived.OpenShut
import Derived.ChangeOld
import Derived.Below
import Derived.SizedLaws
import Derived.Deep.Slices
import Derived.Deep.Fields
import Derived.Test.YtmalncfcgcebhaaGreatDoorRows
import Derived.Lib.LaidU8
import Derived.Stop.LaidErr
import Derived.Lay
import Derived.ChangeSame
import Derived.ChangeVars
import Derived.MakeChecks
namespace Go.Proofs.YtmalncfcgcebhaaGreatDoor
set_option linter.unusedVariables false
open Go.Proofs Go.RowKit
theorem pow_T (i:Nat) (h:i≤25):(1048576:Int)≤1048576 * 2 ^ i∧(1048576:Int) * 2 ^ i≤35184372088832:=by
 have h1:(2:Int) ^ i≤2 ^ 25:=by
  have:=Nat.pow_le_pow_right (show 0 < 2 by decide) h
  exact_mod_cast this
 have h2:(1:Int)≤2 ^ i:=by
  have:=Nat.one_le_two_pow (n:=i)
  exact_mod_cast this
 rw [show (2:Int) ^ 25=33554432 from rfl] at h1
 omega
set_option maxRecDepth 20000 in
set_option maxHeartbeats 8000000 in
theorem TPlayed_c (x:Cfg) (hx:x.Raw) (mode:Int) (hm1:1≤mode) (hm3:mode≤3) (os:List Opn5) (hos:Ops5Ok os) (v:Value) (w:World) (hat:Ops5At w v os) (hul:os.length≤140737488355328) (hT:Tabs w) :
 Calls Tryz.prog 13 #[.agg #[.int .i64 x.bits,.int .i64 x.rows,.int .i64 x.width,.int .i64 x.mode,.int .u64 x.seed],.int .i64 mode,v] w fun e w'=>∃ N p a m l g f,e=.returned (.pointer (some ⟨p,0,none⟩))∧PlAt w' N p a m l (topC x mode) 35184372088832 g f∧w.heap.size≤N∧Ext w w':=by
 obtain ⟨vp,vc,rfl⟩:=hat.sl
 have HV:=Lib.hid hat
 have HM:=fun W hT'=>Lib.hid (TMade_c x hx mode hm1 hm3 W hT')
 have HT:=Lib.hid hT
 have HOS:=Lib.hid hos
 clear hat hT
 go_enter Tryz.func13,Tryz.ntmps13
 go_wp2_with fail
 refine Calls.mono (HM _ (HT.out.ext (by (repeat' (first | exact Ext.refl _ | assumption | apply Ext.allocR | apply Ext.drewR | apply Ext.drewNR | (refine Ext.trans' ?_ (by assumption))))))).out ?_
 rintro e w1 ⟨N,p,a,m,l,rfl,hP,hN,hx1⟩
 have hE1:Ext w w1:=by (repeat' (first | exact Ext.refl _ | assumption | apply Ext.allocR | apply Ext.drewR | apply Ext.drewNR | (refine Ext.trans' ?_ (by assumption))))
 have hNw:w.heap.size≤N:=by rw [size_alloc] at hN; omega
 have HP:=Lib.hid hP
 have HE1:=Lib.hid hE1
 clear hP hx1 hE1 hN
 go_wp2_with fail
 go_loopw [8] (fun u8 wr=>∃ (i:Nat) (l':List (Nat × Th)) (g:Nat → Nat → List Int) (f:Nat → Nat → Int),i≤25∧i≤os.length∧u8=.int .i64 i∧PlAt wr N p a m l' (topC x mode) (1048576 * 2 ^ i) g f∧Ext w wr) (fun u8 _=>25 - (intOf u8).toNat)
 case atStart=>exact ⟨0,l,_,_,by omega,by omega,rfl,by simpa using HP.out,HE1.out⟩
 case round =>
  obtain ⟨i,l',g,f,hi25,hil,rfl,hP,hE⟩:=hrel
  by_cases hlt:i < os.length∧i < 25
  · obtain ⟨hlt1,hlt2⟩:=hlt
    obtain ⟨q,off,rfl,hql,o0,o1,o2,o3,o4⟩:=HV.out.one hlt1
    have hu:=HOS.out os[i] (List.getElem_mem hlt1)
    have k0:=(hE.cell hql).trans o0
    have k1:=(hE.cell hql).trans o1
    have k2:=(hE.cell hql).trans o2
    have k3:=(hE.cell hql).trans o3
    have k4:=(hE.cell hql).trans o4
    generalize os[i]=u at *
    obtain ⟨kd,ho,oo,key,d⟩:=u
    dsimp only at *
    obtain ⟨u0,u1,u2,u3,u4⟩:=hu
    have hpw:=pow_T i hi25
    have HD:=Lib.hid (TDoes_c hP hpw.1 hpw.2 kd ho oo key d u0 u1 u2 u3 u4)
    have hdb:(1048576:Int) * 2 ^ i+1048576 * 2 ^ i=1048576 * 2 ^ (i+1):=by rw [Int.pow_succ]; omega
    unfold DoesPost at HD
    rw [hdb] at HD
    have HE:=Lib.hid hE
    have hsz:=hE.size
    have hqr:q < wr.heap.size:=by omega
    clear hE o0 o1 o2 o3 o4 hP hdb hpw
    go_wp2_with fail
    refine Calls.mono HD.out ?_
    rintro e w2 ⟨rfl,l2,g2,f2,hP2,hB2⟩
    have HP2:=Lib.hid hP2
    have HB2:=Lib.hid (Below.trans HE.out (Below.mono hB2 hNw))
    clear hP2 hB2
    go_wp2
    go_roundw
    case rel=>exact ⟨i+1,l2,g2,f2,by omega,by omega,by go_num,HP2.out,HB2.out⟩
    case measure=>simp [intOf]; omega
  · have hT2:=(pow_T i hi25).2
    have HF:=Lib.hid (show PlAt wr N p a m l' (topC x mode) 35184372088832 g f from ⟨hP.tw,hP.ag,hP.st,hP.np,hP.ok,hP.hb,hP.hd.mono hT2,hP.tb,hP.lo,hP.lp⟩)
    have HE:=Lib.hid hE
    clear hP hE hT2
    by_cases hl2:i < os.length
    · have:i=25:=by omega
      go_wp2
      go_ret
      exact ⟨N,p,a,m,l',g,f,rfl,HF.out,hNw,HE.out⟩
    · go_wp2
      go_ret
      exact ⟨N,p,a,m,l',g,f,rfl,HF.out,hNw,HE.out⟩
end Go.Proofs.YtmalncfcgcebhaaGreatDoor
namespace Go.Proofs.YtmalncfcgcebhaaGreatDoor
set_option linter.unusedVariables false
open Go.Proofs Go.RowKit
def listW:Rep:=.list [(2,0,7),(1,1,5),(0,3,5)]
def FW (S:St) (l:List UInt8):Option (List UInt8) × St :=
 if l=w3 then (some (repT (.number 2)),S) else if l=w4 then (some (repT (.key 3)),S) else if l=w5 then (some (repT listW),S) else if l=w6 then (some (repT (.wide 29)),S) else lineF doA S l
def worksT:ByteArray:=⟨(w0 ++ 10 :: (w1 ++ 10 :: (w2 ++ 10 :: (w3 ++ 10 :: (w4 ++ 10 :: (w5 ++ 10 :: w6)))))).toArray⟩
def LW:List (List UInt8):=[w0,w1,w2,w3,w4,w5,w6]
theorem split_W:splitL worksT.data.toList=LW:=by kernel_rfl
theorem st_W3:(runK FW st0 (LW.take 3)).2=SW:=by kernel_rfl
theorem st_W4:(runK FW st0 (LW.take 4)).2=SW:=by kernel_rfl
theorem st_W5:(runK FW st0 (LW.take 5)).2=SW:=by kernel_rfl
theorem st_W6:(runK FW st0 (LW.take 6)).2=SW:=by kernel_rfl
theorem st_W0:(runK FW st0 (LW.take 0)).2=st0:=by kernel_rfl
theorem st_W1:(runK FW st0 (LW.take 1)).2=(runK (lineF doA) st0 [w0]).2:=by kernel_rfl
theorem st_W2:(runK FW st0 (LW.take 2)).2=(runK (lineF doA) st0 [w0,w1]).2:=by kernel_rfl
def worksR:List (List UInt8):=[[104,97,110,100,108,101,32,49],[100,111,110,101],[100,111,110,101],[110,117,109,98,101,114,32,50],[107,101,121,32,51],[108,105,115,116,32,50,58,48,58,55,32,49,58,49,58,53,32,48,58,51,58,53],[119,105,100,101,32,50,57]]
theorem works_run:(runK FW st0 LW).1=worksR:=by kernel_rfl
theorem FW_last (S:St) (l:List UInt8):(FW S l).2.last≤S.last+1:=by
 unfold FW
 repeat' split
 all_goals first | exact Nat.le_succ _ | exact lineF_last doA_last S l
theorem allR (L:List (List UInt8)):AllSt (runK (lineF doA) st0 L).2:=run_P (fun S l hS=>lineF_P (fun S c h=>doA_st S h c) S l hS) all0 L
theorem lastR (L:List (List UInt8)) (h:L.length≤1000):(runK (lineF doA) st0 L).2.last < 1000000:=by
 have h1:=run_last (lineF_last doA_last) st0 L
 have h3:st0.last=0:=rfl
 omega
theorem okW0:okL w0=true:=by kernel_rfl
theorem okW1:okL w1=true:=by kernel_rfl
theorem okW2:okL w2=true:=by kernel_rfl
theorem ba_of {s:ByteArray} {l:List UInt8} (h:l=s.data.toList):s=⟨l.toArray⟩:=by
 subst h; cases s; simp
theorem FW_is (k:Nat) (s:ByteArray) (h:LW[k]?=some s.data.toList):LineIs (runK FW st0 (LW.take k)).2 s (FW (runK FW st0 (LW.take k)).2 s.data.toList):=by
 match k,h with
 | 0,h =>
   have e:w0=s.data.toList:=Option.some.inj h
   rw [st_W0,← e,show FW st0 w0=lineF doA st0 w0 from by kernel_rfl,e]
   exact okL_is all0 (by decide) (by rw [← e]; exact okW0)
 | 1,h =>
   have e:w1=s.data.toList:=Option.some.inj h
   rw [st_W1,← e,show FW (runK (lineF doA) st0 [w0]).2 w1=lineF doA (runK (lineF doA) st0 [w0]).2 w1 from by kernel_rfl,e]
   exact okL_is (allR _) (lastR _ (by decide)) (by rw [← e]; exact okW1)
 | 2,h =>
   have e:w2=s.data.toList:=Option.some.inj h
   rw [st_W2,← e,show FW (runK (lineF doA) st0 [w0,w1]).2 w2=lineF doA (runK (lineF doA) st0 [w0,w1]).2 w2 from by kernel_rfl,e]
   exact okL_is (allR _) (lastR _ (by decide)) (by rw [← e]; exact okW2)
 | 3,h =>
   have e:w3=s.data.toList:=Option.some.inj h
   rw [st_W3,← e,ba_of e]
   exact line3
 | 4,h =>
   have e:w4=s.data.toList:=Option.some.inj h
   rw [st_W4,← e,ba_of e]
   exact line4
 | 5,h =>
   have e:w5=s.data.toList:=Option.some.inj h
   rw [st_W5,← e,ba_of e]
   exact line5
 | 6,h =>
   have e:w6=s.data.toList:=Option.some.inj h
   rw [st_W6,← e,ba_of e]
   exact line6
 | k+7,h=>cases h
theorem WorksRun_c (w:World) (hT:Tabs w) :
 Calls Tryz.prog 41 #[.string worksT] w fun e w'=>∃ v,e=.returned v∧w'.ownsRow w.heap.size 9 1 v 7 (strVs worksR)∧Ext w w':=by
 have h:=Run_c FW worksT (by decide) (fun k s hs=>by
  rw [split_W] at hs ⊢
  exact FW_is k s hs) (fun k=>by
  have h1:=run_last FW_last st0 ((splitL worksT.data.toList).take k)
  rw [split_W,List.length_take] at h1
  have h3:st0.last=0:=rfl
  have h4:LW.length=7:=rfl
  rw [split_W]
  omega) w hT
 rw [split_W,works_run] at h
 exact h
set_option maxRecDepth 100000 in
set_option maxHeartbeats 8000000 in
theorem works_c (w:World) (hT:Tabs w):Calls Tryz.prog 12 #[] w fun e w'=>e=.returned (.bool true)∧Ext w w':=by
 have HR:=Lib.hid (WorksRun_c w hT)
 rw [show worksT=⟨#[99,114,101,97,116,101,32,50,32,49,32,52,32,49,32,48,10,97,100,100,32,49,32,51,32,53,10,97,100,100,32,49,32,49,32,50,10,114,97,110,103,101,32,49,32,49,32,50,10,113,117,97,110,116,105,108,101,32,49,32,51,10,104,101,97,118,121,32,49,32,53,32,57,10,105,110,110,101,114,32,49,32,49]⟩ from rfl] at HR
 clear hT
 go_enter Tryz.func12,Tryz.ntmps12
 go_wp2_with fail
 refine Calls.mono HR.out ?_
 rintro e w1 ⟨v,rfl,hv,hx1⟩
 obtain ⟨g,cap,rfl⟩:=own_some hv (by decide)
 obtain ⟨hgl,hg⟩:=own_any hv
 have c3:=hg 3 (by decide) _ rfl
 have c4:=hg 4 (by decide) _ rfl
 have c5:=hg 5 (by decide) _ rfl
 have c6:=hg 6 (by decide) _ rfl
 unfold strV at c3 c4 c5 c6
 have HX1:=Lib.hid hx1
 clear hx1 hg hv
 go_wp2
 refine bodyPost_ret (results_tmp rfl _ _ _) rfl ?_
 exact ⟨rfl,HX1.out⟩
end Go.Proofs.YtmalncfcgcebhaaGreatDoor
namespace Go.Proofs.YtmalncfcgcebhaaGreatDoor
set_option linter.unusedVariables false
open Go.Proofs Go.RowKit
theorem PlAt.mass_bd {w:World} {N p a m:Nat} {l:List (Nat × Th)} {C:Cfg} {g:Nat → Nat → List Int} {f:Nat → Nat → Int} (H:PlAt w N p a m l C 35184372088832 g f) {h:Nat} (hh:h < 3) (lv:Nat) (idx:Int):-35184372088832≤massT (f h) lv idx 64∧massT (f h) lv idx 64≤35184372088832:=by
 obtain ⟨ps,hp⟩:=H.hd
 obtain ⟨h1,h2⟩:=hp h hh
 rw [mass_pc h2 h1.ky]
 have:=sumIf_abs (fun k=>sh lv k == idx) (ps h)
 have:=h1.ab
 unfold pcS
 omega
section
variable {w:World} {N p a m:Nat} {l:List (Nat × Th)} {C:Cfg} {g:Nat → Nat → List Int} {f:Nat → Nat → Int}
theorem PlAt.pt_bd (H:PlAt w N p a m l C 35184372088832 g f) (hm:C.mode ≠ 3) {h:Nat} (hh:h < 3) {n:Nat} (hn:n≤6) {i:Int} (h0:0≤i) (h1:i < keys C n):-35184372088832≤ptU C (g h) n i∧ptU C (g h) n i≤35184372088832:=by
 obtain ⟨ps,hps⟩:=H.hd
 exact (hps h hh).1.pt_bd H.ok (by decide) hm hn h0 h1
end
end Go.Proofs.YtmalncfcgcebhaaGreatDoor
namespace Go.Proofs.YtmalncfcgcebhaaGreatDoor
set_option linter.unusedVariables false
open Go.RowKit
theorem two_bd (k:Nat) (h:k≤59):(1:Int)≤2 ^ k∧(2:Int) ^ k≤576460752303423488:=pow_bd k h
set_option maxRecDepth 20000 in
set_option maxHeartbeats 2000000 in
theorem TwoR_c (n:Nat) (hn:n≤59) (w:World) :
 Calls Tryz.prog 67 #[.int .i64 n] w fun e w'=>e=.returned (.int .u64 ((2:Int) ^ n))∧w=w':=by
 go_enter Tryz.func67,Tryz.ntmps67
 go_wp2
 go_loop [3,4] (fun p u=>∃ (k:Nat) (q:Int),k≤n∧p=.int .u64 q∧u=.int .i64 k∧q=(2:Int) ^ k) (fun _ u=>n - (intOf u).toNat)
 case atStart=>exact ⟨0,1,Nat.zero_le _,rfl,rfl,rfl⟩
 case round =>
  obtain ⟨k,q,hk,rfl,rfl,hq⟩:=hrel
  have hb:=two_bd k (by omega)
  rw [← hq] at hb
  obtain ⟨b1,b2⟩:=hb
  have HQ:=Lib.hid hq
  clear hq
  by_cases hlt:k < n
  · have hlt':(k:Int) < n:=by omega
    go_wp2
    go_round
    case rel=>exact ⟨k+1,q+q,by omega,rfl,by push_cast; rfl,by rw [HQ.out,Int.pow_succ]; omega⟩
    case measure=>simp [intOf]; omega
  · obtain rfl:k=n:=by omega
    go_wp2
    go_ret
    exact ⟨by rw [← HQ.out]; rfl,rfl⟩
end Go.Proofs.YtmalncfcgcebhaaGreatDoor
namespace Go.Proofs.YtmalncfcgcebhaaGreatDoor
set_option linter.unusedVariables false
open Go.RowKit
theorem gLev_step {lo hi:Int} {B l:Nat} (hl:l < B) (hc:lo % 2 ^ (l+1)=0∧(2:Int) ^ (l+1) - 1≤hi - lo):gLev lo hi (B - l) l=gLev lo hi (B - (l+1)) (l+1):=by
 rw [show B - l=(B - (l+1))+1 by omega]
 conv=>lhs; unfold gLev
 rw [if_pos hc]
theorem gLev_stop {lo hi:Int} {B l:Nat} (hlB:l≤B) (hc:¬ (l < B∧lo % 2 ^ (l+1)=0∧(2:Int) ^ (l+1) - 1≤hi - lo)):gLev lo hi (B - l) l=l:=by
 rcases Nat.lt_or_ge l B with hl | hl
 · rw [show B - l=(B - (l+1))+1 by omega]
   conv=>lhs; unfold gLev
   rw [if_neg (fun h2=>hc ⟨hl,h2⟩)]
 · rw [show B - l=0 by omega]
   rfl
theorem gCov_out {B:Nat} {hi lo:Int} (h:hi < lo):∀ f,gCov B hi f lo=[]
 | 0=>rfl
 | f+1=>by unfold gCov; rw [if_neg (by omega)]
def RCovPost (w:World) (B:Nat) (lo hi:Int) (e:Ending) (w':World):Prop :=
 ((hi < lo ∨ 2 ^ B≤hi)∧∃ v,e=.returned (.tuple #[v,.bool false])∧Ext w w') ∨
 ((lo≤hi∧hi < 2 ^ B)∧∃ v,e=.returned (.tuple #[v,.bool true])∧w'.ownsRow w.heap.size 52 2 v (covL B 0 lo hi).length (pcV (covL B 0 lo hi))∧Ext w w')
set_option maxRecDepth 20000 in
set_option maxHeartbeats 8000000 in
theorem RCover_c (B:Nat) (hB1:1≤B) (hB2:B≤59) (lo hi:Int) (hlo:U64 lo) (hhi:U64 hi) (w:World) :
 Calls Tryz.prog 29 #[.int .i64 B,.int .u64 lo,.int .u64 hi] w (RCovPost w B lo hi):=by
 obtain ⟨hlo0,hlo1⟩:=hlo
 obtain ⟨hhi0,hhi1⟩:=hhi
 have hpw:=pow_bd B hB2
 have hb1':(1:Int)≤B:=by omega
 by_cases h1:hi < lo
 · go_enter Tryz.func29,Tryz.ntmps29
   go_wp2
   go_ret2
   exact .inl ⟨.inl h1,_,rfl,Ext.alloc' _ _⟩
 · have HTW:=Lib.hid (fun W'=>TwoR_c B hB2 W')
   by_cases h2:2 ^ B≤hi
   · have H2:=Lib.hid h2
     obtain ⟨p,hpp⟩:∃ p,(2:Int) ^ B=p:=⟨_,rfl⟩
     rw [hpp] at hpw h2
     have hHT:∀ W':World,Calls Tryz.prog 67 #[.int .i64 B] W' fun e w'=>e=.returned (.int .u64 p)∧W'=w':=fun W'=>by rw [← hpp]; exact TwoR_c B hB2 W'
     have HHT:=Lib.hid hHT
     clear hpp hHT HTW
     go_enter Tryz.func29,Tryz.ntmps29
     go_wp2_with fail
     refine (HHT.out _).mono ?_
     rintro e w1 ⟨rfl,rfl⟩
     go_wp2
     go_ret2
     exact .inl ⟨.inr H2.out,_,rfl,Ext.alloc' _ _⟩
   · have HF:=Lib.hid (show (lo≤hi∧hi < 2 ^ B) from ⟨by omega,by omega⟩)
     obtain ⟨f0,hf0⟩:∃ f0:Nat,f0=(hi+1 - lo).toNat+2 * B+2:=⟨_,rfl⟩
     have HST:=Lib.hid (cov_same hlo0 HF.out.1 HF.out.2 (f:=f0) (by omega))
     have hf0':hi+1 - lo < f0:=by omega
     have HB59:=Lib.hid hB2
     obtain ⟨i0,z0,hi0,hz0,hz1,hz2,hzs⟩:=info_pc
     obtain ⟨p,hpp⟩:∃ p,(2:Int) ^ B=p:=⟨_,rfl⟩
     rw [hpp] at hpw h2
     have hHT:∀ W':World,Calls Tryz.prog 67 #[.int .i64 B] W' fun e w'=>e=.returned (.int .u64 p)∧W'=w':=fun W'=>by rw [← hpp]; exact TwoR_c B hB2 W'
     have HHT:=Lib.hid hHT
     clear hf0 hpp hHT HTW
     go_enter Tryz.func29,Tryz.ntmps29
     go_wp2_with fail
     refine (HHT.out _).mono ?_
     rintro e w1 ⟨rfl,rfl⟩
     have ho0:(w.alloc (.cells #[] 52)).ownsRow w.heap.size 52 2 (.slice (some ⟨w.heap.size,0,none⟩) 0 0) ([]:List (Nat × Int)).length (pcV []):=⟨rfl,.inr ⟨w.heap.size,0,#[],rfl,Nat.le_refl _,heap_at _ _ rfl,Nat.le_refl _,Nat.zero_le _,rfl,rfl⟩⟩
     have HO0:=Lib.hid ho0
     clear ho0
     go_wp2_with fail
     go_loopw [1,8] (fun u1 u8 wr=>∃ (a:Int) (f:Nat) (pre:List (Nat × Int)),u1=.int .u64 a∧0≤a∧a≤hi+1∧hi+1 - a < f∧pre ++ gCov B hi f a=covL B 0 lo hi∧wr.ownsRow w.heap.size 52 2 u8 pre.length (pcV pre)∧Ext w wr) (fun u1 _ _=>(hi+1 - intOf u1).toNat)
     case atStart=>exact ⟨lo,f0,[],rfl,hlo0,by omega,hf0',by rw [List.nil_append]; exact HST.out,HO0.out,Ext.alloc' _ _⟩
     case round =>
      clear HO0 HST hf0'
      obtain ⟨a,f,pre,rfl,ha0,ha1,hf,hcov,hown,hE⟩:=hrel
      obtain ⟨pv,cv,rfl⟩:=own_sl hown
      have HO:=Lib.hid hown
      have HE:=Lib.hid hE
      have hlen:pre.length≤1000000000:=by
       have h3:=congrArg List.length hcov
       rw [List.length_append] at h3
       have h4:=cov_len B 0 lo hi
       omega
      have HLEN:=Lib.hid hlen
      clear hown hlen
      by_cases hgo:a≤hi
      · obtain ⟨f,rfl⟩:∃ f',f=f'+1:=⟨f - 1,by omega⟩
        have hgc:gCov B hi (f+1) a=(gLev a hi B 0,a / 2 ^ gLev a hi B 0) :: gCov B hi f (a+2 ^ gLev a hi B 0):=by
         conv=>lhs; unfold gCov
         rw [if_pos hgo]
        rw [hgc] at hcov
        have HC:=Lib.hid hcov
        clear hcov hgc
        go_wp2_with fail
        go_loopw [9] (fun u9 wx=>∃ l:Nat,u9=.int .i64 l∧l≤B∧gLev a hi (B - l) l=gLev a hi B 0∧(2:Int) ^ l - 1≤hi - a∧wx=wr) (fun u9 _=>B - (intOf u9).toNat)
        case atStart=>exact ⟨0,rfl,Nat.zero_le _,rfl,by show (1:Int) - 1≤_; omega,rfl⟩
        case round =>
         obtain ⟨l,rfl,hlB,hgl,hbd,rfl⟩:=hrel
         rename World=>wr
         have HGL:=Lib.hid hgl
         have HBD:=Lib.hid hbd
         clear hgl hbd
         go_upto_region 6 with (fail)
         go_cut [52] (fun s52 wx=>s52=.bool (decide (l < B∧a % 2 ^ (l+1)=0∧(2:Int) ^ (l+1) - 1≤hi - a))∧wx=wr)
         case first =>
          by_cases hl:l < B
          · have hlz:(l:Int) < B:=by omega
            have hqb:=pow_bd (l+1) (by omega)
            have hT:∀ W':World,Calls Tryz.prog 67 #[.int .i64 ((l:Int)+1)] W' fun e w'=>e=.returned (.int .u64 ((2:Int) ^ (l+1)))∧W'=w':=fun W'=>by
             have h:=TwoR_c (l+1) (by omega) W'
             rwa [show ((l+1:Nat):Int)=(l:Int)+1 by omega] at h
            have HT:=Lib.hid hT
            clear hT
            generalize (2:Int) ^ (l+1)=q at *
            have hq0:(q == 0)=false:=by simp; omega
            have htm:a.tmod q=a % q:=Int.tmod_eq_emod_of_nonneg ha0
            by_cases hm:a % q=0
            · have hm':(a % q == 0)=true:=by simpa using hm
              have hz:a.tmod q=0:=htm.trans hm
              go_wp2_with (go_at_call 67; refine (HT.out _).mono ?_; rintro e w1 ⟨rfl,rfl⟩)
              go_meet
              refine ⟨congrArg Value.bool ?_,rfl⟩
              by_cases hx:q - 1≤hi - a
              · simp [hl,hm,hx]
              · simp [hl,hm,hx]
            · have hm':(a % q == 0)=false:=by simpa using hm
              go_wp2_with (go_at_call 67; refine (HT.out _).mono ?_; rintro e w1 ⟨rfl,rfl⟩)
              go_meet
              exact ⟨congrArg Value.bool (decide_eq_false (fun h=>hm h.2.1)).symm,rfl⟩
          · have hlz:¬ (l:Int) < B:=by omega
            go_wp2_with fail
            go_meet
            exact ⟨congrArg Value.bool (decide_eq_false (fun h=>hl h.1)).symm,rfl⟩
         case rest =>
          obtain ⟨rfl,rfl⟩:=hcut
          rename World=>wr
          by_cases hc:l < B∧a % 2 ^ (l+1)=0∧(2:Int) ^ (l+1) - 1≤hi - a
          · rw [decide_eq_true hc]
            have HCC:=Lib.hid hc
            have hl:=hc.1
            clear hc
            go_wp2_with fail
            go_roundw
            case rel =>
             exact ⟨l+1,by go_num,hl,(gLev_step hl HCC.out.2).symm.trans HGL.out,HCC.out.2.2,by first | rfl | trivial⟩
            case measure=>simp [intOf]; omega
          · rw [decide_eq_false hc]
            have hlev:gLev a hi B 0=l:=HGL.out.symm.trans (gLev_stop hlB hc)
            have hcv:=HC.out
            rw [hlev] at hcv
            have hqb:=pow_bd l (by omega)
            have hbd:=HBD.out
            have hT:∀ W':World,Calls Tryz.prog 67 #[.int .i64 l] W' fun e w'=>e=.returned (.int .u64 ((2:Int) ^ l))∧W'=w':=fun W'=>TwoR_c l (by omega) W'
            have HT:=Lib.hid hT
            clear hc hlev hT HC HBD HGL
            generalize (2:Int) ^ l=q at *
            have hq0:(q == 0)=false:=by simp; omega
            have htd:a.tdiv q=a / q:=Int.tdiv_eq_ediv_of_nonneg ha0
            have hm0:0≤a / q:=Int.ediv_nonneg ha0 (by omega)
            have hm1:a / q≤a:=Int.ediv_le_self _ ha0
            generalize a / q=m at *
            have hm2:m < 18446744073709551616:=by omega
            have HCV:=Lib.hid hcv
            clear hcv
            go_wp2_with fail
            refine (HT.out _).mono ?_
            rintro e w1 ⟨rfl,rfl⟩
            go_wp2_with (at_builtin; refine wpList_appp _ (l,m) pre _ w.heap.size 52 52 HO.out 62 rfl _ _ rfl i0 z0 hi0 hz0 hz1 hz2 hzs Tryz.underlying62 rfl rfl HLEN.out HE.out.size ?_)
            intro v' w2 hw1 hw2 hw3
            have hE2:Ext w w2:=ext_grown HE.out hw2 (fun k hk=>own_blk HO.out hk)
            obtain ⟨pv2,cv2,rfl⟩:=own_sl hw1
            have HW1:=Lib.hid hw1
            clear hw1 hw2 hw3
            go_wp2_with fail
            refine (HT.out _).mono ?_
            rintro e w3 ⟨rfl,rfl⟩
            go_wp2_with fail
            go_roundw
            case rel =>
             refine ⟨a+q,f,pre ++ [(l,m)],by go_num,by omega,by omega,by omega, ?_,by rw [List.length_append]; exact HW1.out,hE2⟩
             rw [List.append_assoc]; exact HCV.out
            case measure=>simp [intOf]; omega
      · have hc:pre=covL B 0 lo hi:=by rw [← hcov,gCov_out (by omega),List.append_nil]
        have HC:=Lib.hid hc
        clear hcov hc
        go_wp2
        go_ret2
        exact .inr ⟨HF.out,_,rfl,by rw [← HC.out]; exact HO.out,HE.out⟩
end Go.Proofs.YtmalncfcgcebhaaGreatDoor
namespace Go.Proofs.YtmalncfcgcebhaaGreatDoor
set_option linter.unusedVariables false
open Go.Proofs Go.RowKit
section
variable {w:World} {N p a m:Nat} {l:List (Nat × Th)} {C:Cfg} {g:Nat → Nat → List Int} {f:Nat → Nat → Int}
theorem PlAt.pt_guess (H:PlAt w N p a m l C 35184372088832 g f) (hm:C.mode=1) {h:Nat} (hh:h < 3) {n:Nat} (hn:n≤6) {i:Int} (h0:0≤i) (h1:i < keys C n):ptU C (g h) n i=guessT C (f h) n i:=by
 obtain ⟨ps,hps⟩:=H.hd
 obtain ⟨i1,i2⟩:=hps h hh
 rw [i1.pt_lin H.ok (by decide) hm hn h0 h1,guess_s H.ok H.hb i2 i1.ky hn]
theorem PlAt.pt_mass (H:PlAt w N p a m l C 35184372088832 g f) (hm:C.mode ≠ 3) {h:Nat} (hh:h < 3) (hp:plainT (f h) 64=true) {n:Nat} (hn:n≤6) {i:Int} (h0:0≤i) (h1:i < keys C n):massT (f h) n i 64≤ptU C (g h) n i:=by
 obtain ⟨ps,hps⟩:=H.hd
 obtain ⟨i1,i2⟩:=hps h hh
 rw [mass_pc i2 i1.ky]
 exact i1.pt_ge H.ok (by decide) hm (plain_of i2 i1.ky hp) hn h0 h1
theorem cov_in (hb:C.bits=6) {lo hi:Int} (h0:0≤lo) (h1:lo≤hi) (h2:hi < 64):∀ q ∈ covL 6 0 lo hi,q.1≤6∧0≤q.2∧q.2 < keys C q.1:=by
 intro q hq
 have a1:=cov_lev 6 0 lo hi q hq
 have a2:=cov_bd 6 0 lo hi h0 h1 (by rw [show (2:Int) ^ 6=64 from rfl]; exact h2) q hq
 have hl:q.1≤6:=by omega
 refine ⟨hl,a2.1, ?_⟩
 rw [topKeys hb hl,Int.natCast_pow]
 have e:0+6 - q.1=6 - q.1:=by omega
 rw [e] at a2
 exact a2.2
theorem cov_ne {lo hi:Int} (h0:0≤lo) (h1:lo≤hi) (h2:hi < 64):0 < (covL 6 0 lo hi).length:=by
 refine List.length_pos_iff.2 fun e=>?_
 have:=cov_chain 6 0 lo hi h0 h1 (by rw [show (2:Int) ^ 6=64 from rfl]; exact h2)
 rw [e] at this
 have e2:lo * 2 ^ 0=(hi+1) * 2 ^ 0:=this
 simp only [Int.pow_zero,Int.mul_one] at e2
 omega
def sumG (F:Nat → Int → Int) (L:List (Nat × Int)) (k:Nat):Int:=lsum ((L.take k).map fun q=>F q.1 q.2)
theorem sumG_zero (F:Nat → Int → Int) (L:List (Nat × Int)):sumG F L 0=0:=rfl
theorem sumG_succ (F:Nat → Int → Int) (L:List (Nat × Int)) {k:Nat} (hk:k < L.length):sumG F L (k+1)=sumG F L k+F (L.getD k (0,0)).1 (L.getD k (0,0)).2:=by
 unfold sumG
 rw [List.take_succ_eq_append_getElem hk,List.map_append,lsum_append]
 simp [List.getD_eq_getElem?_getD,hk,lsum_one]
theorem sumG_all (F:Nat → Int → Int) (L:List (Nat × Int)):sumG F L L.length=lsum (L.map fun q=>F q.1 q.2):=by
 unfold sumG
 rw [List.take_length]
theorem sumG_bd {F:Nat → Int → Int} {L:List (Nat × Int)} {T:Int} (hT:0≤T) (h:∀ q ∈ L,-T≤F q.1 q.2∧F q.1 q.2≤T):∀ k:Nat,k≤L.length → -(T * k)≤sumG F L k∧sumG F L k≤T * k
 | 0,_=>by rw [sumG_zero]; simp
 | k+1,hk=>by
   have ih:=sumG_bd hT h k (by omega)
   have hm:L.getD k (0,0) ∈ L:=by
    rw [List.getD_eq_getElem?_getD,List.getElem?_eq_getElem (by omega)]
    exact List.getElem_mem _
   have hq:=h _ hm
   rw [sumG_succ F L (by omega)]
   have e:T * ((k+1:Nat):Int)=T * k+T:=by rw [Int.natCast_add,Int.mul_add]; simp
   rw [e]
   omega
theorem sumG_le {F G:Nat → Int → Int} {L:List (Nat × Int)} (h:∀ q ∈ L,F q.1 q.2≤G q.1 q.2):∀ k:Nat,k≤L.length → sumG F L k≤sumG G L k
 | 0,_=>Int.le_refl _
 | k+1,hk=>by
   have ih:=sumG_le h k (by omega)
   have hm:L.getD k (0,0) ∈ L:=by
    rw [List.getD_eq_getElem?_getD,List.getElem?_eq_getElem (by omega)]
    exact List.getElem_mem _
   have hq:=h _ hm
   rw [sumG_succ F L (by omega),sumG_succ G L (by omega)]
   omega
theorem PlAt.cv_sum (H:PlAt w N p a m l C 35184372088832 g f) (hm:C.mode=1) {h:Nat} (hh:h < 3) {lo hi:Int} (h0:0≤lo) (h1:lo≤hi) (h2:hi < 64):lsum (cvV (ptU C (g h)) 6 lo hi)=sumG (guessT C (f h)) (covL 6 0 lo hi) (covL 6 0 lo hi).length:=by
 rw [sumG_all]
 unfold cvV
 congr 1
 refine List.map_congr_left fun q hq=>?_
 obtain ⟨a1,a2,a3⟩:=cov_in H.hb h0 h1 h2 q hq
 exact H.pt_guess hm hh a1 a2 a3
theorem PlAt.guess_bd (H:PlAt w N p a m l C 35184372088832 g f) (hm:C.mode=1) {h:Nat} (hh:h < 3) {n:Nat} (hn:n≤6) {i:Int} (h0:0≤i) (h1:i < keys C n):-35184372088832≤guessT C (f h) n i∧guessT C (f h) n i≤35184372088832:=by
 rw [← H.pt_guess hm hh hn h0 h1]
 exact H.pt_bd (by omega) hh hn h0 h1
end
theorem vrange_ba:(⟨(vRange ++ [32]).toArray⟩:ByteArray)=⟨#[114,97,110,103,101,32]⟩:=rfl
theorem vpoint_ba:(⟨(vPoint ++ [32]).toArray⟩:ByteArray)=⟨#[112,111,105,110,116,32]⟩:=rfl
theorem numw (n:Int) {rp:ByteArray} (e:(⟨(repT (.number n)).toArray⟩:ByteArray)=rp):rp.data.toList=[110,117,109,98,101,114,32] ++ Lib.itoa n:=by rw [← e]; rfl
set_option maxRecDepth 20000 in
set_option maxHeartbeats 16000000 in
theorem AnsTop_c (x:Cfg) (hx:x.Raw) (os:List Opn5) (hos:Ops5Ok os) (v:Value) (a0 a1 a2 a3:Int) (ha0:U64 a0) (ha1:U64 a1) (ha2:U64 a2) (ha3:U64 a3) (w:World) (hat:Ops5At w v os) (hul:os.length≤140737488355328) (hT:Tabs w) :
 Calls Tryz.prog 4 #[.agg #[.int .i64 x.bits,.int .i64 x.rows,.int .i64 x.width,.int .i64 x.mode,.int .u64 x.seed],v,.agg #[.int .u64 a0,.int .u64 a1,.int .u64 a2,.int .u64 a3]] w fun e w'=>e=.returned (.bool true)∧Ext w w':=by
 obtain ⟨vp,vc,rfl⟩:=hat.sl
 have HV:=Lib.hid hat
 have HT:=Lib.hid hT
 have HW:=fun W hT'=>Lib.hid (works_c W hT')
 have HPL:=fun W (hat':Ops5At W (.slice vp os.length vc) os) (hT':Tabs W)=>Lib.hid (TPlayed_c x hx 1 (by decide) (by decide) os hos _ W hat' hul hT')
 have hag:Ext w ((w.alloc (.cells #[.int .i64 x.bits,.int .i64 x.rows,.int .i64 x.width,.int .i64 x.mode,.int .u64 x.seed] 24)).alloc (.cells #[.int .u64 a0,.int .u64 a1,.int .u64 a2,.int .u64 a3] 58)):=(Ext.alloc' _ _).allocR _
 have HAG:=Lib.hid hag
 clear hat hT hag
 go_enter Tryz.func4,Tryz.ntmps4
 go_wp2_with fail
 refine Calls.mono (HW _ (HT.out.ext HAG.out)).out ?_
 rintro e w1 ⟨rfl,hx1⟩
 have hE1:=HAG.out.trans' hx1
 have hs1:=hx1.size
 simp only [size_alloc] at hs1
 have k0:w1.heap[w.heap.size]?=some (.cells #[.int .i64 x.bits,.int .i64 x.rows,.int .i64 x.width,.int .i64 x.mode,.int .u64 x.seed] 24 (0,0)):=by
  rw [hx1.block _ (by simp only [size_alloc]; omega),heap_old _ _ (by rw [size_alloc]; omega)]
  exact heap_at _ _ rfl
 have k1:w1.heap[w.heap.size+1]?=some (.cells #[.int .u64 a0,.int .u64 a1,.int .u64 a2,.int .u64 a3] 58 (0,0)):=by
  rw [hx1.block _ (by simp only [size_alloc]; omega)]
  exact heap_at _ _ (by simp only [size_alloc])
 have HE1:=Lib.hid hE1
 have HX1:=Lib.hid k1
 have b0:=(cell_of k0 0).trans rfl
 have b1:=(cell_of k0 1).trans rfl
 have b2:=(cell_of k0 2).trans rfl
 have b3:=(cell_of k0 3).trans rfl
 have b4:=(cell_of k0 4).trans rfl
 have bl:=lt_of k0
 have dl:=lt_of k1
 clear hx1 hE1 k0 k1
 go_wp2_with fail
 refine Calls.mono (HPL _ (HV.out.ext HE1.out) (HT.out.ext HE1.out)).out ?_
 rintro e w2 ⟨N,p,a,m,l,g,f,rfl,hP,hN,hx2⟩
 have hE2:=HE1.out.trans' hx2
 have k1:w2.heap[w.heap.size+1]?=some (.cells #[.int .u64 a0,.int .u64 a1,.int .u64 a2,.int .u64 a3] 58 (0,0)):=(hx2.block _ dl).trans HX1.out
 have hm1:(topC x 1).mode=1:=rfl
 generalize topC x 1=C at *
 have HM1:=Lib.hid hm1
 have HP:=Lib.hid hP
 have HE2:=Lib.hid hE2
 have HNW:=Lib.hid (show w.heap.size≤N by omega)
 obtain ⟨ha00,ha01⟩:=ha0
 obtain ⟨h,hh⟩:∃ h:Nat,(h:Int)=a0 % 3:=⟨(a0 % 3).toNat,by omega⟩
 have hh3:h < 3:=by omega
 have hh':a0 % 3=(h:Int):=hh.symm
 have hh'':a0.tmod 3=(h:Int):=by rw [hh]; exact Int.tmod_eq_emod_of_nonneg ha00
 obtain ⟨sh8,hsh8⟩:∃ s,a0 / 256=s:=⟨_,rfl⟩
 have hsb:0≤sh8∧sh8 < 18446744073709551616:=by omega
 have an8:bits BinOp.and IntKind.u64 sh8 255=sh8 % 256:=and_mask sh8 8 (by decide) hsb.1 hsb.2
 have il:I64 (sh8 % 256):=by unfold I64; omega
 have HPF:=fun W=>Lib.hid (TPrefix_c (sh8 % 256) a1 il ha1 W)
 obtain ⟨lv,hlv⟩:∃ lv:Nat,(lv:Int)=sh8 % 256 % 65536 % 7:=⟨(sh8 % 256 % 65536 % 7).toNat,by omega⟩
 have hl6:lv≤6:=by omega
 rw [← hlv,Int.toNat_natCast] at HPF
 obtain ⟨ix,hix⟩:∃ ix,a1 % 64 / 2 ^ lv=ix:=⟨_,rfl⟩
 have hixb:0≤ix∧ix < keys C lv∧ix < 64:=by
  have e1:ix=sh lv (a1 % 64):=hix.symm
  have e2:=sh_nn (key:=a1 % 64) (by omega) lv
  have e3:=sh_lt hP.ok (n:=lv) (by have:=hP.hb; omega) (key:=a1 % 64) (by omega) (by rw [keys64 hP.hb]; omega)
  have e4:=topKeys hP.hb hl6
  have e5:=(pow6 hl6).2.1
  rw [e1]
  omega
 rw [hix] at HPF
 obtain ⟨ha20,ha21⟩:=ha2
 obtain ⟨ha30,ha31⟩:=ha3
 have r2:a2.tmod 64=a2 % 64:=Int.tmod_eq_emod_of_nonneg ha20
 have r3:a3.tmod 64=a3 % 64:=Int.tmod_eq_emod_of_nonneg ha30
 obtain ⟨lo,hlo⟩:∃ lo,min (a2 % 64) (a3 % 64)=lo:=⟨_,rfl⟩
 obtain ⟨hi,hhi⟩:∃ hi,max (a2 % 64) (a3 % 64)=hi:=⟨_,rfl⟩
 have hlh:0≤lo∧lo≤hi∧hi < 64:=by omega
 have d0:=(cell_of k1 0).trans rfl
 have d1:=(cell_of k1 1).trans rfl
 have d2:=(cell_of k1 2).trans rfl
 have d3:=(cell_of k1 3).trans rfl
 have dl:=lt_of k1
 clear hx2 hE2 b0 b1 b2 b3 b4 bl hN HPL hlv hh hix hm1 k1 il
 go_wp2_with fail
 refine Calls.mono (HPF _).out ?_
 rintro e w3 ⟨rfl,hx3⟩
 have lvI:I64 (lv:Int):=by unfold I64; omega
 have ixI:I64 ix:=by unfold I64; omega
 have loI:I64 lo:=by unfold I64; omega
 have hiI:I64 hi:=by unfold I64; omega
 obtain ⟨W4,hW4⟩:∃ W4,w3.alloc (.cells #[.int .i64 (lv:Nat),.int .u64 ix] 52)=W4:=⟨_,rfl⟩
 have hb4:=heap_at w3 (.cells #[.int .i64 (lv:Nat),.int .u64 ix] 52) rfl
 have hx4:=Ext.alloc' w3 (.cells #[.int .i64 (lv:Nat),.int .u64 ix] 52)
 rw [hW4] at hb4 hx4
 have HP3:=Lib.hid (HP.out.ext hx3)
 have HX24:=Lib.hid (hx3.trans' hx4)
 have o0:=(cell_of hb4 0).trans rfl
 have o1:=(cell_of hb4 1).trans rfl
 have ol:=lt_of hb4
 have HB4:=Lib.hid hb4
 have d2:=((hx3.trans' hx4).cell dl).trans d2
 have d3:=((hx3.trans' hx4).cell dl).trans d3
 have dl4:=Nat.lt_of_lt_of_le dl (hx3.trans' hx4).size
 obtain ⟨S,hS⟩:∃ S,AgF a m l=S:=⟨_,rfl⟩
 have nS1:¬ S p:=by rw [← hS]; exact HP.out.np
 have nS2:¬ S w3.heap.size:=by
  rw [← hS]
  intro hh
  have:=HP3.out.ag.flt hh
  omega
 have HSS:=Lib.hid hS
 have HP4:=Lib.hid (HP3.out.ext hx4)
 have p0:=HP4.out.tw.c0.1
 have pl:=HP4.out.tw.lt
 clear hx3 hx4 hb4 hS d0 d1
 -- the lines
 have HHC:=Lib.hid (show (h:Int)+1=((h+1:Nat):Int) by omega)
 have HT1:=fun W=>Lib.hid (TText_c ((h+1:Nat):Int) (hI hh3) W)
 have HT2:=fun W=>Lib.hid (TText_c (lv:Int) lvI W)
 have HT3:=fun W=>Lib.hid (TText_c ix ixI W)
 have HT4:=fun W=>Lib.hid (TText_c lo loI W)
 have HT5:=fun W=>Lib.hid (TText_c hi hiI W)
 have z1:=tb_size (hI hh3)
 have z2:=tb_size lvI
 have z3:=tb_size ixI
 have z4:=tb_size loI
 have z5:=tb_size hiI
 have hcp:=cat_three vPoint ((h+1:Nat):Int) (lv:Int) ix
 have hcr:=cat_three vRange ((h+1:Nat):Int) lo hi
 have hlp:=top_point (C:=C) (g:=g) hh3 (lv:=lv) hl6 hixb.1 hixb.2.1 hixb.2.2
 rw [HP.out.pt_guess HM1.out hh3 hl6 hixb.1 hixb.2.1] at hlp
 have hgb:=HP.out.guess_bd HM1.out hh3 hl6 hixb.1 hixb.2.1
 have hcs:=HP.out.cv_sum HM1.out hh3 hlh.1 hlh.2.1 hlh.2.2
 have HCI:=Lib.hid (cov_in HP.out.hb hlh.1 hlh.2.1 hlh.2.2)
 have hne:=cov_ne hlh.1 hlh.2.1 hlh.2.2
 have hcl:(covL 6 0 lo hi).length≤13:=cov_len 6 0 lo hi
 have hsb2:=sumG_bd (F:=guessT C (f h)) (L:=covL 6 0 lo hi) (T:=35184372088832) (by decide) (fun q hq=>by obtain ⟨x1,x2,x3⟩:=HCI.out q hq; exact HP.out.guess_bd HM1.out hh3 x1 x2 x3)
 have hob2:=sumG_bd (F:=fun n i=>massT (f h) n i 64) (L:=covL 6 0 lo hi) (T:=35184372088832) (by decide) (fun q _=>HP.out.mass_bd hh3 q.1 q.2)
 obtain ⟨L,hL⟩:∃ L,covL 6 0 lo hi=L:=⟨_,rfl⟩
 rw [hL] at hcs hne hcl hsb2 hob2 HCI
 have hsbL:=hsb2 L.length (Nat.le_refl _)
 have hmI:I64 (lsum (cvV (ptU C (g h)) 6 lo hi)):=by rw [hcs]; unfold I64; omega
 have hlr:=top_range (C:=C) (g:=g) hh3 hlh.1 hlh.2.1 hlh.2.2 hmI
 rw [hcs] at hlr hmI
 obtain ⟨gu,hgu⟩:∃ gu,guessT C (f h) lv ix=gu:=⟨_,rfl⟩
 obtain ⟨sm,hsm⟩:∃ sm,sumG (guessT C (f h)) L L.length=sm:=⟨_,rfl⟩
 rw [hgu] at hlp hgb
 rw [hsm] at hlr hmI
 have guI:I64 gu:=by unfold I64; omega
 obtain ⟨t1,e1⟩:∃ t,(⟨(Lib.itoa ((h+1:Nat):Int)).toArray⟩:ByteArray)=t:=⟨_,rfl⟩
 obtain ⟨t2,e2⟩:∃ t,(⟨(Lib.itoa (lv:Int)).toArray⟩:ByteArray)=t:=⟨_,rfl⟩
 obtain ⟨t3,e3⟩:∃ t,(⟨(Lib.itoa ix).toArray⟩:ByteArray)=t:=⟨_,rfl⟩
 obtain ⟨t4,e4⟩:∃ t,(⟨(Lib.itoa lo).toArray⟩:ByteArray)=t:=⟨_,rfl⟩
 obtain ⟨t5,e5⟩:∃ t,(⟨(Lib.itoa hi).toArray⟩:ByteArray)=t:=⟨_,rfl⟩
 obtain ⟨sp,e6⟩:∃ t,lineB vPoint [((h+1:Nat):Int),(lv:Int),ix]=t:=⟨_,rfl⟩
 obtain ⟨sr,e7⟩:∃ t,lineB vRange [((h+1:Nat):Int),lo,hi]=t:=⟨_,rfl⟩
 obtain ⟨rp,e8⟩:∃ t,(⟨(repT (.number gu)).toArray⟩:ByteArray)=t:=⟨_,rfl⟩
 obtain ⟨rr,e9⟩:∃ t,(⟨(repT (.number sm)).toArray⟩:ByteArray)=t:=⟨_,rfl⟩
 have HNP:=fun W=>Lib.hid (TNumber_c gu guI [110,117,109,98,101,114,32] rp ⟨#[110,117,109,98,101,114,32]⟩ rfl (numw gu e8) (by decide) W)
 have HNR:=fun W=>Lib.hid (TNumber_c sm hmI [110,117,109,98,101,114,32] rr ⟨#[110,117,109,98,101,114,32]⟩ rfl (numw sm e9) (by decide) W)
 have HRP:=Lib.hid (show strV (repT (.number gu))=.string rp from congrArg Value.string e8)
 have HRR:=Lib.hid (show strV (repT (.number sm))=.string rr from congrArg Value.string e9)
 rw [e6] at hlp
 rw [e7] at hlr
 rw [e1,e2,e3,e6,vpoint_ba] at hcp
 rw [e1,e4,e5,e7,vrange_ba] at hcr
 rw [e1] at z1
 rw [e2] at z2
 rw [e3] at z3
 rw [e4] at z4
 rw [e5] at z5
 unfold strV at HT1 HT2 HT3 HT4 HT5
 rw [e1] at HT1
 rw [e2] at HT2
 rw [e3] at HT3
 rw [e4] at HT4
 rw [e5] at HT5
 have HLP:=Lib.hid hlp
 have HLR:=Lib.hid hlr
 have HGU:=Lib.hid hgu
 have HSM:=Lib.hid hsm
 have HLL:=Lib.hid hL
 have HSB:=Lib.hid hsb2
 have HOB:=Lib.hid hob2
 clear e1 e2 e3 e4 e5 e6 e7 e8 e9 hlp hlr hgu hsm hL hcs hsb2 hob2 hsbL
 go_wp2_with fail
 clear hW4
 have hC0:=afs_drew S W4
 refine pi_start (fun w'=>∃ x:AftS S W4,w'=x.w) [] (by kernel_rfl) ?_
 refine pi_t 0 rfl (by kernel_rfl) (by kernel_rfl) (fun _ _ _ _ h=>h) (fun K hK=>?_)
 go_big_quiet_op
 refine hK _ ?_
 clear hK K
 refine pi_t 1 rfl (by kernel_rfl) (by kernel_rfl) (fun _ _ _ _ h=>h) (fun K hK=>?_)
 go_big_quiet_op
 refine hK _ ?_
 clear hK K
 refine pi_t 2 rfl (by kernel_rfl) (by kernel_rfl) (fun _ _ _ _ h=>h) (fun K hK=>?_)
 go_big_quiet_op
 refine hK _ ?_
 clear hK K
 refine pi_t 4 rfl (by kernel_rfl) (by kernel_rfl) (fun _ _ _ _ h=>h) (fun K hK=>?_)
 go_big_quiet_op
 refine hK _ ?_
 clear hK K
 refine pi_t 5 rfl (by kernel_rfl) (by kernel_rfl) (fun _ _ _ _ h=>h) (fun K hK=>?_)
 go_big_quiet_op
 refine hK _ ?_
 clear hK K
 refine pi_t 9 rfl (by kernel_rfl) (by kernel_rfl) (fun _ _ _ _ h=>h) (fun K hK=>?_)
 go_big_quiet_op
 refine hK _ ?_
 clear hK K
 refine pi_t 14 rfl (by kernel_rfl) (by kernel_rfl) (fun _ _ _ _ h=>h) (fun K hK=>?_)
 go_big_quiet_op
 refine hK _ ?_
 clear hK K
 refine pi_c 3 (by assumption) rfl (by kernel_rfl) (by kernel_rfl) (fun _ _ _ _ h=>h) (fun K hK=>?_)
 go_big_quiet_op
 refine hK _ ?_
 clear hK K
 refine pi_c 10 (by assumption) rfl (by kernel_rfl) (by kernel_rfl) (fun _ _ _ _ h=>h) (fun K hK=>?_)
 go_big_quiet_op
 refine hK _ ?_
 clear hK K
 refine pi_c 15 (by assumption) rfl (by kernel_rfl) (by kernel_rfl) (fun _ _ _ _ h=>h) (fun K hK=>?_)
 go_big_quiet_op
 refine hK _ ?_
 clear hK K
 refine pi_t 16 rfl (by kernel_rfl) (by kernel_rfl) (fun _ _ _ _ h=>h) (fun K hK=>?_)
 go_big_quiet_op
 refine hK _ ?_
 clear hK K
 refine pi_l 6 rfl (by kernel_rfl) (fun K hK=>?_)
 go_wp2_with (go_at_call 16; rw [HHC.out]; refine (HT1 _).out.mono ?_; rintro e y1 ⟨rfl,hy1⟩)
 refine hK _ _ (fun _ h=>afs_step h hy1) ?_
 clear hK K
 refine pi_t 7 rfl (by kernel_rfl) (by kernel_rfl) (fun _ _ _ _ h=>h) (fun K hK=>?_)
 go_big_quiet_op
 refine hK _ ?_
 clear hK K
 refine pi_t 8 rfl (by kernel_rfl) (by kernel_rfl) (fun _ _ _ _ h=>h) (fun K hK=>?_)
 go_big_quiet_op
 refine hK _ ?_
 clear hK K
 refine pi_l 11 rfl (by kernel_rfl) (fun K hK=>?_)
 go_wp2_with (go_at_call 16; refine (HT2 _).out.mono ?_; rintro e y2 ⟨rfl,hy2⟩)
 refine hK _ _ (fun _ h=>afs_step h hy2) ?_
 clear hK K
 refine pi_t 12 rfl (by kernel_rfl) (by kernel_rfl) (fun _ _ _ _ h=>h) (fun K hK=>?_)
 go_big_quiet_op
 refine hK _ ?_
 clear hK K
 refine pi_t 13 rfl (by kernel_rfl) (by kernel_rfl) (fun _ _ _ _ h=>h) (fun K hK=>?_)
 go_big_quiet_op
 refine hK _ ?_
 clear hK K
 refine pi_l 17 rfl (by kernel_rfl) (fun K hK=>?_)
 go_wp2_with (go_at_call 16; refine (HT3 _).out.mono ?_; rintro e y3 ⟨rfl,hy3⟩)
 refine hK _ _ (fun _ h=>afs_step h hy3) ?_
 clear hK K
 have HY:=Lib.hid ((((Ext.refl W4).drewR.trans' hy1).trans' hy2).trans' hy3)
 clear hy1 hy2 hy3
 refine pi_t 18 rfl (by kernel_rfl) (by kernel_rfl) (fun _ _ _ _ h=>h) (fun K hK=>?_)
 go_big_quiet_op
 refine hK _ ?_
 clear hK K
 refine pi_l 19 rfl (by kernel_rfl) (fun K hK=>?_)
 go_wp2_with (go_at_call 15; refine ((HP4.out.ext HY.out).ask HLP.out).mono ?_; rintro e w5 ⟨rfl,l5,hq5⟩; rw [HRP.out])
 have hM5:Mod S W4 w5:=by rw [← HSS.out]; exact (HY.out.mod _).trans hq5.md
 refine hK _ _ (fun _ _=>⟨⟨_,hM5⟩,rfl⟩) ?_
 clear hK K
 refine pi_t 20 rfl (by kernel_rfl) (by kernel_rfl) (fun _ _ _ _ h=>h) (fun K hK=>?_)
 go_big_quiet_op
 refine hK _ ?_
 clear hK K
 refine pi_t 21 rfl (by kernel_rfl) (by kernel_rfl) (fun _ _ _ _ h=>h) (fun K hK=>?_)
 go_big_quiet_op
 refine hK _ ?_
 clear hK K
 refine pi_t 22 rfl (by kernel_rfl) (by kernel_rfl) (fun _ _ _ _ h=>h) (fun K hK=>?_)
 go_big_quiet_op
 refine hK _ ?_
 clear hK K
 refine pi_t 23 rfl (by kernel_rfl) (by kernel_rfl) (fun _ _ _ _ h=>h) (fun K hK=>?_)
 go_big_quiet_op
 refine hK _ ?_
 clear hK K
 refine pi_t 24 rfl (by kernel_rfl) (by kernel_rfl) (fun _ _ _ _ h=>h) (fun K hK=>?_)
 go_big_quiet_op
 refine hK _ ?_
 clear hK K
 refine pi_end (by kernel_rfl) ?_
 have HP5:=Lib.hid hq5.at_
 have HB5:=Lib.hid (Below.trans (HP.out.below_ext (HX24.out.trans' HY.out)) ((HP4.out.ext HY.out).ag.below hq5.md))
 have hb5:=(hM5.block _ ol nS2).trans HB4.out
 obtain ⟨S5,hS5⟩:∃ S,AgF a m l5=S:=⟨_,rfl⟩
 have nS3:¬ S5 p:=by rw [← hS5]; exact HP5.out.np
 have nS4:¬ S5 w3.heap.size:=by
  rw [← hS5]
  intro hh
  rcases hq5.fr _ hh with hh | hh
  · rw [HSS.out] at hh; exact nS2 hh
  · have:=HY.out.size; omega
 have HS5:=Lib.hid hS5
 have p0:=HP5.out.tw.c0.1
 have pl:=HP5.out.tw.lt
 have ol5:=lt_of hb5
 have HBX5:=Lib.hid hb5
 clear hM5 hq5 hb5 hS5 hC0 nS1 nS2 o0 o1 d2 d3
 go_wp2_with fail
 have hC0:=afs_drew S5 w5
 refine pi_start (fun w'=>∃ x:AftS S5 w5,w'=x.w) [] (by kernel_rfl) ?_
 refine pi_t 0 rfl (by kernel_rfl) (by kernel_rfl) (fun _ _ _ _ h=>h) (fun K hK=>?_)
 go_big_quiet_op
 refine hK _ ?_
 clear hK K
 refine pi_t 1 rfl (by kernel_rfl) (by kernel_rfl) (fun _ _ _ _ h=>h) (fun K hK=>?_)
 go_big_quiet_op
 refine hK _ ?_
 clear hK K
 refine pi_t 2 rfl (by kernel_rfl) (by kernel_rfl) (fun _ _ _ _ h=>h) (fun K hK=>?_)
 go_big_quiet_op
 refine hK _ ?_
 clear hK K
 refine pi_t 4 rfl (by kernel_rfl) (by kernel_rfl) (fun _ _ _ _ h=>h) (fun K hK=>?_)
 go_big_quiet_op
 refine hK _ ?_
 clear hK K
 refine pi_t 5 rfl (by kernel_rfl) (by kernel_rfl) (fun _ _ _ _ h=>h) (fun K hK=>?_)
 go_big_quiet_op
 refine hK _ ?_
 clear hK K
 refine pi_t 9 rfl (by kernel_rfl) (by kernel_rfl) (fun _ _ _ _ h=>h) (fun K hK=>?_)
 go_big_quiet_op
 refine hK _ ?_
 clear hK K
 refine pi_t 10 rfl (by kernel_rfl) (by kernel_rfl) (fun _ _ _ _ h=>h) (fun K hK=>?_)
 go_big_quiet_op
 refine hK _ ?_
 clear hK K
 refine pi_t 14 rfl (by kernel_rfl) (by kernel_rfl) (fun _ _ _ _ h=>h) (fun K hK=>?_)
 go_big_quiet_op
 refine hK _ ?_
 clear hK K
 refine pi_t 15 rfl (by kernel_rfl) (by kernel_rfl) (fun _ _ _ _ h=>h) (fun K hK=>?_)
 go_big_quiet_op
 refine hK _ ?_
 clear hK K
 refine pi_c 3 (by assumption) rfl (by kernel_rfl) (by kernel_rfl) (fun _ _ _ _ h=>h) (fun K hK=>?_)
 go_big_quiet_op
 refine hK _ ?_
 clear hK K
 refine pi_l 6 rfl (by kernel_rfl) (fun K hK=>?_)
 go_wp2_with (go_at_call 16; rw [HHC.out]; refine (HT1 _).out.mono ?_; rintro e y1 ⟨rfl,hy1⟩)
 refine hK _ _ (fun _ h=>afs_step h hy1) ?_
 clear hK K
 refine pi_t 7 rfl (by kernel_rfl) (by kernel_rfl) (fun _ _ _ _ h=>h) (fun K hK=>?_)
 go_big_quiet_op
 refine hK _ ?_
 clear hK K
 refine pi_t 8 rfl (by kernel_rfl) (by kernel_rfl) (fun _ _ _ _ h=>h) (fun K hK=>?_)
 go_big_quiet_op
 refine hK _ ?_
 clear hK K
 refine pi_l 11 rfl (by kernel_rfl) (fun K hK=>?_)
 go_wp2_with (go_at_call 16; refine (HT4 _).out.mono ?_; rintro e y2 ⟨rfl,hy2⟩)
 refine hK _ _ (fun _ h=>afs_step h hy2) ?_
 clear hK K
 refine pi_t 12 rfl (by kernel_rfl) (by kernel_rfl) (fun _ _ _ _ h=>h) (fun K hK=>?_)
 go_big_quiet_op
 refine hK _ ?_
 clear hK K
 refine pi_t 13 rfl (by kernel_rfl) (by kernel_rfl) (fun _ _ _ _ h=>h) (fun K hK=>?_)
 go_big_quiet_op
 refine hK _ ?_
 clear hK K
 refine pi_l 16 rfl (by kernel_rfl) (fun K hK=>?_)
 go_wp2_with (go_at_call 16; refine (HT5 _).out.mono ?_; rintro e y3 ⟨rfl,hy3⟩)
 refine hK _ _ (fun _ h=>afs_step h hy3) ?_
 clear hK K
 have HY5:=Lib.hid ((((Ext.refl w5).drewR.trans' hy1).trans' hy2).trans' hy3)
 clear hy1 hy2 hy3
 refine pi_t 17 rfl (by kernel_rfl) (by kernel_rfl) (fun _ _ _ _ h=>h) (fun K hK=>?_)
 go_big_quiet_op
 refine hK _ ?_
 clear hK K
 refine pi_l 18 rfl (by kernel_rfl) (fun K hK=>?_)
 go_wp2_with (go_at_call 15; refine ((HP5.out.ext HY5.out).ask HLR.out).mono ?_; rintro e w6 ⟨rfl,l6,hq6⟩; rw [HRR.out])
 have hM6:Mod S5 w5 w6:=by rw [← HS5.out]; exact (HY5.out.mod _).trans hq6.md
 refine hK _ _ (fun _ _=>⟨⟨_,hM6⟩,rfl⟩) ?_
 clear hK K
 refine pi_t 19 rfl (by kernel_rfl) (by kernel_rfl) (fun _ _ _ _ h=>h) (fun K hK=>?_)
 go_big_quiet_op
 refine hK _ ?_
 clear hK K
 refine pi_t 20 rfl (by kernel_rfl) (by kernel_rfl) (fun _ _ _ _ h=>h) (fun K hK=>?_)
 go_big_quiet_op
 refine hK _ ?_
 clear hK K
 refine pi_t 21 rfl (by kernel_rfl) (by kernel_rfl) (fun _ _ _ _ h=>h) (fun K hK=>?_)
 go_big_quiet_op
 refine hK _ ?_
 clear hK K
 refine pi_t 22 rfl (by kernel_rfl) (by kernel_rfl) (fun _ _ _ _ h=>h) (fun K hK=>?_)
 go_big_quiet_op
 refine hK _ ?_
 clear hK K
 refine pi_t 23 rfl (by kernel_rfl) (by kernel_rfl) (fun _ _ _ _ h=>h) (fun K hK=>?_)
 go_big_quiet_op
 refine hK _ ?_
 clear hK K
 refine pi_end (by kernel_rfl) ?_
 have HP6:=Lib.hid hq6.at_
 have HB6:=Lib.hid (Below.trans HB5.out (Below.trans (HP5.out.below_ext HY5.out) ((HP5.out.ext HY5.out).ag.below hq6.md)))
 have hb6:=(hM6.block _ ol5 nS4).trans HBX5.out
 have HBX6:=Lib.hid hb6
 have HE6:=Lib.hid (Below.trans HE2.out (Below.mono HB6.out HNW.out))
 have o0:=(cell_of hb6 0).trans rfl
 have o1:=(cell_of hb6 1).trans rfl
 have ol6:=lt_of hb6
 clear hM6 hq6 hC0 nS3 nS4 p0 pl hcp hcr z1 z2 z3 z4 z5
 go_wp2_with fail
 refine Calls.mono (HNP _).out ?_
 rintro e w7 ⟨rfl,rfl⟩
 go_wp2_with fail
 refine Calls.mono (HNR _).out ?_
 rintro e w8 ⟨rfl,rfl⟩
 have HGC:=fun W (hx:Ext w8 W)=>Lib.hid (TGuess_c (HP6.out.ext hx).tw HP.out.ok HP.out.hb h hh3 lv hl6 ix hixb.1 hixb.2.1)
 rw [HGU.out] at HGC
 clear hb6
 go_wp2_with fail
 refine Calls.mono (HGC _ (Ext.refl _)).out ?_
 rintro e w9 ⟨rfl,hx9⟩
 have HX9:=Lib.hid hx9
 have HCV:=fun W=>Lib.hid (RCover_c 6 (by decide) (by decide) lo hi (by unfold U64; omega) (by unfold U64; omega) W)
 have hb9:=hx9.keep HBX6.out
 have HB9:=Lib.hid hb9
 clear hx9 hb9 o0 o1
 go_wp2_with fail
 refine Calls.mono (HCV _).out ?_
 rintro e w10 (⟨hbad,_⟩ | ⟨_,vL,rfl,hown,hx10⟩)
 · exfalso
   rw [show (2:Int) ^ 6=64 from rfl] at hbad
   omega
 rw [HLL.out] at hown
 obtain ⟨gL,cL,rfl,hgL,hpc⟩:=own_pieces hown hne
 have HPC:=Lib.hid hpc
 have HX10:=Lib.hid (HX9.out.trans' hx10)
 have hgu0:=HX10.out
 have HBT:=Lib.hid (hx10.keep HB9.out)
 clear hx10 hown hpc hgu0
 go_wp2_with fail
 go_loopw [21,22,25] (fun u21 u22 u25 wr=>∃ k:Nat,k≤L.length∧u25=.int .i64 (k:Nat)∧u21=.int .i64 (sumG (guessT C (f h)) L k)∧u22=.int .i64 (sumG (fun n i=>massT (f h) n i 64) L k)∧Ext w10 wr) (fun _ _ u25 _=>13 - (intOf u25).toNat)
 case atStart=>exact ⟨0,by omega,rfl,rfl,rfl,Ext.refl _⟩
 case round =>
  obtain ⟨k,hk,rfl,rfl,rfl,hE⟩:=hrel
  have HER:=Lib.hid (HX10.out.trans' hE)
  have HE:=Lib.hid hE
  have hsb:=HSB.out k hk
  have hob:=HOB.out k hk
  have hgr:=Nat.lt_of_lt_of_le hgL hE.size
  by_cases hlt:k < L.length
  · obtain ⟨c0,c1⟩:=HPC.out k hlt
    rw [Nat.zero_add] at c0 c1
    have c0:=(hE.cell hgL).trans c0
    have c1:=(hE.cell hgL).trans c1
    have hmem:L.getD k (0,0) ∈ L:=by
     rw [List.getD_eq_getElem?_getD,List.getElem?_eq_getElem hlt]
     exact List.getElem_mem _
    obtain ⟨q1,q2,q3⟩:=HCI.out _ hmem
    have hs1:=sumG_succ (guessT C (f h)) L hlt
    have hs2:=sumG_succ (fun n i=>massT (f h) n i 64) L hlt
    have hg1:=HP.out.guess_bd HM1.out hh3 q1 q2 q3
    have hg2:=HP.out.mass_bd hh3 (L.getD k (0,0)).1 (L.getD k (0,0)).2
    generalize L.getD k (0,0)=q at *
    obtain ⟨n,j⟩:=q
    dsimp only at *
    have HG1:=fun W (hx:Ext w8 W)=>Lib.hid (TGuess_c (HP6.out.ext hx).tw HP.out.ok HP.out.hb h hh3 n q1 j q2 q3)
    have hjU:U64 j:=by
     have:=topKeys HP.out.hb q1
     have:=(pow6 q1).2.1
     unfold U64
     omega
    have HG2:=fun W (hx:Ext w8 W)=>Lib.hid (TMass_c (HP6.out.ext hx).tw h hh3 n q1 j hjU)
    have HS1:=Lib.hid hs1
    have HS2:=Lib.hid hs2
    have hk13:k < 13:=by omega
    have b1:-500000000000000≤sumG (guessT C (f h)) L k∧sumG (guessT C (f h)) L k≤500000000000000:=by omega
    have b2:-500000000000000≤sumG (fun n i=>massT (f h) n i 64) L k∧sumG (fun n i=>massT (f h) n i 64) L k≤500000000000000:=by omega
    generalize sumG (guessT C (f h)) L k=y1 at *
    generalize sumG (fun n i=>massT (f h) n i 64) L k=y2 at *
    generalize guessT C (f h) n j=z1 at *
    generalize massT (f h) n j 64=z2 at *
    clear hs1 hs2 hsb hob hE hmem q2 q3 hjU
    go_wp2_with fail
    refine Calls.mono (HG1 _ HER.out).out ?_
    rintro e w11 ⟨rfl,hx11⟩
    have c0:=(hx11.cell hgr).trans c0
    have c1:=(hx11.cell hgr).trans c1
    have hgr:=Nat.lt_of_lt_of_le hgr hx11.size
    have HE11:=Lib.hid (HER.out.trans' hx11)
    have HX11:=Lib.hid (HE.out.trans' hx11)
    clear hx11
    go_wp2_with fail
    refine Calls.mono (HG2 _ HE11.out).out ?_
    rintro e w12 ⟨rfl,hx12⟩
    have HX12:=Lib.hid (HX11.out.trans' hx12)
    clear hx12 c0 c1
    go_wp2
    go_roundw
    case rel=>exact ⟨k+1,by omega,by go_num,by rw [HS1.out],by rw [HS2.out],HX12.out⟩
    case measure=>simp [intOf]; omega
  · obtain rfl:k=L.length:=by omega
    rw [HSM.out]
    have HPR:=Lib.hid (HP6.out.ext HER.out)
    have HPN:=Lib.hid (TPlain_c HPR.out.tw h hh3)
    have hbr:=hE.keep HBT.out
    have o0:=(cell_of hbr 0).trans rfl
    have o1:=(cell_of hbr 1).trans rfl
    have ol:=lt_of hbr
    have HER2:=Lib.hid (Ext.trans' HE6.out HER.out)
    cases hpl:plainT (f h) 64 with
    | false =>
      rw [hpl] at HPN
      generalize sumG (fun n i=>massT (f h) n i 64) L L.length=y2 at *
      clear hE hbr hsb
      go_wp2_with fail
      refine Calls.mono HPN.out ?_
      rintro e w11 ⟨rfl,rfl⟩
      go_wp2
      go_ret
      exact ⟨rfl,HER2.out⟩
    | true =>
      rw [hpl] at HPN
      have g1:=HP.out.pt_mass (by rw [HM1.out]; decide) hh3 hpl hl6 hixb.1 hixb.2.1
      rw [HP.out.pt_guess HM1.out hh3 hl6 hixb.1 hixb.2.1,HGU.out] at g1
      have g2:=sumG_le (F:=fun n i=>massT (f h) n i 64) (G:=guessT C (f h)) (L:=L) (fun q hq=>by
       obtain ⟨x1,x2,x3⟩:=HCI.out q hq
       rw [← HP.out.pt_guess HM1.out hh3 x1 x2 x3]
       exact HP.out.pt_mass (by rw [HM1.out]; decide) hh3 hpl x1 x2 x3) L.length (Nat.le_refl _)
      rw [HSM.out] at g2
      have HG2:=Lib.hid (TMass_c HPR.out.tw h hh3 lv hl6 ix (by unfold U64; omega))
      generalize sumG (fun n i=>massT (f h) n i 64) L L.length=y2 at *
      generalize massT (f h) lv ix 64=z2 at *
      clear hE hbr hsb hpl
      go_wp2_with fail
      refine Calls.mono HPN.out ?_
      rintro e w11 ⟨rfl,rfl⟩
      go_wp2_with fail
      refine Calls.mono HG2.out ?_
      rintro e w12 ⟨rfl,hx12⟩
      have HX12:=Lib.hid (HER2.out.trans' hx12)
      clear hx12
      go_wp2
      go_ret
      exact ⟨rfl,HX12.out⟩
end Go.Proofs.YtmalncfcgcebhaaGreatDoor
namespace Go.Proofs.YtmalncfcgcebhaaGreatDoor
set_option linter.unusedVariables false
open Go.ChangeShapes Go.WideShapes Go.ChangeAt Go.RowKit Go.Deep
theorem wf_u64 {x:Int} (h:(Lit.int IntKind.u64 x).wf=true):U64 x:=by
 have:=bounds_u64 h
 exact ⟨this.1,by omega⟩
theorem wf_i64 {x:Int} (h:(Lit.int IntKind.i64 x).wf=true):I64 x:=by
 have:=bounds_i64 h
 exact ⟨this.1,by omega⟩
section
variable {H:Type} {enc:TypeId × Value → H} {w:World} {base:Nat} {spare:Nat → Bool} {held:Bool}
set_option maxRecDepth 100000 in
theorem cfg_of {n:Nat} {cs:List Value} {y:DataW H × List MemPlace} (h:DataW.trod enc Tryz.prog w base spare held n 24 cs=some y) :
 ∃ C:Cfg,C.Raw∧cs=[.int .i64 C.bits,.int .i64 C.rows,.int .i64 C.width,.int .i64 C.mode,.int .u64 C.seed]:=by
 obtain ⟨xs,n,_,_,hl,hx,hg⟩:=DataW.trod_struct Tryz.underlying24 h
 have hl':cs.length=5:=hl.trans (by kernel_rfl)
 match cs,hl' with
 | [c0,c1,c2,c3,c4],_ =>
   have hx':xs.length=5:=hx.trans (by kernel_rfl)
   match xs,hx' with
   | [x0,x1,x2,x3,x4],_ =>
     have e0:DataW.trod enc Tryz.prog w base spare held n 3 [c0]=some x0:=hg 0 _ rfl
     have e1:DataW.trod enc Tryz.prog w base spare held n 3 [c1]=some x1:=hg 1 _ rfl
     have e2:DataW.trod enc Tryz.prog w base spare held n 3 [c2]=some x2:=hg 2 _ rfl
     have e3:DataW.trod enc Tryz.prog w base spare held n 3 [c3]=some x3:=hg 3 _ rfl
     have e4:DataW.trod enc Tryz.prog w base spare held n 22 [c4]=some x4:=hg 4 _ rfl
     obtain ⟨a0,h0,_,w0⟩:=DataW.trod_int Tryz.underlying3 e0
     obtain ⟨a1,h1,_,w1⟩:=DataW.trod_int Tryz.underlying3 e1
     obtain ⟨a2,h2,_,w2⟩:=DataW.trod_int Tryz.underlying3 e2
     obtain ⟨a3,h3,_,w3⟩:=DataW.trod_int Tryz.underlying3 e3
     obtain ⟨a4,h4,_,w4⟩:=DataW.trod_int Tryz.underlying22 e4
     simp only [List.cons.injEq,and_true] at h0 h1 h2 h3 h4
     exact ⟨⟨a0,a1,a2,a3,a4⟩,⟨wf_i64 w0,wf_i64 w1,wf_i64 w2,wf_i64 w3,wf_u64 w4⟩,by rw [h0,h1,h2,h3,h4]⟩
theorem add_plain0 (b off i:Nat):(Addr.add ⟨b,off,none⟩ i)=⟨b,off+i,none⟩:=by
 unfold Addr.add
 by_cases h:i=0
 · subst h; simp
 · simp [h]
theorem choose_list {α:Type} (P:Nat → α → Prop):∀ n,(∀ i,i < n → ∃ x,P i x) → ∃ l:List α,l.length=n∧∀ i (h:i < l.length),P i l[i]:=by
 intro n
 induction n with
 | zero=>intro _; exact ⟨[],rfl,fun i h=>by simp at h⟩
 | succ n ih =>
   intro h
   obtain ⟨l,hl,hP⟩:=ih (fun i hi=>h i (by omega))
   obtain ⟨x,hx⟩:=h n (by omega)
   refine ⟨l ++ [x],by simp [hl],fun i hi=>?_⟩
   by_cases e:i < l.length
   · rw [List.getElem_append_left e]; exact hP i e
   · have:i=n:=by simp at hi; omega
     subst this
     rw [List.getElem_append_right (by omega)]
     simp [hl,hx]
theorem reach_of {ts:List TypeId} {ds:List (DataW H)} {j:Nat} {t:TypeId} {d:DataW H} (hsz:(DataW.weightsEach Tryz.prog ts ds).all (·≤reachBytes)=true) (ht:ts[j]?=some t) (hd:ds[j]?=some d) {n:Nat} (hn:n ∈ d.weights Tryz.prog t):n≤reachBytes:=by
 have:=List.all_eq_true.1 hsz _ (DataW.weights_mem_each ht hd n hn)
 simpa using this
end
end Go.Proofs.YtmalncfcgcebhaaGreatDoor
namespace Go.Proofs.YtmalncfcgcebhaaGreatDoor
set_option linter.unusedVariables false
open Go.ChangeShapes Go.WideShapes Go.ChangeAt Go.RowKit Go.Deep
theorem own:ownKnob Tryz.prog.godebug=none:=by kernel_rfl
theorem laidOut:laidOutB Tryz.prog=true:=by kernel_rfl
section
variable {H:Type} {enc:TypeId × Value → H} {w:World} {held:Bool}
set_option maxRecDepth 100000 in
theorem cfgarg_of {r:Reach} {b0:Nat} {v:Value} {d:DataW H} {p:List MemPlace} (hv:Value.okWide Tryz.prog w r b0 24 v) (h:DataW.Trod enc Tryz.prog w 0 (fun _=>true) held 24 v d p) :
 ∃ (x:Cfg),x.Raw∧v=.agg #[.int .i64 x.bits,.int .i64 x.rows,.int .i64 x.width,.int .i64 x.mode,.int .u64 x.seed]:=by
 obtain ⟨cs,rfl,hsz⟩:=okWide_struct Tryz.underlying24 hv
 obtain ⟨fuel,hf⟩:=h
 obtain ⟨l⟩:=cs
 obtain ⟨x,hxr,hc⟩:=cfg_of hf
 have hc':l=_:=hc
 subst hc'
 exact ⟨x,hxr,rfl⟩
end
end Go.Proofs.YtmalncfcgcebhaaGreatDoor
namespace Go.Proofs.YtmalncfcgcebhaaGreatDoor
set_option linter.unusedVariables false
open Go.ChangeShapes Go.WideShapes Go.ChangeAt Go.RowKit Go.Deep
section
variable {H:Type} {enc:TypeId × Value → H} {w:World} {held:Bool}
set_option maxRecDepth 100000 in
theorem opT5_of {spare:Nat → Bool} {base n:Nat} {cs:List Value} {y:DataW H × List MemPlace} (h:DataW.trod enc Tryz.prog w base spare held n 102 cs=some y) :
 ∃ u:Opn5,(I64 u.1∧I64 u.2.1∧I64 u.2.2.1∧U64 u.2.2.2.1∧I64 u.2.2.2.2)∧cs=[.int .i64 u.1,.int .i64 u.2.1,.int .i64 u.2.2.1,.int .u64 u.2.2.2.1,.int .i64 u.2.2.2.2]:=by
 obtain ⟨xs,n,_,_,hl,hx,hg⟩:=DataW.trod_struct Tryz.underlying102 h
 have hl':cs.length=5:=hl.trans (by kernel_rfl)
 match cs,hl' with
 | [c0,c1,c2,c3,c4],_ =>
   have hx':xs.length=5:=hx.trans (by kernel_rfl)
   match xs,hx' with
   | [x0,x1,x2,x3,x4],_ =>
     have e0:DataW.trod enc Tryz.prog w base spare held n 3 [c0]=some x0:=hg 0 _ rfl
     have e1:DataW.trod enc Tryz.prog w base spare held n 3 [c1]=some x1:=hg 1 _ rfl
     have e2:DataW.trod enc Tryz.prog w base spare held n 3 [c2]=some x2:=hg 2 _ rfl
     have e3:DataW.trod enc Tryz.prog w base spare held n 22 [c3]=some x3:=hg 3 _ rfl
     have e4:DataW.trod enc Tryz.prog w base spare held n 2 [c4]=some x4:=hg 4 _ rfl
     obtain ⟨a0,h0,_,w0⟩:=DataW.trod_int Tryz.underlying3 e0
     obtain ⟨a1,h1,_,w1⟩:=DataW.trod_int Tryz.underlying3 e1
     obtain ⟨a2,h2,_,w2⟩:=DataW.trod_int Tryz.underlying3 e2
     obtain ⟨a3,h3,_,w3⟩:=DataW.trod_int Tryz.underlying22 e3
     obtain ⟨a4,h4,_,w4⟩:=DataW.trod_int Tryz.underlying2 e4
     simp only [List.cons.injEq,and_true] at h0 h1 h2 h3 h4
     exact ⟨(a0,a1,a2,a3,a4),⟨wf_i64 w0,wf_i64 w1,wf_i64 w2,wf_u64 w3,wf_i64 w4⟩,by rw [h0,h1,h2,h3,h4]⟩
set_option maxRecDepth 100000 in
theorem opsT5arg_of {r:Reach} {b0:Nat} {v:Value} {d:DataW H} {p:List MemPlace} (hv:Value.okWide Tryz.prog w r b0 25 v) (h:DataW.Trod enc Tryz.prog w 0 (fun _=>true) held 25 v d p) :
 ∃ (os:List Opn5),Ops5Ok os∧Ops5At w v os ∧
   ∀ (ts:List TypeId) (ds:List (DataW H)) (j:Nat),(DataW.weightsEach Tryz.prog ts ds).all (·≤reachBytes)=true → ts[j]?=some 25 → ds[j]?=some d → os.length≤140737488355328:=by
 obtain ⟨q,n,cap,rfl⟩:=okWide_slice Tryz.underlying25 hv
 obtain ⟨fuel,hf⟩:=h
 rcases open_slice Tryz.underlying25 hf with ⟨hcs,_⟩ | ⟨a,len,cap',m,n',D,Pl,hcs,_,hlc,hcm,hm,hx,hi⟩
 · have hcs':[Value.slice q n cap]=[Value.slice none 0 0]:=hcs
   simp only [List.cons.injEq,and_true,Value.slice.injEq] at hcs'
   obtain ⟨rfl,rfl,rfl⟩:=hcs'
   exact ⟨[],(by intro u hu; cases hu),.inl ⟨⟨_,rfl⟩,rfl⟩,fun _ _ _ _ _ _=>Nat.zero_le _⟩
 · have hcs':[Value.slice q n cap]=[Value.slice (some a) len cap']:=hcs
   simp only [List.cons.injEq,and_true,Value.slice.injEq] at hcs'
   obtain ⟨rfl,rfl,rfl⟩:=hcs'
   simp only [if_true] at hm
   rw [hm] at hi hx
   clear hm
   have hC:Tryz.prog.cellsOf 102=5:=by kernel_rfl
   rw [hC] at hi
   have key:∀ i,i < n → ∃ u:Opn5,(I64 u.1∧I64 u.2.1∧I64 u.2.2.1∧U64 u.2.2.2.1∧I64 u.2.2.2.2)∧w.cell? (a.add (i * 5))=some (.int .i64 u.1)∧w.cell? (a.add (i * 5+1))=some (.int .i64 u.2.1)∧w.cell? (a.add (i * 5+2))=some (.int .i64 u.2.2.1)∧w.cell? (a.add (i * 5+3))=some (.int .u64 u.2.2.2.1)∧w.cell? (a.add (i * 5+4))=some (.int .i64 u.2.2.2.2):=by
    intro i hil
    obtain ⟨cs',hc,ht⟩:=hi i (by omega)
    obtain ⟨u,hu,rfl⟩:=opT5_of ht
    obtain ⟨_,_,hat⟩:=World.cells?_some hc
    refine ⟨u,hu, ?_, ?_, ?_, ?_, ?_⟩
    · have:=hat 0 (by omega); rw [add_add,Nat.add_zero] at this; exact this
    · have:=hat 1 (by omega); rw [add_add] at this; exact this
    · have:=hat 2 (by omega); rw [add_add] at this; exact this
    · have:=hat 3 (by omega); rw [add_add] at this; exact this
    · have:=hat 4 (by omega); rw [add_add] at this; exact this
   obtain ⟨us,hul,hus⟩:=choose_list _ n key
   by_cases h0:cap=0
   · have hl0:n=0:=by omega
     subst hl0 h0
     obtain rfl:us=[]:=List.length_eq_zero_iff.1 hul
     exact ⟨[],(by intro u hu; cases hu),.inl ⟨⟨_,rfl⟩,rfl⟩,fun _ _ _ _ _ _=>Nat.zero_le _⟩
   · obtain ⟨cs',hc,ht⟩:=hi 0 (by omega)
     obtain ⟨u,_,rfl⟩:=opT5_of ht
     obtain ⟨_,_,hat⟩:=World.cells?_some hc
     have h1:=hat 0 (by omega)
     obtain ⟨b,off,spot⟩:=a
     have hspot:spot=none:=by simpa [Addr.add] using World.cell?_spot h1
     subst hspot
     have hb:b < w.heap.size:=by
      rcases Nat.lt_or_ge b w.heap.size with h' | h'
      · exact h'
      · simp [World.cell?,Addr.add,Array.getElem?_eq_none h'] at h1
     refine ⟨us, ?_,.inr ⟨b,off,cap,by rw [hul],hb,fun k hk=>?_⟩,fun ts ds j hs ht hj=>?_⟩
     · intro u hu
       obtain ⟨i,hi',rfl⟩:=List.getElem_of_mem hu
       exact (hus i hi').1
     · have:=(hus k hk).2
       have hg:us.getD k (0,0,0,0,0)=us[k]:=by simp [hk]
       rw [hg]
       rw [add_plain0,add_plain0,add_plain0,add_plain0,add_plain0] at this
       simpa only [Nat.add_assoc] using this
     · have hb:Tryz.prog.bytesOf 102=40:=by kernel_rfl
       simp only [Prod.mk.injEq] at hx
       have h2:=hx.1
       subst h2
       have:=reach_of hs ht hj (by
        simp [DataW.weights,Tryz.underlying25]
        exact .inl rfl)
       rw [hb] at this
       simp only [reachBytes] at this
       omega
set_option maxRecDepth 100000 in
theorem t4u64_of {r:Reach} {b0:Nat} {v:Value} {d:DataW H} {p:List MemPlace} (hv:Value.okWide Tryz.prog w r b0 58 v) (h:DataW.Trod enc Tryz.prog w 0 (fun _=>true) held 58 v d p) :
 ∃ (a0 a1 a2 a3:Int),U64 a0∧U64 a1∧U64 a2∧U64 a3∧v=.agg #[.int .u64 a0,.int .u64 a1,.int .u64 a2,.int .u64 a3]:=by
 have hv':∃ cs,v=.agg cs∧cs.size=4:=by
  simp only [Value.okWide,Tryz.underlying58] at hv
  obtain ⟨cs,h1,h2,_⟩:=hv
  exact ⟨cs,h1,h2.trans (by kernel_rfl)⟩
 obtain ⟨cs,rfl,hsz⟩:=hv'
 obtain ⟨fuel,hf⟩:=h
 obtain ⟨l⟩:=cs
 obtain ⟨xs,m,_,_,_,hl,hel⟩:=DataW.trod_array Tryz.underlying58 hf
 match l,hsz with
 | [c0,c1,c2,c3],_ =>
   match xs,hl with
   | [x0,x1,x2,x3],_ =>
     have hC:Tryz.prog.cellsOf 22=1:=by kernel_rfl
     have e0:DataW.trod enc Tryz.prog w 0 (fun _=>true) held m 22 [c0]=some x0:=by have:=hel 0 (by decide); rw [hC] at this; exact this
     have e1:DataW.trod enc Tryz.prog w 0 (fun _=>true) held m 22 [c1]=some x1:=by have:=hel 1 (by decide); rw [hC] at this; exact this
     have e2:DataW.trod enc Tryz.prog w 0 (fun _=>true) held m 22 [c2]=some x2:=by have:=hel 2 (by decide); rw [hC] at this; exact this
     have e3:DataW.trod enc Tryz.prog w 0 (fun _=>true) held m 22 [c3]=some x3:=by have:=hel 3 (by decide); rw [hC] at this; exact this
     obtain ⟨b0,h0,_,w0⟩:=DataW.trod_int Tryz.underlying22 e0
     obtain ⟨b1,h1,_,w1⟩:=DataW.trod_int Tryz.underlying22 e1
     obtain ⟨b2,h2,_,w2⟩:=DataW.trod_int Tryz.underlying22 e2
     obtain ⟨b3,h3,_,w3⟩:=DataW.trod_int Tryz.underlying22 e3
     simp only [List.cons.injEq,and_true] at h0 h1 h2 h3
     subst h0 h1 h2 h3
     exact ⟨b0,b1,b2,b3,wf_u64 w0,wf_u64 w1,wf_u64 w2,wf_u64 w3,rfl⟩
end
end Go.Proofs.YtmalncfcgcebhaaGreatDoor
namespace Go.Proofs.YtmalncfcgcebhaaGreatDoor
set_option linter.unusedVariables false
open Go.Proofs Go.RowKit
set_option maxRecDepth 100000
def laid7 : List (String × DataW Unit) := [("math/bits.deBruijn32tab", Rows.laid_math_bits_deBruijn32tab), ("math/bits.deBruijn64tab", Rows.laid_math_bits_deBruijn64tab), ("internal/strconv.uint64pow10", Rows.laid_internal_strconv_uint64pow10), ("unicode/utf8.acceptRanges", Rows.laid_unicode_utf8_acceptRanges), ("strconv.ErrRange", Rows.laid_strconv_ErrRange), ("strconv.ErrSyntax", Rows.laid_strconv_ErrSyntax), ("unicode/utf8.first", Rows.laid_unicode_utf8_first)]
theorem first_is:Rows.laid_unicode_utf8_first=Lib.firstData:=by kernel_rfl
theorem accept_is:(Rows.laid_unicode_utf8_acceptRanges:DataW Unit)=Lib.acceptData:=by kernel_rfl
theorem pow_is:(Rows.laid_internal_strconv_uint64pow10:DataW Unit)=Lib.tabData .u64 Lib.pow10Tab:=by kernel_rfl
theorem g_pow : Tryz.prog.globalNamed "internal/strconv.uint64pow10" = some 4 := by kernel_rfl
theorem t_pow:(Tryz.prog.globals[4]?).map (·.type)=some 364:=by kernel_rfl
theorem g_first : Tryz.prog.globalNamed "unicode/utf8.first" = some 2 := by kernel_rfl
theorem t_first:(Tryz.prog.globals[2]?).map (·.type)=some 329:=by kernel_rfl
theorem g_acc : Tryz.prog.globalNamed "unicode/utf8.acceptRanges" = some 3 := by kernel_rfl
theorem t_acc:(Tryz.prog.globals[3]?).map (·.type)=some 332:=by kernel_rfl
theorem g_syn : Tryz.prog.globalNamed "strconv.ErrSyntax" = some 8 := by kernel_rfl
theorem t_syn:(Tryz.prog.globals[8]?).map (·.type)=some 199:=by kernel_rfl
theorem g_rng : Tryz.prog.globalNamed "strconv.ErrRange" = some 9 := by kernel_rfl
theorem t_rng:(Tryz.prog.globals[9]?).map (·.type)=some 199:=by kernel_rfl
theorem star : "*errors.errorString" = "*" ++ "errors.errorString" := rfl
theorem es_row : ∀ u, Tryz.prog.typeName? 3 u = some "*errors.errorString" → u = 410 := fun u h =>
 typeName_ptr_named (nm := "errors.errorString") (by rw [← star]; kernel_rfl) (by kernel_rfl) (by decide) u (by rw [← star]; exact h)
theorem sent_cell {n : String} {text : List UInt8} {r : List (String × DataW Unit)} {W : World} {g : Nat} (h : laidMet Tryz.prog ((n, .iface "*errors.errorString" (.ptr (.agg [.lit (.string text)]))) :: r) W)
 (hg:Tryz.prog.globalNamed n=some g) (ht:(Tryz.prog.globals[g]?).map (·.type)=some 199):∃ te pe,W.cell? ⟨g,0,none⟩=some (.iface te pe):=by
 obtain ⟨a,s,hv,_⟩:=laid_sentinel h hg ht Tryz.underlying199 es_row Tryz.underlying410 Tryz.underlying412 rfl rfl Tryz.underlying9 (by kernel_rfl) (by kernel_rfl)
 exact ⟨_,_,(World.var?_cell hg hv 0).trans rfl⟩
theorem tabs_laid {W:World} (h:laidMet Tryz.prog laid7 W):Tabs W:=by
 refine ⟨?_,⟨fun c hc=>?_,fun i hi=>?_⟩, ?_, ?_⟩
 · have hr : Lib.VarReads Tryz.prog W "internal/strconv.uint64pow10" (Lib.tabData .u64 Lib.pow10Tab) := by
    rw [← pow_is]; exact Lib.laidMet.reads h (by unfold laid7; simp)
   obtain ⟨g,t,cs,fuel,p,hg,hty,hvar,hd⟩:=hr
   obtain rfl:=Option.some.inj (g_pow.symm.trans hg)
   obtain rfl:=Option.some.inj (t_pow.symm.trans hty)
   unfold Lib.TabIs
   rw [hvar,← Lib.cells_of_tab Tryz.underlying364 Tryz.underlying22 (by kernel_rfl) (by kernel_rfl) hd]
 · have hr : Lib.VarReads Tryz.prog W "unicode/utf8.first" Lib.firstData := by
    rw [← first_is]; exact Lib.laidMet.reads h (by unfold laid7; simp)
   obtain ⟨g,t,cs,fuel,p,hg,hty,hvar,hd⟩:=hr
   obtain rfl:=Option.some.inj (g_first.symm.trans hg)
   obtain rfl:=Option.some.inj (t_first.symm.trans hty)
   have hcs:=Lib.cells_of_tab Tryz.underlying329 Tryz.underlying5 (by kernel_rfl) (by kernel_rfl) hd
   have:=World.var?_cell hg hvar c
   rw [this,← Array.getElem?_toList,hcs]
   simp [Lib.firstTab,hc]
 · have hr : Lib.VarReads Tryz.prog W "unicode/utf8.acceptRanges" Lib.acceptData := by
    rw [← accept_is]; exact Lib.laidMet.reads h (by unfold laid7; simp)
   obtain ⟨g,t,cs,fuel,p,hg,hty,hvar,hd⟩:=hr
   obtain rfl:=Option.some.inj (g_acc.symm.trans hg)
   obtain rfl:=Option.some.inj (t_acc.symm.trans hty)
   obtain ⟨fuel',d,q,hdi,he⟩:=Lib.array_elem Tryz.underlying332 hd i hi
   simp only [List.getElem?_map,List.getElem?_range hi,Option.map_some,Option.some.injEq] at hdi
   subst hdi
   have c2:Tryz.prog.cellsOf 331=2:=by kernel_rfl
   have c1:Tryz.prog.cellsOf 5=1:=by kernel_rfl
   rw [c2] at he
   have hcs:=Lib.ints_of_struct Tryz.underlying331 (fun j f hj=>by
    match j,hj with
    | 0,hj=>simp at hj; subst hj; exact ⟨Tryz.underlying5,rfl,c1⟩
    | 1,hj=>simp at hj; subst hj; exact ⟨Tryz.underlying5,rfl,c1⟩
    | j+2,hj=>simp at hj) (by rw [c2]; rfl) he
   have e0:=congrArg (·[0]?) hcs
   have e1:=congrArg (·[1]?) hcs
   simp only [List.getElem?_take,List.getElem?_drop] at e0 e1
   constructor
   · rw [World.var?_cell hg hvar (2 * i),← Array.getElem?_toList]
     simpa [Nat.mul_comm] using e0
   · rw [World.var?_cell hg hvar (2 * i+1),← Array.getElem?_toList]
     simpa [Nat.mul_comm] using e1
 · exact sent_cell (laidMet.tail (laidMet.tail (laidMet.tail (laidMet.tail (laidMet.tail h))))) g_syn t_syn
 · exact sent_cell (laidMet.tail (laidMet.tail (laidMet.tail (laidMet.tail h)))) g_rng t_rng
end Go.Proofs.YtmalncfcgcebhaaGreatDoor
namespace Go.Proofs.YtmalncfcgcebhaaGreatDoor
set_option linter.unusedVariables false
open Go.ChangeShapes Go.WideShapes Go.ChangeAt Go.RowKit
theorem topAnswers_laid:Rows.topAnswersRow.laid=laid7:=rfl
theorem topAnswers_met (os:Os) (args:Array Value):laidMetH Tryz.prog Rows.topAnswersRow.laid ((World.laidAll Tryz.prog os Rows.topAnswersRow.laid).forCall (fun _ _=>0) ⟨#[],args,[]⟩).memory:=by
 rw [MakeChecks.laidMetH_plain _ _ _ (by kernel_rfl)]
 exact laidMet_laidAll _ (by kernel_rfl) (by kernel_rfl)
set_option maxRecDepth 100000 in
theorem topAnswers_lifted (os:Os) (started:os.Started) (H:Type) (enc:TypeId × Value → H) :
 ReturnsInHanded {} Tryz.checked os 4 .any (fun w args=>(Rows.topAnswersSpec.pre enc Tryz.prog Tryz.f4 [] false w args∧laidMetH Tryz.prog Rows.topAnswersRow.laid w)∧sizedMet enc Tryz.prog Tryz.f4 (OpenSpec.ofChange Rows.topAnswersSpec) false w args)
  (Rows.topAnswersSpec.post enc Tryz.prog Tryz.f4 false true false false):=by
 refine returnsInHanded_of_change_and (C:=Tryz.checked) (X:=fun w _=>laidMetH Tryz.prog Rows.topAnswersRow.laid w) (fun _ _ _ hh h=>h.of_heap hh) own started (by kernel_rfl) Tryz.func4
  (ChangeSpec.witness_shaped (enc:=enc) (C:=Tryz.checked) (os:=os) (X:=fun w _=>laidMetH Tryz.prog Rows.topAnswersRow.laid w) false (World.laidAll Tryz.prog os Rows.topAnswersRow.laid) #[.agg #[.int .i64 0,.int .i64 0,.int .i64 0,.int .i64 0,.int .u64 0],.slice none 0 0,.agg #[.int .u64 0,.int .u64 0,.int .u64 0,.int .u64 0]] 8 (World.laidAll_os _ _ _)
   (World.shaped_of_ZipB (by kernel_rfl) (by kernel_rfl)) (by kernel_rfl) (by kernel_rfl) (by kernel_rfl) (topAnswers_met os _)) ?_
 intro W base args ds gs before hval0 hW _ hsz0 hL _
 have hval:∀ (j:Nat) t v,Tryz.f4.params[j]?=some t → args[j]?=some v → Value.okWide Tryz.prog W .any base t v:=hval0
 have hW':=hW
 obtain ⟨p,q,hA0,hV,rfl,hfz,hnd⟩:=hW
 have hA:DataW.TrodAll enc Tryz.prog W 0 (fun _=>true) true Tryz.f4.params.toList args.toList ds p:=hA0
 have hsz:(DataW.weightsEach Tryz.prog (Tryz.f4.params.toList ++ Rows.topAnswersSpec.plain.varTypes Tryz.prog) (ds ++ gs)).all (·≤reachBytes)=true:=hsz0
 rw [Tryz.params4] at hA hval hsz
 obtain ⟨v0,vs0,d0,ds0,p0,q0,hargs,rfl,rfl,h0,r0⟩:=trodAll_cons hA
 obtain ⟨v1,vs1,d1,ds1,p1,q1,rfl,rfl,rfl,h1,r1⟩:=trodAll_cons r0
 obtain ⟨v2,vs2,d2,ds2,p2,q2,rfl,rfl,rfl,h2,r2⟩:=trodAll_cons r1
 obtain ⟨rfl,rfl,rfl⟩:=trodAll_nil r2
 obtain rfl:args=#[v0,v1,v2]:=by cases args; simp_all
 obtain ⟨rfl,rfl⟩:=trodVars_none hV
 have k0:=h0
 have k1:=h1
 have k2:=h2
 have lt0:∀ x ∈ p0,x.block < W.heap.size:=by obtain ⟨m,hm⟩:=k0; exact DataW.trod_lt m _ _ _ hm
 have lt1:∀ x ∈ p1,x.block < W.heap.size:=by obtain ⟨m,hm⟩:=k1; exact DataW.trod_lt m _ _ _ hm
 have lt2:∀ x ∈ p2,x.block < W.heap.size:=by obtain ⟨m,hm⟩:=k2; exact DataW.trod_lt m _ _ _ hm
 obtain ⟨x0,hx0,rfl⟩:=cfgarg_of (hval 0 _ v0 rfl rfl) h0
 obtain ⟨os1,hos1,hat1,hr1⟩:=opsT5arg_of (hval 1 _ v1 rfl rfl) h1
 have hul1:=hr1 _ _ 1 hsz rfl rfl
 obtain ⟨a2x0,a2x1,a2x2,a2x3,ha2x0,ha2x1,ha2x2,ha2x3,rfl⟩:=t4u64_of (hval 2 _ v2 rfl rfl) h2
 rw [MakeChecks.laidMetH_plain _ _ _ (by kernel_rfl),topAnswers_laid] at hL
 have hT:=tabs_laid hL
 clear hA0 hval0
 refine (AnsTop_c x0 hx0 os1 hos1 v1 a2x0 a2x1 a2x2 a2x3 ha2x0 ha2x1 ha2x2 ha2x3 W hat1 hul1 hT).mono fun e W' ⟨he,bel⟩=>?_
 subst he
 exact ⟨_,rfl,_,_,_,[],_,[],hW',trodAll_mk1 (shut_bool Tryz.underlying4 _),(trodAll_cons_mk (Below.trod laidOut (by kernel_rfl) (of_decide_eq_true (by kernel_rfl)) k0 bel lt0) (trodAll_cons_mk (Below.trod laidOut (by kernel_rfl) (of_decide_eq_true (by kernel_rfl)) k1 bel lt1) (trodAll_cons_mk (Below.trod laidOut (by kernel_rfl) (of_decide_eq_true (by kernel_rfl)) k2 bel lt2) trodAll_mk0))),rfl,bel.frame _,fun h=>by cases h⟩
end Go.Proofs.YtmalncfcgcebhaaGreatDoor
