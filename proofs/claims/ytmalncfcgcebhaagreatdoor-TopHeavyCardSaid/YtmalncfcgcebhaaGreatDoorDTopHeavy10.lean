/- Part. No condition. -/
import Derived.Test.YtmalncfcgcebhaaGreatDoorDTopHeavy9
import Derived.Test.YtmalncfcgcebhaaGreatDoorDTopHeavy4
import Derived.Test.YtmalncfcgcebhaaGreatDoorDTopHeavy8
import Derived.Test.YtmalncfcgcebhaaGreatDoorDTopHeavy7
import Derived.Defers
import Derived.Laws.EntriesVeiled
namespace Go.Proofs.YtmalncfcgcebhaaGreatDoor
set_option linter.unusedVariables false
open Go.RowKit
def CloPost (w W:World) (b6:Nat) (pre suf:List (Nat × Int)) (e:Ending) (w':World):Prop :=
 e=.returned (.tuple #[])∧∃ v',w'.heap[b6]?=some (.cells #[v'] 62 (0,0))∧w'.ownsRow w.heap.size 52 2 v' (pre++suf.reverse).length (pcV (pre++suf.reverse))∧Ext w w'
theorem CovW.rev {w W w1:World} {b6 b8:Nat} {v6 v8:Value} {pre suf:List (Nat × Int)} (h:CovW w W b6 b8 v6 v8 pre suf)
 (h1:w1.ownsRow w.heap.size 52 2 v8 suf.length (pcV suf.reverse)) (hm:Mod (fun k=>v8.ownBlock=some k) W w1):CovW w w1 b6 b8 v6 v8 pre suf.reverse:=by
 have k6:=(hm.block b6 (lt_of h.x6) (fun e=>own_notB h.o8 h.x6 (by decide) e)).trans h.x6
 have k8:=(hm.block b8 (lt_of h.x8) (fun e=>own_notB h.o8 h.x8 (by decide) e)).trans h.x8
 refine ⟨k6,k8,own_keepB h.o6 (fun k hk=>hm.block k (own_lt h.o6 hk) (fun e=>h.dj k hk e)),by rw [List.length_reverse]; exact h1,h.dj,h.g6,h.g8,h.ne, ?_⟩
 exact ⟨hm.os.trans h.ext.os,hm.tape.trans h.ext.tape,hm.output.trans h.ext.output,Nat.le_trans h.ext.size hm.size,fun k hk=>(hm.block k (Nat.lt_of_lt_of_le hk h.ext.size) (fun e=>by have:=own_blk h.o8 e; omega)).trans (h.ext.block k hk)⟩
set_option maxRecDepth 20000 in
set_option maxHeartbeats 2000000 in
theorem CoverD_c (w W:World) (b6 b8:Nat) (v6 v8:Value) (pre suf:List (Nat × Int)) (u:FrameMode) (h:CovW w W b6 b8 v6 v8 pre suf) (hp:pre.length≤100000) (hs:suf.length≤100000) :
 CallsD Tryz.prog 248 #[.pointer (some ⟨b8,0,none⟩),.pointer (some ⟨b6,0,none⟩)] u W fun e u' w'=>u'=u∧CloPost w W b6 pre suf e w':=by
 obtain ⟨i0,z0,hi,hz0,hz1,hz2,hzs⟩:=info_pc
 have c8:=(cell_of h.x8 0).trans rfl
 have l8:=lt_of h.x8
 have HH:=Lib.hid h
 clear h
 go_enter_d Tryz.func248,Tryz.ntmps248
 go_wp2_with fail
 refine Calls.mono (Reverse_c suf v8 w.heap.size W HH.out.o8 (by omega)) ?_
 rintro e w1 ⟨rfl,ho,hm⟩
 have h1:=HH.out.rev ho hm
 clear c8 l8 ho hm
 have c6:=(cell_of h1.x6 0).trans rfl
 have c8:=(cell_of h1.x8 0).trans rfl
 have l6:=lt_of h1.x6
 have l8:=lt_of h1.x8
 have f6:=frozen_of h1.x6 0
 have H1:=Lib.hid h1
 clear h1
 go_wp2_with (at_builtin; refine wpList_apppz _ suf.reverse pre v6 w.heap.size 52 H1.out.o6 62 rfl _ _ rfl i0 z0 hi hz0 hz1 hz2 hzs Tryz.underlying62 rfl v8 rfl w.heap.size H1.out.o8 (by rw [List.length_reverse]; omega) H1.out.ext.size ?_)
 intro v' w2 hown hext hcells
 have k6:=hcells _ _ _ H1.out.x6 (by decide)
 have hE:=hext w H1.out.ext (Nat.le_refl _)
 have HK:=Lib.hid k6
 have c62:=(cell_of k6 0).trans rfl
 have l62:=lt_of k6
 have f62:=frozen_of k6 0
 obtain ⟨pv,cv,rfl⟩:=own_sl hown
 clear hext hcells k6
 go_wp2
 go_end0
 have hlen:(pre++suf.reverse).length=pre.length+suf.length:=by simp
 refine ⟨rfl,_,by rw [setCell_same HK.out]; rfl, ?_,hE.setR (p:=⟨b6,0,none⟩) H1.out.g6 _⟩
 rw [hlen]
 exact own_keepB hown (fun k hk=>setCell_other _ _ (fun e=>own_notB hown HK.out (by decide) (e ▸ hk)))
def CoverPost (w:World) (B:Nat) (lo hi:Int) (e:Ending) (w':World):Prop :=
 ((hi < lo∨2 ^ B≤hi)∧e=.returned (.tuple #[.slice none 0 0,.bool false])∧Ext w w') ∨
 ((lo≤hi∧hi < 2 ^ B)∧∃ v,e=.returned (.tuple #[v,.bool true])∧w'.ownsRow w.heap.size 52 2 v (covL B 0 lo hi).length (pcV (covL B 0 lo hi))∧Ext w w')
theorem cov_step {B l:Nat} {a b:Int} (hl:l < B) (hne:a≠b):covL (B - l) l a b=(if a % 2=1 then [(l,a)] else []) ++
 ((if (if b % 2=0 then b - 1 else b) < (if a % 2=1 then a+1 else a) then [] else covL (B - (l+1)) (l+1) ((if a % 2=1 then a+1 else a) / 2) ((if b % 2=0 then b - 1 else b) / 2))++(if b % 2=0 then [(l,b)] else [])):=by
 rw [show B - l=(B - (l+1))+1 by omega]
 conv=>lhs; unfold covL
 rw [if_neg hne]
theorem rev_one (c:Prop) [Decidable c] (p:Nat × Int):(if c then [p] else []).reverse=if c then [p] else []:=by split <;> rfl
set_option maxRecDepth 20000 in
set_option maxHeartbeats 4000000 in
theorem Cover_c (B:Nat) (hB1:1≤B) (hB2:B≤59) (lo hi:Int) (hlo:U64 lo) (hhi:U64 hi) (w:World) :
 Calls Tryz.prog 211 #[.int .i64 B,.int .u64 lo,.int .u64 hi] w (CoverPost w B lo hi):=by
 have hmf:∀ (fn:Fn) (first cap:Array Value) (w:World),(Instr.makeFunc fn first cap).run Tryz.prog w=.ok (.func fn first cap) w:=fun _ _ _ _=>rfl
 obtain ⟨hlo0,hlo1⟩:=hlo
 obtain ⟨hhi0,hhi1⟩:=hhi
 have hpw:=pow_bd B hB2
 by_cases h1:hi < lo
 · go_enter_defers Tryz.func211,Tryz.ntmps211
   go_wp2
   exact ⟨.tuple #[.slice none 0 0,.bool false],by simp [results,Tryz.results211,go_sem],.inl ⟨.inl h1,rfl,Ext.alloc' _ _⟩⟩
 · by_cases h2:2 ^ B≤hi
   · go_enter_defers Tryz.func211,Tryz.ntmps211
     go_wp2
     exact ⟨.tuple #[.slice none 0 0,.bool false],by simp [results,Tryz.results211,go_sem],.inl ⟨.inr h2,rfl,Ext.alloc' _ _⟩⟩
   · have hcv:CovW w ((w.alloc (.cells #[.slice none 0 0] 62)).alloc (.cells #[.slice none 0 0] 62)) w.heap.size (w.heap.size+1) (.slice none 0 0) (.slice none 0 0) [] [] :=
      ⟨by rw [heap_old _ _ (by rw [size_alloc]; omega)]; exact heap_at _ _ rfl,heap_at _ _ (size_alloc _ _).symm,⟨rfl,.inl ⟨rfl,rfl⟩⟩,⟨rfl,.inl ⟨rfl,rfl⟩⟩,(fun i hi=>by simp [Value.ownBlock] at hi),Nat.le_refl _,by omega,by omega,(Ext.alloc' _ _).allocR _⟩
     have HCV:=Lib.hid hcv
     have HF:=Lib.hid (show (lo≤hi∧hi < 2 ^ B) from ⟨by omega,by omega⟩)
     obtain ⟨i0,z0,hi0,hz0,hz1,hz2,hzs⟩:=info_pc
     have door:∀ (W:World) (v6 v8:Value) (pre suf:List (Nat × Int)) (tm:Array Value),CovW w W w.heap.size (w.heap.size+1) v6 v8 pre suf→pre.length≤100→suf.length≤100→covL B 0 lo hi=pre++suf.reverse→tm[6]?=some (.pointer (some ⟨w.heap.size,0,none⟩))→tm[7]?=some (.bool true) →
      bodyPostD Tryz.prog Tryz.f211 (CoverPost w B lo hi) .ret { tmps:=tm,defers:=[{ target:=.fn (.func 248) #[.pointer (some ⟨w.heap.size+1,0,none⟩),.pointer (some ⟨w.heap.size,0,none⟩)],args:=#[] }] } W:=by
      intro W v6 v8 pre suf tm h hp hs hcv t6 t7
      refine leaves_cons (f:=248) (args:=#[.pointer (some ⟨w.heap.size+1,0,none⟩),.pointer (some ⟨w.heap.size,0,none⟩)]) (by simp) (by simp [go_sem]) ?_
      refine (CoverD_c w W _ _ v6 v8 pre suf .returning h (by omega) (by omega)).mono ?_
      rintro e u' w'' ⟨rfl,rfl,v',hk,ho,hE⟩
      have hc:=(cell_of hk 0).trans rfl
      exact ⟨.tuple #[v',.bool true],by simp [results,Tryz.results211,go_sem,t6,t7,hc],.inr ⟨HF.out,v',rfl,by rw [hcv]; exact ho,hE⟩⟩
     have HD:=Lib.hid door
     clear door hcv
     go_enter_defers Tryz.func211,Tryz.ntmps211
     go_wp2_with fail
     go_loopw [1,2,9] (fun s1 s2 s9 wr=>∃ (a b:Int) (l:Nat) (pre suf:List (Nat × Int)) (v6 v8:Value),s1=.int .u64 a∧s2=.int .u64 b∧s9=.int .i64 l∧l≤B∧0≤a∧a≤b∧b < 2 ^ (B - l)∧pre.length≤l∧suf.length≤l ∧
      covL B 0 lo hi=pre++(covL (B - l) l a b++suf.reverse)∧CovW w wr w.heap.size (w.heap.size+1) v6 v8 pre suf) (fun _ _ s9 _=>B - (intOf s9).toNat)
     case atStart=>exact ⟨lo,hi,0,[],[],_,_,rfl,rfl,rfl,Nat.zero_le _,hlo0,by omega,by rw [Nat.sub_zero]; omega,Nat.le_refl _,Nat.le_refl _,by simp,HCV.out⟩
     case round =>
      obtain ⟨a,b,l,pre,suf,v6,v8,rfl,rfl,rfl,hl,ha0,hab,hbb,hpl,hsl,hcov,hW⟩:=hrel
      have hpw2:=pow_bd (B - l) (by omega)
      have HC:=Lib.hid hcov
      have c6:=(cell_of hW.x6 0).trans rfl
      have c8:=(cell_of hW.x8 0).trans rfl
      have l6:=lt_of hW.x6
      have l8:=lt_of hW.x8
      have f6:=frozen_of hW.x6 0
      have f8:=frozen_of hW.x8 0
      have hsz:=hW.ext.size
      have HW:=Lib.hid hW
      clear hcov hW
      by_cases he:a=b
      · subst he
        go_wp2_with (at_builtin; refine wpList_appp _ (l,a) pre v6 w.heap.size 52 52 HW.out.o6 62 rfl _ _ rfl i0 z0 hi0 hz0 hz1 hz2 hzs Tryz.underlying62 rfl rfl (by omega) HW.out.ext.size ?_)
        intro v' w' hw1 hw2 hw3
        have hW1:=HW.out.app hw1 hw2 hw3
        have hk0:=HW.out.app0 hw2
        obtain ⟨pv,cv,rfl⟩:=own_sl hw1
        have W1:=Lib.hid hW1
        have j6:=(cell_of hk0 0).trans rfl
        have j6l:=lt_of hk0
        have j6f:=frozen_of hk0 0
        have k6:=(cell_of hW1.x6 0).trans rfl
        have k6l:=lt_of hW1.x6
        have k6f:=frozen_of hW1.x6 0
        clear hw1 hw2 hw3 hW1 hk0
        go_wp2
        refine HD.out _ _ _ _ _ _ W1.out.set ?_ ?_ ?_ rfl rfl
        · rw [List.length_append,List.length_singleton]; omega
        · omega
        · rw [HC.out,cov_self,List.append_assoc]
      · have hl2:l < B:=by
         rcases Nat.lt_or_ge l B with h | h
         · exact h
         · rw [show B - l=0 by omega] at hbb
           have:b < 1:=hbb
           omega
        have ha1:=and_1 a ha0 (by omega)
        have hb1:=and_1 b (by omega) (by omega)
        have hstep:=cov_step hl2 he
        have h3:(if a % 2=1 then a+1 else a) % 2=0∧a≤(if a % 2=1 then a+1 else a)∧(if a % 2=1 then a+1 else a)≤b:=by split <;> omega
        have h4:(if b % 2=0 then b - 1 else b) % 2=1∧(if b % 2=0 then b - 1 else b)≤b∧a≤(if b % 2=0 then b - 1 else b):=by split <;> omega
        have h5:(if a % 2=1 then a+1 else a)≤(if b % 2=0 then b - 1 else b)+1:=by split <;> split <;> omega
        have h6:(if a % 2=1 then [(l,a)] else []).length≤1∧(if b % 2=0 then [(l,b)] else []).length≤1:=by constructor <;> split <;> simp
        have h7:=rev_one (b % 2=0) (l,b)
        obtain ⟨a2,ha2⟩:∃ a2,(if a % 2=1 then a+1 else a)=a2:=⟨_,rfl⟩
        obtain ⟨b2,hb2⟩:∃ b2,(if b % 2=0 then b - 1 else b)=b2:=⟨_,rfl⟩
        obtain ⟨L,hL⟩:∃ L,(if a % 2=1 then [(l,a)] else [])=L:=⟨_,rfl⟩
        obtain ⟨R,hR⟩:∃ R,(if b % 2=0 then [(l,b)] else [])=R:=⟨_,rfl⟩
        rw [ha2] at h3 h5
        rw [hb2] at h4 h5
        rw [hL,hR] at h6
        rw [hR] at h7
        rw [ha2,hb2,hL,hR] at hstep
        obtain ⟨h31,h32,h33⟩:=h3
        obtain ⟨h41,h42,h43⟩:=h4
        have HS:=Lib.hid hstep
        have H6:=Lib.hid h6
        have H7:=Lib.hid h7
        have HA:=Lib.hid ha2
        have HBB:=Lib.hid hb2
        have HL:=Lib.hid hL
        have HR:=Lib.hid hR
        clear hstep h6 h7 ha2 hb2 hL hR
        go_upto_if 42 with (fail)
        go_cut [1] from 30 to 69 (fun s1 wx=>∃ v6':Value,s1=.int .u64 a2∧CovW w wx w.heap.size (w.heap.size+1) v6' v8 (pre++L) suf)
        case first =>
         have hA2:=HA.out
         have hL2:=HL.out
         by_cases ho:a % 2=1
         · rw [if_pos ho] at hA2 hL2
           subst hA2 hL2
           go_wp2_with (at_builtin; refine wpList_appp _ (l,a) pre v6 w.heap.size 52 52 HW.out.o6 62 rfl _ _ rfl i0 z0 hi0 hz0 hz1 hz2 hzs Tryz.underlying62 rfl rfl (by omega) HW.out.ext.size ?_)
           intro v' w' hw1 hw2 hw3
           have hW1:=HW.out.app hw1 hw2 hw3
           have hk0:=HW.out.app0 hw2
           obtain ⟨pv,cv,rfl⟩:=own_sl hw1
           have W1:=Lib.hid hW1
           have j6:=(cell_of hk0 0).trans rfl
           have j6l:=lt_of hk0
           have j6f:=frozen_of hk0 0
           clear hw1 hw2 hw3 hW1 hk0
           go_wp2
           go_meet
           exact ⟨_,rfl,W1.out⟩
         · rw [if_neg ho] at hA2 hL2
           subst hA2 hL2
           have ho2:(a % 2 == 1)=false:=by simp; omega
           go_wp2_with fail
           go_meet
           exact ⟨v6,rfl,by rw [List.append_nil]; exact HW.out⟩
        case rest =>
         obtain ⟨v6',rfl,hW2⟩:=hcut
         clear HW c6 c8 l6 l8 f6 f8 ha1
         have c8:=(cell_of hW2.x8 0).trans rfl
         have l8:=lt_of hW2.x8
         have f8:=frozen_of hW2.x8 0
         have HW2:=Lib.hid hW2
         clear hW2
         go_upto_if 53 with (fail)
         go_cut [2] from 30 to 69 (fun s2 wx=>∃ v8':Value,s2=.int .u64 b2∧CovW w wx w.heap.size (w.heap.size+1) v6' v8' (pre++L) (suf++R))
         case first =>
          have hB2:=HBB.out
          have hR2:=HR.out
          by_cases ho:b % 2=0
          · rw [if_pos ho] at hB2 hR2
            subst hB2 hR2
            go_wp2_with (at_builtin; refine wpList_appp _ (l,b) suf v8 w.heap.size 52 52 HW2.out.o8 62 rfl _ _ rfl i0 z0 hi0 hz0 hz1 hz2 hzs Tryz.underlying62 rfl rfl (by omega) HW2.out.ext.size ?_)
            intro v' w' hw1 hw2 hw3
            have hW1:=HW2.out.symm.app hw1 hw2 hw3
            have hk0:=HW2.out.symm.app0 hw2
            obtain ⟨pv,cv,rfl⟩:=own_sl hw1
            have W1:=Lib.hid hW1
            have j8:=(cell_of hk0 0).trans rfl
            have j8l:=lt_of hk0
            have j8f:=frozen_of hk0 0
            clear hw1 hw2 hw3 hW1 hk0
            go_wp2
            go_meet
            exact ⟨_,rfl,W1.out.symm⟩
          · rw [if_neg ho] at hB2 hR2
            subst hB2 hR2
            have ho2:(b % 2 == 0)=false:=by simp; omega
            go_wp2_with fail
            go_meet
            exact ⟨v8,rfl,by rw [List.append_nil]; exact HW2.out⟩
         case rest =>
          obtain ⟨v8',rfl,hW3⟩:=hcut
          clear HW2 c8 l8 f8 hb1
          have c6:=(cell_of hW3.x6 0).trans rfl
          have l6:=lt_of hW3.x6
          have f6:=frozen_of hW3.x6 0
          have HW3:=Lib.hid hW3
          clear hW3
          by_cases hlt:b2 < a2
          · obtain ⟨p6,n6,q6,hv6⟩:∃ p n c,v6'=.slice p n c:=by obtain ⟨p,c,h⟩:=own_sl HW3.out.o6; exact ⟨p,_,c,h⟩
            subst hv6
            go_wp2_with fail
            refine HD.out _ _ _ _ _ _ HW3.out.set ?_ ?_ ?_ rfl rfl
            · rw [List.length_append]; have:=H6.out.1; omega
            · rw [List.length_append]; have:=H6.out.2; omega
            · rw [HC.out,HS.out,if_pos hlt,List.reverse_append,H7.out,List.nil_append,List.append_assoc,List.append_assoc]
          · go_wp2_with fail
            go_roundw
            case rel =>
             refine ⟨a2 / 2,b2 / 2,l+1,pre++L,suf++R,v6',v8',by go_num,by go_num,by go_num,by omega,by omega,by omega, ?_, ?_, ?_, ?_,HW3.out⟩
             · have e:(2:Int) ^ (B - l)=2*2 ^ (B - (l+1)):=by rw [show B - l=B - (l+1)+1 by omega]; exact pw_succ _
               omega
             · rw [List.length_append]; have:=H6.out.1; omega
             · rw [List.length_append]; have:=H6.out.2; omega
             · rw [HC.out,HS.out,if_neg hlt,List.reverse_append,H7.out]; simp only [List.append_assoc]
            case measure=>simp [intOf]; omega
end Go.Proofs.YtmalncfcgcebhaaGreatDoor
namespace Go.Proofs.YtmalncfcgcebhaaGreatDoor
set_option linter.unusedVariables false
open Go.RowKit
attribute [local go_sem] Oper.semAt_some
def Uniq (C:Cfg) (B:Nat) (ls:Nat→List Int) (pt:Nat→Int→Int):Prop:=∀ (n:Nat) (i x:Int),n≤B→0≤i→i < keys C n→lvPt C n (ls n) i x→x=pt n i
def cvV (pt:Nat→Int→Int) (B:Nat) (lo hi:Int):List Int:=(covL B 0 lo hi).map fun p=>pt p.1 p.2
def PartsPost (w:World) (B:Nat) (pt:Nat→Int→Int) (lo hi:Int) (e:Ending) (w':World):Prop :=
 (hi < lo∧e=.returned (.tuple #[.slice none 0 0,.int .i64 1])∧Ext w w') ∨
 ((lo≤hi∧2 ^ B≤hi)∧e=.returned (.tuple #[.slice none 0 0,.int .i64 2])∧Ext w w') ∨
 ((lo≤hi∧hi < 2 ^ B)∧∃ v,e=.returned (.tuple #[v,.int .i64 0])∧w'.ownsRow w.heap.size 2 1 v (cvV pt B lo hi).length (ints (cvV pt B lo hi))∧Ext w w')
set_option maxRecDepth 20000 in
set_option maxHeartbeats 1000000 in
theorem PartsAsk_c (s g:Nat) (C:Cfg) (B:Nat) (L:Nat→Lev) (ls:Nat→List Int) (pt:Nat→Int→Int) (hU:Uniq C B ls pt) (b:Nat) (n:Nat) (i:Int) (hn:n≤B) (h0:0≤i) (h1:i < keys C n) (w:World) (h:KAt w s g C B L ls)
 (hb:w.cell? ⟨b,0,none⟩=some (.pointer (some ⟨s,0,none⟩))) (hbl:b < w.heap.size) :
 Calls Tryz.prog 212 #[.agg #[.int .i64 n,.int .u64 i],.pointer (some ⟨b,0,none⟩)] w fun e w'=>e=.returned (.int .i64 (pt n i))∧Ext w w':=by
 have HH:=Lib.hid h
 clear h
 go_enter Tryz.func212,Tryz.ntmps212
 go_wp2_with fail
 refine Calls.mono (KPoint_c s g C B L ls _ (HH.out.ext (Ext.alloc' _ _)) n hn i h0 h1) ?_
 rintro e w1 ⟨x,rfl,hx,hx1⟩
 have hE:Ext w w1:=(Ext.alloc' _ _).trans' hx1
 obtain rfl:=hU n i x hn h0 h1 hx
 go_wp2
 go_ret
 exact ⟨rfl,hE⟩
set_option maxRecDepth 100000 in
set_option maxHeartbeats 4000000 in
theorem Parts_c (s g:Nat) (C:Cfg) (B:Nat) (L:Nat→Lev) (ls:Nat→List Int) (w:World) (h:KAt w s g C B L ls) (pt:Nat→Int→Int) (hU:Uniq C B ls pt) (lo hi:Int) (hlo:U64 lo) (hhi:U64 hi) :
 Calls Tryz.prog 172 #[.pointer (some ⟨s,0,none⟩),.int .u64 lo,.int .u64 hi] w (PartsPost w B pt lo hi):=by
 have hmf:∀ (fn:Fn) (first cap:Array Value) (w:World),(Instr.makeFunc fn first cap).run Tryz.prog w=.ok (.func fn first cap) w:=fun _ _ _ _=>rfl
 have hok:=h.ok
 have hB:=h.hB
 have hb1:=hok.b1
 have hb2:=hok.b2
 have hls:=h.lts
 have HH:=Lib.hid h
 have hkk:∀ n:Nat,n≤B→keys C n=2 ^ (B - n):=fun n hn=>by unfold keys; rw [hB]; congr 1; omega
 have HB:=Lib.hid hB
 have HK:=Lib.hid hkk
 clear h hkk
 refine (callsIn_wide (n:=5)).1 ?_
 refine callsIn_of_wp_marks Tryz.func172 rfl trivial ?_ rfl
 simp only [Tryz.ntmps172,List.size_toArray,List.length_cons,List.length_nil,Nat.reduceAdd,Nat.reduceSub,Array.replicate_succ,Array.replicate_zero,List.push_toArray,List.append_toArray,List.nil_append,List.cons_append]
 by_cases hlt:hi < lo
 · gi_wp2_with fail
   exact ⟨_,results_tmp2 rfl _ _ _,.inl ⟨hlt,rfl,Ext.alloc' _ _⟩⟩
 · gi_wp2_with fail
   refine ⟨trivial,(callsIn_wide.2 (SKConfig_c s g C B L ls _ (HH.out.ext (Ext.alloc' _ _)))).mono ?_⟩
   rintro e w1 ⟨rfl,hx1⟩
   have hE1:Ext w w1:=(Ext.alloc' _ _).trans' hx1
   have hp1:=hx1.keep (heap_at w (.cells #[.pointer (some ⟨s,0,none⟩)] 40) rfl)
   clear hx1
   rw [HB.out]
   gi_wp2_with fail
   refine ⟨trivial,(callsIn_wide.2 (Cover_c B (by omega) (by omega) lo hi hlo hhi _)).mono ?_⟩
   rintro e w2 (⟨hc,rfl,hx2⟩ | ⟨hc,v,rfl,ho,hx2⟩)
   · gi_wp2_with fail
     exact ⟨_,results_tmp2 rfl _ _ _,.inr (.inl ⟨by omega,rfl,hE1.trans' hx2⟩)⟩
   · have hE2:=hE1.trans' hx2
     have hp2:=hx2.keep hp1
     obtain ⟨pv,cv,rfl⟩:=own_sl ho
     have hsz2:=hE2.size
     have HO:=Lib.hid ho
     clear ho hx2 hE1 hp1
     gi_wp2_with fail
     refine ⟨trivial,(callsIn_wide.2 (Values_c pv _ cv _)).mono ?_⟩
     rintro e w3 ⟨rfl,rfl⟩
     gi_wp2_with fail
     obtain ⟨W0,hW0⟩:∃ W0,((w2.alloc (.cells #[.func (.func 212) #[] #[.pointer (some ⟨w.heap.size,0,none⟩)]] 342)).alloc (.cells #[.slice none 0 0] 47)).alloc (.cells #[.slice pv (covL B 0 lo hi).length cv] 62)=W0:=⟨_,rfl⟩
     have hsz0:W0.heap.size=w2.heap.size+3:=by rw [← hW0]; simp
     have hx0:Ext w2 W0:=by rw [← hW0]; exact ((Ext.alloc' _ _).allocR _).allocR _
     have b0:Boxed W0 w2.heap.size 342 (.func (.func 212) #[] #[.pointer (some ⟨w.heap.size,0,none⟩)]):=by rw [← hW0]; exact ((Boxed.new w2 _ _).alloc _).alloc _
     have b1:Boxed W0 (w2.heap.size+1) 47 (.slice none 0 0):=by
      have:=(Boxed.new (w2.alloc (.cells #[.func (.func 212) #[] #[.pointer (some ⟨w.heap.size,0,none⟩)]] 342)) 47 (.slice none 0 0)).alloc (.cells #[.slice pv (covL B 0 lo hi).length cv] 62)
      rw [World.size_alloc] at this
      rw [← hW0]; exact this
     have b2:W0.cell? ⟨w2.heap.size+1+1,0,none⟩=some (.slice pv (covL B 0 lo hi).length cv):=by
      rw [← hW0]
      exact (cell_of (heap_at _ _ (by simp)) 0).trans rfl
     rw [hW0]
     clear hW0
     have hpcs:PcsAt w2.heap.size W0 (.slice pv (covL B 0 lo hi).length cv) (covL B 0 lo hi):=(PcsAt.of_own HO.out (Nat.le_refl _)).below hx0
     have hbd:=cov_bd B 0 lo hi hlo.1 hc.1 hc.2
     have hlv:=cov_lev B 0 lo hi
     have hlen:=cov_len B 0 lo hi
     have HBD:=Lib.hid hbd
     have HLV:=Lib.hid hlv
     have HLEN:=Lib.hid hlen
     have HC:=Lib.hid hc
     clear hbd hlv hc hlen
     refine wpIn_rangeFunc_ownH rfl (by decide) (gf:=250) (lb:=#[.pointer (some ⟨w2.heap.size+1+1,0,none⟩)]) rfl trivial (enters_of Tryz.func250 (by kernel_rfl) rfl)
      (values_stops 4 (w2.heap.size+1+1) w2.heap.size _ (covL B 0 lo hi) (by have:=HLEN.out; omega) W0 (by omega) (by omega) b2 hpcs) belowK_t (belowK_b (by omega)) (Below.refl _ _) (fun _=>rfl)
      (fun pre W=>((∃ v,Boxed W (w2.heap.size+1) 47 v∧W.ownsRow w2.heap.size 2 1 v (pre.map (fun x=>pt x.1.1 x.1.2)).length (ints (pre.map (fun x=>pt x.1.1 x.1.2)))∧True)∧Boxed W w2.heap.size 342 (.func (.func 212) #[] #[.pointer (some ⟨w.heap.size,0,none⟩)]))∧Below w2.heap.size w2 W)
      (fun _ _ _=>False)
      (OwnFrom.and (OwnFrom.and (Own.from (holdsRow_own w2.heap.size (w2.heap.size+1) 47 2 1 (fun pre:List {p:Nat × Int // p∈covL B 0 lo hi}=>(pre.map (fun x=>pt x.1.1 x.1.2)).length) (fun pre=>ints (pre.map (fun x=>pt x.1.1 x.1.2))) (fun _ _=>True)) _) (Own.from (boxed_own _ _ _) _)) (ownFrom_below (Nat.le_refl _) (by omega)))
      (fun _ _ _ _ _ hs _ _=>hs)
      ⟨⟨⟨_,b1,⟨rfl,.inl ⟨rfl,rfl⟩⟩,trivial⟩,b0⟩,hx0⟩
      (fun x a' W=>∃ Bx,w2.heap.size+1 < Bx∧W.heap[Bx]?=some (.cells #[.int .i64 (x.1.1:Int),.int .u64 x.1.2] 52 (0,0))∧a'={ tmps:=#[.pointer (some ⟨s,0,none⟩),.int .u64 lo,.int .u64 hi,.pointer (some ⟨w.heap.size,0,none⟩),undef,undef,.slice none 0 0,.int .i64 0,.slice pv (covL B 0 lo hi).length cv,.bool true,.pointer (some ⟨w2.heap.size,0,none⟩),.pointer (some ⟨w2.heap.size+1,0,none⟩),.pointer (some ⟨Bx,0,none⟩),.int .u64 lo,.int .u64 hi,.bool false,.tuple #[.slice pv (covL B 0 lo hi).length cv,.bool true],.pointer (some ⟨s,0,none⟩),.agg #[.int .i64 B,.int .i64 C.rows,.int .i64 C.width,.int .i64 C.mode,.int .u64 C.seed],.int .i64 B,.int .u64 lo,.int .u64 hi,.tuple #[.slice pv (covL B 0 lo hi).length cv,.bool true],.slice pv (covL B 0 lo hi).length cv,.bool true,.bool true,.bool false,.func (.func 212) #[] #[.pointer (some ⟨w.heap.size,0,none⟩)],.slice pv (covL B 0 lo hi).length cv,.func (.func 250) #[] #[.pointer (some ⟨w2.heap.size+1+1,0,none⟩)],.agg #[.int .i64 (x.1.1:Int),.int .u64 x.1.2],undef,undef,undef,undef,undef,undef,undef],defers:=[] })
      (fun x a' _ X Y row hs hg hr=>by
       obtain ⟨Bx,h1,h2,h3⟩:=hs
       refine ⟨Bx,h1,(hg.block Bx (lt_of h2) (fun e=>?_)).trans h2,h3⟩
       obtain ⟨_,o,ho,hc⟩:=hr Bx e.symm
       rw [h2] at ho; cases ho; cases hc)
      ?assign ?body ?done ?stop
     case assign =>
      rintro l pre x W K ⟨⟨⟨v,hv,hrow,_⟩,hf⟩,hB1⟩ hK
      have:=hB1.size
      have:=hv.lt
      dsimp only [pcEnc]
      gi_wp2
      exact hK _ _ ((KeepsOthers.alloc _ _).from _) ((Below.refl _ W).alloc hB1.size _) ⟨⟨⟨v,hv.alloc _,hrow.alloc _,trivial⟩,hf.alloc _⟩,hB1.alloc hB1.size _⟩ ⟨W.heap.size,hv.lt,heap_at _ _ rfl,rfl⟩
     case body =>
      rintro l pre x a' W hl _ ⟨⟨⟨v,hv,hrow,_⟩,hf⟩,hB1⟩ ⟨Bx,hBx,hx,rfl⟩ hlen
      have hlv:=HLV.out x.1 x.2
      have hbd:=HBD.out x.1 x.2
      have hlv2:x.1.1≤B:=by omega
      have hlt2:x.1.2 < keys C x.1.1:=by rw [HK.out _ hlv2]; rw [Nat.zero_add] at hbd; exact hbd.2
      have hK1:=(HH.out.ext hE2).ext hB1
      have hE4:Ext w2 W:=hB1
      have hp3:=hE4.keep hp2
      have hpl:=lt_of hp3
      have hpc:=(cell_of hp3 0).trans rfl
      have hvl:=hv.lt
      have hvc:=hv.cell
      have hfl:=hf.lt
      have hfc:=hf.cell
      have hxl:=lt_of hx
      have x0:=(cell_of hx 0).trans rfl
      have x1:=(cell_of hx 1).trans rfl
      have hsW:=hB1.size
      obtain ⟨pw,nw,cw,hvw⟩:∃ p n c,v=.slice p n c:=by obtain ⟨p,c,h⟩:=own_sl hrow; exact ⟨p,_,c,h⟩
      subst hvw
      obtain ⟨S,hS⟩:∃ S:Nat→Prop,S=fun k=>(Value.slice pw nw cw).ownBlock=some k:=⟨_,rfl⟩
      have nS1:¬ S (w2.heap.size+1):=by rw [hS]; exact fun e=>hv.not_row (by decide) hrow e.symm
      have nS0:¬ S w2.heap.size:=by rw [hS]; exact fun e=>hf.not_row (by decide) hrow e.symm
      have nSx:¬ S Bx:=by rw [hS]; exact own_notB hrow hx (by decide)
      have HS:=Lib.hid hS
      clear hS
      have HV:=Lib.hid hv
      have HF:=Lib.hid hf
      have HR:=Lib.hid hrow
      have HX:=Lib.hid hx
      clear hv hf hrow hx hp3
      gi_wp2
      refine pi_startR (fun w'=>∃ x:AftS S W,w'=x.w) [6] (by kernel_rfl) (fun ⟨_,_,hh⟩=>hh) (by kernel_rfl) ?_
      have hC0:=afs_drew S W
      refine pi_c 0 (by assumption) rfl (by kernel_rfl) (by kernel_rfl) (fun _ _ _ _ h=>h) (fun K hK=>?_)
      go_big_quiet_op
      refine hK _ ?_
      clear hK K
      refine pi_c 1 (by assumption) rfl (by kernel_rfl) (by kernel_rfl) (fun _ _ _ _ h=>h) (fun K hK=>?_)
      go_big_quiet_op
      refine hK _ ?_
      clear hK K
      refine pi_c 2 (by assumption) rfl (by kernel_rfl) (by kernel_rfl) (fun _ _ _ _ h=>h) (fun K hK=>?_)
      go_big_quiet_op
      refine hK _ ?_
      clear hK K
      refine pi_l 3 rfl (by kernel_rfl) (fun K hK=>?_)
      go_wp2_with fail
      refine Calls.mono (PartsAsk_c s g C B L ls pt hU w.heap.size x.1.1 x.1.2 hlv2 hbd.1 hlt2 _ (hK1.ext (Below.drew (Ext.refl W))) hpc hpl) ?_
      rintro e w3 ⟨rfl,hx3⟩
      go_wp2
      refine hK _ _ (fun _ h=>afs_step h hx3) ?_
      clear hK K
      refine pi_l 4 rfl (by kernel_rfl) (fun K hK=>?_)
      go_wp2
      refine hK _ _ (fun _ h=>afs_step h (Ext.alloc' _ _)) ?_
      clear hK K
      have hE3:Ext W w3:=Ext.trans' (Below.drew (Ext.refl W)) hx3
      have hv3:Boxed w3 (w2.heap.size+1) 47 _:=hE3.keep HV.out
      have hr3:=own_ext HR.out hE3
      have hs3:=hE3.size
      refine pi_l 5 rfl (by kernel_rfl) (fun K hK=>?_)
      go_wp2_with (at_builtin; refine wpList_app1 w3 (pt x.1.1 x.1.2) _ _ w2.heap.size 2 hr3 47 rfl _ _ rfl info_i64 Tryz.underlying47 rfl rfl ?a1 ?a2 ?_)
      case a1=>have:=HLEN.out; rw [List.length_map]; omega
      case a2=>omega
      intro v' w4 hown4 hg4 _
      obtain ⟨q1,q2,q3,q4,q5⟩:=Boxed.appended hv3 (by decide) hr3 (by omega) (by omega) hown4 hg4
      obtain ⟨pv4,nv4,cv4,hv4⟩:∃ p n c,v'=.slice p n c:=by obtain ⟨p,c,h⟩:=own_sl hown4; exact ⟨p,_,c,h⟩
      subst hv4
      have q1c:=q1.cell
      have q1l:=q1.lt
      have q1f:=q1.frozen
      have Q:=Lib.hid (And.intro q2 (And.intro q3 (And.intro q4 q5)))
      have hf4:Boxed w4 w2.heap.size 342 (.func (.func 212) #[] #[.pointer (some ⟨w.heap.size,0,none⟩)]):=((show Boxed w3 w2.heap.size _ _ from hE3.keep HF.out).alloc _).kept hg4 ((show Boxed w3 w2.heap.size _ _ from hE3.keep HF.out).not_row (by decide) hr3)
      have HF4:=Lib.hid hf4
      have hcl:∃ x:AftS S W,w4=x.w:=⟨⟨w4,mod_grown (hE3.mod S) hg4 (fun i hi=>by rw [HS.out]; exact hi)⟩,rfl⟩
      clear hown4 hg4 q1 q2 q3 q4 q5 hf4
      go_wp2
      refine hK _ _ (fun _ _=>hcl) ?_
      clear hK K
      refine pi_l 6 rfl (by kernel_rfl) (fun K hK=>?_)
      go_wp2
      refine hK _ _ (by simp) ?_
      clear hK K
      refine pi_end (by kernel_rfl) ?_
      obtain ⟨q2,q3,q4,q5⟩:=Q.out
      have hbw:Below w2.heap.size W (w4.setCell ⟨w2.heap.size+1,0,none⟩ (.slice pv4 nv4 cv4)):=Below.trans (hE3.mono hsW) q5
      refine ⟨((keepsO_ext hE3).trans q4).from _,hbw,⟨⟨_,q2, ?_,trivial⟩,HF4.out.other (by omega) _⟩,hB1.trans hbw⟩
      rw [List.map_append,List.length_append,List.length_map]
      exact q3
     case done =>
      rintro D xs W hD hxs ⟨⟨⟨v,hv,hrow,_⟩,hf⟩,hB1⟩ hK
      have hvl:=hv.lt
      have hvc:=hv.cell
      have hsW:=hB1.size
      have HR:=Lib.hid hrow
      clear hrow hv hf
      gi_wp2
      refine ⟨by simp,.inl ⟨_,_,rfl,run_takeDeferred hK, ?_⟩⟩
      have hcv:xs.map (fun x=>pt x.1.1 x.1.2)=cvV pt B lo hi:=by
       unfold cvV
       have hxs':xs.map (fun x:{p:Nat × Int // p∈covL B 0 lo hi}=>x.1)=covL B 0 lo hi:=hxs
       conv=>rhs; rw [← hxs']
       rw [List.map_map]; rfl
      have hr:=ownsRow_putObj HR.out (.deferred none) hK rfl
      rw [hcv] at hr
      exact ⟨_,results_tmp2 rfl _ _ _,.inr (.inr ⟨HC.out,v,rfl,own_mono hr hsz2,(hE2.trans' hB1).trans (belowK_b (w:=w) (Nat.le_refl _) W D _ _ (by omega) hK rfl rfl)⟩)⟩
     case stop =>
      rintro D c pre W _ _ h _
      exact h.elim
def RangePost (w:World) (B:Nat) (pt:Nat→Int→Int) (lo hi:Int) (e:Ending) (w':World):Prop :=
 ((hi < lo∧e=.returned (.tuple #[.int .i64 0,.int .i64 1]))∨((lo≤hi∧2 ^ B≤hi)∧e=.returned (.tuple #[.int .i64 0,.int .i64 2])) ∨
 ((lo≤hi∧hi < 2 ^ B)∧I64 (lsum (cvV pt B lo hi))∧e=.returned (.tuple #[.int .i64 (lsum (cvV pt B lo hi)),.int .i64 0])) ∨
 ((lo≤hi∧hi < 2 ^ B)∧¬ I64 (lsum (cvV pt B lo hi))∧e=.returned (.tuple #[.int .i64 0,.int .i64 4])))∧Ext w w'
set_option maxRecDepth 20000 in
set_option maxHeartbeats 2000000 in
theorem Range_c (s g:Nat) (C:Cfg) (B:Nat) (L:Nat→Lev) (ls:Nat→List Int) (w:World) (h:KAt w s g C B L ls) (pt:Nat→Int→Int) (hU:Uniq C B ls pt) (hI:∀ n i,I64 (pt n i)) (lo hi:Int) (hlo:U64 lo) (hhi:U64 hi) :
 Calls Tryz.prog 134 #[.pointer (some ⟨s,0,none⟩),.int .u64 lo,.int .u64 hi] w (RangePost w B pt lo hi):=by
 have hlen:(cvV pt B lo hi).length≤1152921504606846976:=by
  unfold cvV
  rw [List.length_map]
  have:=cov_len B 0 lo hi
  have h2:=h.ok.b2
  have h3:=h.hB
  omega
 have hall:∀ x∈cvV pt B lo hi,I64 x:=by
  intro x hx
  unfold cvV at hx
  simp only [List.mem_map] at hx
  obtain ⟨p,_,rfl⟩:=hx
  exact hI _ _
 have HH:=Lib.hid h
 have HL:=Lib.hid hlen
 have HA:=Lib.hid hall
 clear h hlen hall
 go_enter Tryz.func134,Tryz.ntmps134
 go_wp2_with fail
 refine Calls.mono (Parts_c s g C B L ls _ HH.out pt hU lo hi hlo hhi) ?_
 rintro e w1 (⟨hc,rfl,hx⟩ | ⟨hc,rfl,hx⟩ | ⟨hc,v,rfl,ho,hx⟩)
 · go_wp2_with fail
   go_ret2
   exact ⟨.inl ⟨hc,rfl⟩,hx⟩
 · go_wp2_with fail
   go_ret2
   exact ⟨.inr (.inl ⟨hc,rfl⟩),hx⟩
 · have HC:=Lib.hid hc
   clear hc
   go_wp2_with fail
   refine Calls.mono (Sum_c _ v w1 HA.out HL.out (IntsAt.of_row ho)) ?_
   rintro e w2 ⟨rfl,hx2⟩
   by_cases hT:I64 (lsum (cvV pt B lo hi))
   · rw [fitB_yes hT,fitN_yes hT]
     go_wp2_with fail
     go_ret2
     exact ⟨.inr (.inr (.inl ⟨HC.out,hT,rfl⟩)),hx.trans' hx2⟩
   · rw [fitB_no hT]
     go_wp2_with fail
     go_ret2
     exact ⟨.inr (.inr (.inr ⟨HC.out,hT,rfl⟩)),hx.trans' hx2⟩
end Go.Proofs.YtmalncfcgcebhaaGreatDoor
namespace Go.Proofs.YtmalncfcgcebhaaGreatDoor
set_option linter.unusedVariables false
open Go.RowKit
set_option maxRecDepth 20000 in
set_option maxHeartbeats 2000000 in
theorem Halves_0 (C:Cfg) (h:C.Ok) (j:Int) (hj0:0≤j) (hj1:j < keys C (0:Nat)) (w:World) :
 Calls Tryz.prog 175 #[.int .i64 C.bits,.agg #[.int .i64 0,.int .u64 j]] w fun e w'=>e=.returned (.tuple #[.agg #[.int .i64 0,.int .u64 0],.agg #[.int .i64 0,.int .u64 0],.bool false])∧Ext w w':=by
 have b1:=h.b1
 have b2:=h.b2
 go_enter Tryz.func175,Tryz.ntmps175
 go_wp2_with fail
 refine (is_c C h 0 (by omega) j hj0 hj1 _).mono ?_
 rintro e w1 ⟨rfl,hb⟩
 have hE:Ext w w1:=by (repeat' (first | exact Ext.refl _ | assumption | apply Ext.allocR | apply Ext.drewR | apply Ext.drewNR | (refine Ext.trans' ?_ (by assumption))))
 have hbx:w1.heap[w.heap.size]?=some (.cells #[.int .i64 0,.int .u64 j] 52 (0,0)):=by
  rw [hb.block _ (by simp only [size_alloc]; omega),heap_old _ _ (by simp only [size_alloc]; omega),heap_old _ _ (by rw [size_alloc]; omega)]
  exact heap_at _ _ rfl
 have hbl:w1.heap[w.heap.size+1]?=some (.cells #[.int .i64 0,.int .u64 0] 52 (0,0)):=by
  rw [hb.block _ (by simp only [size_alloc]; omega),heap_old _ _ (by simp only [size_alloc]; omega)]
  exact heap_at _ _ (by rw [size_alloc])
 have hbr:w1.heap[w.heap.size+2]?=some (.cells #[.int .i64 0,.int .u64 0] 52 (0,0)):=by
  rw [hb.block _ (by simp only [size_alloc]; omega)]
  exact heap_at _ _ (by simp only [size_alloc])
 have c0:=(cell_of hbx 0).trans rfl
 have c1:=(cell_of hbx 1).trans rfl
 have cl:=lt_of hbx
 have l0:=(cell_of hbl 0).trans rfl
 have l1:=(cell_of hbl 1).trans rfl
 have ll:=lt_of hbl
 have r0:=(cell_of hbr 0).trans rfl
 have r1:=(cell_of hbr 1).trans rfl
 have rl:=lt_of hbr
 have fl0:=frozen_of hbl 0
 have fl1:=frozen_of hbl 1
 have fr0:=frozen_of hbr 0
 have fr1:=frozen_of hbr 1
 clear hb
 go_wp2
 have hEf:Ext w ((((w1.setCell ⟨w.heap.size+1,0,none⟩ (.int .i64 0)).setCell ⟨w.heap.size+1,1,none⟩ (.int .u64 0)).setCell ⟨w.heap.size+1+1,0,none⟩ (.int .i64 0)).setCell ⟨w.heap.size+1+1,1,none⟩ (.int .u64 0)) :=
  (((hE.setR (p:=⟨w.heap.size+1,0,none⟩) (by show w.heap.size≤w.heap.size+1; omega) _).setR (p:=⟨w.heap.size+1,1,none⟩) (by show w.heap.size≤w.heap.size+1; omega) _).setR (p:=⟨w.heap.size+1+1,0,none⟩) (by show w.heap.size≤w.heap.size+1+1; omega) _).setR (p:=⟨w.heap.size+1+1,1,none⟩) (by show w.heap.size≤w.heap.size+1+1; omega) _
 have e1:((((w1.setCell ⟨w.heap.size+1,0,none⟩ (.int .i64 0)).setCell ⟨w.heap.size+1,1,none⟩ (.int .u64 0)).setCell ⟨w.heap.size+1+1,0,none⟩ (.int .i64 0)).setCell ⟨w.heap.size+1+1,1,none⟩ (.int .u64 0)).heap[w.heap.size+1]?=some (.cells #[.int .i64 0,.int .u64 0] 52 (0,0)):=by
  rw [setCell_other _ _ (by omega),setCell_other _ _ (by omega)]
  exact set2 hbl _ _
 have e2:((((w1.setCell ⟨w.heap.size+1,0,none⟩ (.int .i64 0)).setCell ⟨w.heap.size+1,1,none⟩ (.int .u64 0)).setCell ⟨w.heap.size+1+1,0,none⟩ (.int .i64 0)).setCell ⟨w.heap.size+1+1,1,none⟩ (.int .u64 0)).heap[w.heap.size+1+1]?=some (.cells #[.int .i64 0,.int .u64 0] 52 (0,0)) :=
  set2 (by rw [setCell_other _ _ (by omega),setCell_other _ _ (by omega)]; exact hbr) _ _
 generalize (((w1.setCell ⟨w.heap.size+1,0,none⟩ (.int .i64 0)).setCell ⟨w.heap.size+1,1,none⟩ (.int .u64 0)).setCell ⟨w.heap.size+1+1,0,none⟩ (.int .i64 0)).setCell ⟨w.heap.size+1+1,1,none⟩ (.int .u64 0)=Wf at *
 have r0:=(cell_of e1 0).trans rfl
 have r1:=(cell_of e1 1).trans rfl
 have r2:=(cell_of e2 0).trans rfl
 have r3:=(cell_of e2 1).trans rfl
 exact bodyPost_ret (v:=.tuple #[.agg #[.int .i64 0,.int .u64 0],.agg #[.int .i64 0,.int .u64 0],.bool false]) (by simp [results,Tryz.results175,go_sem,r0,r1,r2,r3]) rfl ⟨rfl,hEf⟩
theorem HalvesAny_c (C:Cfg) (h:C.Ok) (n:Nat) (hn:(n:Int)≤C.bits) (j:Int) (hj0:0≤j) (hj1:j < keys C n) (w:World) :
 Calls Tryz.prog 175 #[.int .i64 C.bits,.agg #[.int .i64 n,.int .u64 j]] w fun e w'=>∃ x u v:Int,e=.returned (.tuple #[.agg #[.int .i64 x,.int .u64 u],.agg #[.int .i64 x,.int .u64 v],.bool (decide (0 < n))])∧(∀ m:Nat,n=m+1→x=m∧u=2*j∧v=2*j+1)∧Ext w w':=by
 match n,hn,hj1 with
 | 0,hn,hj1 =>
   refine (Halves_0 C h j hj0 hj1 w).mono ?_
   rintro e w' ⟨rfl,hE⟩
   exact ⟨0,0,0,rfl,fun m hm=>by omega,hE⟩
 | m+1,hn,hj1 =>
   refine (Halves_c C h m hn j hj0 hj1 w).mono ?_
   rintro e w' ⟨rfl,hE⟩
   refine ⟨m,2*j,2*j+1,by simp,fun m' hm=>?_,hE⟩
   obtain rfl:m=m':=by omega
   exact ⟨rfl,rfl,rfl⟩
end Go.Proofs.YtmalncfcgcebhaaGreatDoor
namespace Go.Proofs.YtmalncfcgcebhaaGreatDoor
set_option linter.unusedVariables false
open Go.RowKit
theorem info_fd:∃ i z,Tryz.prog.info? 203=some i∧i.zero=some z∧i.size=3∧i.bytes=24∧z.cells.size=3:=by
 have h:(Tryz.prog.info? 203).map (fun i=>(i.zero,i.size,i.bytes))=some (some (.agg #[.int .i64 0,.int .u64 0,.int .i64 0]),3,24):=by kernel_rfl
 match hi:Tryz.prog.info? 203,h with
 | some i,h =>
   simp only [Option.map_some,Option.some.injEq,Prod.mk.injEq] at h
   exact ⟨i,_,rfl,h.1,h.2.1,h.2.2,rfl⟩
def hvRes (o:Option (List Fd)):List Fd × Int:=match o with | none=>([],7) | some l=>(l,0)
theorem heavyP_bad {pt:Nat→Int→Int} {least budget:Int} {B:Nat} (h:least < 1∨4096 < budget):heavyP pt least budget B=([],1):=by unfold heavyP; rw [if_pos h]
theorem heavyP_go {pt:Nat→Int→Int} {least budget:Int} {B:Nat} (h1:1≤least) (h2:budget≤4096):heavyP pt least budget B=hvRes (hvGo pt least budget (B+1) 0 [0] []):=by
 unfold heavyP hvRes
 rw [if_neg (by omega)] <;> cases hvGo pt least budget (B+1) 0 [0] [] <;> rfl
theorem hvGo_no {pt:Nat→Int→Int} {least budget:Int} {n:Nat} {asked:Int} {row:List Int} {out:List Fd} (h:budget < asked+row.length):hvGo pt least budget (n+1) asked row out=none:=by
 show (if _ then _ else _)=_
 rw [if_pos h]
theorem hvGo_yes {pt:Nat→Int→Int} {least budget:Int} {n:Nat} {asked:Int} {row:List Int} {out:List Fd} (h:asked+row.length≤budget):hvGo pt least budget (n+1) asked row out=hvGo pt least budget n (asked+row.length) (hvN pt least n row) (out++hvF pt least n row):=by
 conv=>lhs; unfold hvGo
 rw [if_neg (by omega)]
def HeavyPost (w:World) (B:Nat) (pt:Nat→Int→Int) (least budget:Int) (e:Ending) (w':World):Prop :=
 ∃ v,e=.returned (.tuple #[v,.int .i64 (heavyP pt least budget B).2])∧w'.ownsRow w.heap.size 203 3 v (heavyP pt least budget B).1.length (fdV (heavyP pt least budget B).1)∧Ext w w'
set_option maxRecDepth 20000 in
set_option maxHeartbeats 8000000 in
theorem Heavy_c (s g:Nat) (C:Cfg) (B:Nat) (L:Nat→Lev) (ls:Nat→List Int) (w:World) (h:KAt w s g C B L ls) (pt:Nat→Int→Int) (hU:Uniq C B ls pt) (least budget:Int) :
 Calls Tryz.prog 136 #[.pointer (some ⟨s,0,none⟩),.int .i64 least,.int .i64 budget] w (HeavyPost w B pt least budget):=by
 by_cases h1:least < 1
 · go_enter Tryz.func136,Tryz.ntmps136
   go_wp2
   go_ret2
   refine ⟨.slice none 0 0, ?_, ?_,Ext.refl _⟩
   · rw [heavyP_bad (.inl h1)]; rfl
   · rw [heavyP_bad (.inl h1)]; exact ⟨rfl,.inl ⟨rfl,rfl⟩⟩
 by_cases h2:4096 < budget
 · go_enter Tryz.func136,Tryz.ntmps136
   go_wp2
   go_ret2
   refine ⟨.slice none 0 0, ?_, ?_,Ext.refl _⟩
   · rw [heavyP_bad (.inr h2)]; rfl
   · rw [heavyP_bad (.inr h2)]; exact ⟨rfl,.inl ⟨rfl,rfl⟩⟩
 have hP:=heavyP_go (pt:=pt) (B:=B) (show 1≤least by omega) (show budget≤4096 by omega)
 have HP:=Lib.hid hP
 have hB:=h.hB
 have hok:=h.ok
 have hBd:B≤59:=by have:=hok.b2; omega
 have HB:=Lib.hid hB
 have HH:=Lib.hid h
 have HU:=Lib.hid hU
 have HOK:=Lib.hid hok
 clear hP hB h hU hok
 go_enter Tryz.func136,Tryz.ntmps136
 go_wp2_with fail
 refine (SKConfig_c s g C B L ls _ HH.out).mono ?_
 rintro e w1 ⟨rfl,hx1⟩
 rw [HB.out]
 have hE1:=hx1
 clear hx1
 have hsz1:=hE1.size
 have hr1:(w1.alloc (.cells #[.int .i64 (B:Nat),.int .u64 0] 52)).ownsRow w.heap.size 52 2 (.slice (some ⟨w1.heap.size,0,none⟩) 1 1) 1 (pcV (lvl B [0])):=own_newK w1 w.heap.size hsz1 52 2 1 _ (by decide) rfl
 have hE2:Ext w (w1.alloc (.cells #[.int .i64 (B:Nat),.int .u64 0] 52)):=hE1.allocR _
 have HR1:=Lib.hid hr1
 have HE2:=Lib.hid hE2
 clear hr1 hE2 hE1
 go_wp2_with fail
 generalize w1.alloc (.cells #[.int .i64 (B:Nat),.int .u64 0] 52)=wq at *
 go_loopw [9,10,11,34] (fun u9 u10 u11 u34 wr=>∃ (r m:Nat) (asked:Int) (row:List Int) (out:List Fd),r+m=B+1∧u34=.int .i64 r∧u9=.int .i64 asked∧0≤asked∧asked≤4096∧(out.length:Int)≤asked∧row.length≤8192∧(∀ i∈row,0≤i∧i < keys C (m - 1:Nat))∧hvGo pt least budget (B+1) 0 [0] []=hvGo pt least budget m asked row out∧wr.ownsRow w.heap.size 203 3 u10 out.length (fdV out)∧wr.ownsRow w.heap.size 52 2 u11 row.length (pcV (lvl (m - 1) row))∧Ext w wr) (fun _ _ _ u34 _=>B+1 - (intOf u34).toNat)
 case atStart=>exact ⟨0,B+1,0,[0],[],by omega,rfl,rfl,by omega,by omega,by simp,by simp,by
  intro i hi
  have:i=0:=by simpa using hi
  subst this
  rw [show B+1 - 1=B by omega,keys_top HB.out]; decide,rfl,⟨rfl,.inl ⟨rfl,rfl⟩⟩,HR1.out,HE2.out⟩
 case round =>
  clear HR1 HE2
  obtain ⟨r,m,asked,row,out,hrm,rfl,rfl,ha0,ha1,hol,hrl,hmem,hgo,howo,howr,hE⟩:=hrel
  obtain ⟨po,co,rfl⟩:=own_sl howo
  obtain ⟨pr,cr,rfl⟩:=own_sl howr
  have HO:=Lib.hid howo
  have HR:=Lib.hid howr
  have HGO:=Lib.hid hgo
  have HM:=Lib.hid hmem
  clear howo howr hgo hmem
  by_cases hlt:r < B+1
  · obtain ⟨n,rfl⟩:∃ n,m=n+1:=⟨m - 1,by omega⟩
    rw [Nat.add_sub_cancel] at HR HM
    by_cases hbg:budget < asked+row.length
    · have hres:heavyP pt least budget B=([],7):=by rw [HP.out,HGO.out,hvGo_no hbg]; rfl
      have HRES:=Lib.hid hres
      clear hres
      go_wp2
      go_ret2
      refine ⟨.slice none 0 0, ?_, ?_,hE⟩
      · rw [HRES.out]; rfl
      · rw [HRES.out]; exact ⟨rfl,.inl ⟨rfl,rfl⟩⟩
    · have hgo2:=HGO.out.trans (hvGo_yes (by omega))
      have HGO2:=Lib.hid hgo2
      clear hgo2 HGO
      obtain ⟨b1,hb1⟩:∃ b,b=wr.heap.size:=⟨_,rfl⟩
      have HBW:=Lib.hid (show w.heap.size≤b1 by rw [hb1]; exact hE.size)
      go_wp2_with fail
      go_loopw [10,12,45] (fun u10 u12 u45 wi=>∃ k,k≤row.length∧u45=.int .i64 k∧wi.ownsRow w.heap.size 203 3 u10 (out++hvF pt least n (row.take k)).length (fdV (out++hvF pt least n (row.take k)))∧wi.ownsRow b1 52 2 u12 (hvN pt least n (row.take k)).length (pcV (lvl (n - 1) (hvN pt least n (row.take k))))∧wi.ownsRow w.heap.size 52 2 (.slice pr row.length cr) row.length (pcV (lvl n row))∧(∀ j,(Value.slice pr row.length cr).ownBlock=some j→j < b1)∧Ext w wi∧b1≤wi.heap.size) (fun _ _ u45 _=>row.length - (intOf u45).toNat)
      case atStart=>exact ⟨0,Nat.zero_le _,rfl,by simpa [hvF] using HO.out,by simp [hvN]; exact ⟨rfl,.inl ⟨rfl,rfl⟩⟩,HR.out,fun j hj=>by rw [hb1]; exact own_lt HR.out hj,hE,by omega⟩
      case round =>
       clear HO HR
       obtain ⟨k,hk,rfl,ho,hx,hr,hjl,hEi,hsi⟩:=hrel
       obtain ⟨po2,co2,rfl⟩:=own_sl ho
       obtain ⟨px,cx,rfl⟩:=own_sl hx
       by_cases hkl:k < row.length
       · obtain ⟨gr,cr',hv,hbr,hgl,hcell⟩:=own_row_cells hr (by omega)
         cases hv
         have hcs:=pcV_lvl (n:=n) hkl
         have c0:=(hcell (k*2) (by omega)).trans hcs.1
         have c1:=(hcell (k*2+1) (by omega)).trans hcs.2
         have hts:=take_snocH hkl
         have hi:=HM.out row[k] (List.getElem_mem hkl)
         have htl:(row.take k).length=k:=by rw [List.length_take]; omega
         have HTS:=Lib.hid hts
         have HTL:=Lib.hid htl
         have HX:=Lib.hid hx
         have HO:=Lib.hid ho
         have HR:=Lib.hid hr
         have HJL:=Lib.hid hjl
         clear hts htl hx ho hr hcell hcs hjl hb1
         generalize row[k]=i at *
         generalize row.take k=pre at *
         generalize hlo:(out++hvF pt least n pre).length=lo at *
         generalize hlx:(hvN pt least n pre).length=lx at *
         have HLO:=Lib.hid hlo
         have HLX:=Lib.hid hlx
         clear hlo hlx
         go_wp2_with fail
         have hEq:Ext w (wr.alloc (.cells #[.int .i64 n,.int .u64 i] 52)):=hEi.allocR _
         have hnB:n≤B:=by omega
         refine Calls.mono (KPoint_c s g C B L ls _ (HH.out.ext hEq) n hnB i hi.1 hi.2) ?_
         rintro e w3 ⟨x,rfl,hp,hx3⟩
         obtain rfl:x=pt n i:=HU.out n i x hnB hi.1 hi.2 hp
         have hbp:w3.heap[wr.heap.size]?=some (.cells #[.int .i64 n,.int .u64 i] 52 (0,0)):=hx3.keep (heap_at _ _ rfl)
         have HO3:=Lib.hid (own_ext (HO.out.alloc (.cells #[.int .i64 n,.int .u64 i] 52)) hx3)
         have HX3:=Lib.hid (own_ext (HX.out.alloc (.cells #[.int .i64 n,.int .u64 i] 52)) hx3)
         have HR3:=Lib.hid (own_ext (HR.out.alloc (.cells #[.int .i64 n,.int .u64 i] 52)) hx3)
         have hE3:=hEq.trans' hx3
         have hs3:=hx3.size
         rw [size_alloc] at hs3
         clear hx3 hp hEq HO HX HR
         by_cases hle:pt n i < least
         · go_wp2
           go_roundw
           case rel=>exact ⟨k+1,by omega,by go_num,by rw [HTS.out,hvF_snoc_no hle,HLO.out]; exact HO3.out,by rw [HTS.out,hvN_snoc_no hle,HLX.out]; exact HX3.out,HR3.out,HJL.out,hE3,by omega⟩
           case measure=>simp [intOf]; omega
         · have hF:=hvF_snoc_yes (pt:=pt) (least:=least) (n:=n) (row:=pre) (i:=i) (by omega)
           have HF:=Lib.hid hF
           have hln:lo≤9000:=by
            have:=hvF_len pt least n pre
            have:=HTL.out
            rw [← HLO.out,List.length_append]
            omega
           have c0:=(cell_of hbp 0).trans rfl
           have c1:=(cell_of hbp 1).trans rfl
           have cl:=lt_of hbp
           clear hF
           have hs1:=hE3.size
           go_wp2_with (at_builtin; refine wpList_appK w3 3 24 1 (by decide) (by decide) [.int .i64 n,.int .u64 i,.int .i64 (pt n i)] rfl (by simp [Value.oneCell']) _ _ _ w.heap.size 203 _ HO3.out 139 rfl _ _ rfl info_fd Tryz.underlying139 _ rfl (by rfl) (by rfl) ?a1 ?a2 ?_)
           case a1=>omega
           case a2=>exact hs1
           intro v' w4 g1 g2 _
           have hx4:=own_grownT (HX3.out.alloc _) (HO3.out.alloc _) (by decide) g2
           have hr4:=own_grownT (HR3.out.alloc _) (HO3.out.alloc _) (by decide) g2
           have hE4:Ext w w4:=ext_grown hE3 g2 (fun j hj=>own_geB HO3.out hj)
           have hbp4:w4.heap[wr.heap.size]?=some (.cells #[.int .i64 n,.int .u64 i] 52 (0,0)):=by
            rw [g2.block _ (by rw [size_alloc]; omega) (fun e=>own_notB HO3.out hbp (by decide) e.symm),heap_old _ _ (by omega)]
            exact hbp
           have ho4:w4.ownsRow w.heap.size 203 3 v' (out++hvF pt least n (pre++[i])).length (fdV (out++hvF pt least n (pre++[i])))∧(out++hvF pt least n (pre++[i])).length=lo+1:=by
            rw [HF.out,← List.append_assoc,fdV_append,List.length_append (bs:=[(n,i,pt n i)]),HLO.out]
            exact ⟨g1,rfl⟩
           have hs4:=g2.size
           rw [size_alloc] at hs4
           obtain ⟨po3,co3,rfl⟩:=own_sl g1
           have HO4:=Lib.hid ho4.1
           have HL4:=Lib.hid ho4.2
           have HX4:=Lib.hid hx4
           have HR4:=Lib.hid hr4
           have hHv:Calls Tryz.prog 175 #[.int .i64 B,.agg #[.int .i64 n,.int .u64 i]] w4 fun e w'=>∃ x u v:Int,e=.returned (.tuple #[.agg #[.int .i64 x,.int .u64 u],.agg #[.int .i64 x,.int .u64 v],.bool (decide (0 < n))])∧(∀ m:Nat,n=m+1→x=m∧u=2*i∧v=2*i+1)∧Ext w4 w':=by
            have:=HalvesAny_c C HOK.out n (by have:=HB.out; omega) i hi.1 hi.2 w4
            rw [HB.out] at this
            exact this
           have HHV:=Lib.hid hHv
           have d0:=(cell_of hbp4 0).trans rfl
           have d1:=(cell_of hbp4 1).trans rfl
           have dl:=lt_of hbp4
           clear g1 g2 hx4 hr4 ho4 hHv HO3 HX3 HR3 hbp hbp4 c0 c1 cl
           go_wp2_with fail
           refine Calls.mono HHV.out ?_
           rintro e w5 ⟨x,u,v,rfl,hxuv,hx5⟩
           have HO5:=Lib.hid (own_ext HO4.out hx5)
           have HX5:=Lib.hid (own_ext HX4.out hx5)
           have HR5:=Lib.hid (own_ext HR4.out hx5)
           have hE5:=hE4.trans' hx5
           have hs5:=hx5.size
           clear hx5 HHV HO4 HX4 HR4 d0 d1 dl
           by_cases hn0:0 < n
           · obtain ⟨m,rfl⟩:∃ m,n=m+1:=⟨n - 1,by omega⟩
             obtain ⟨rfl,rfl,rfl⟩:=hxuv m rfl
             rw [decide_eq_true hn0]
             have HO6:=Lib.hid ((HO5.out.alloc (.cells #[.int .i64 (m:Int),.int .u64 (2*i)] 52)).alloc (.cells #[.int .i64 (m:Int),.int .u64 (2*i+1)] 52))
             have HX6:=Lib.hid ((HX5.out.alloc (.cells #[.int .i64 (m:Int),.int .u64 (2*i)] 52)).alloc (.cells #[.int .i64 (m:Int),.int .u64 (2*i+1)] 52))
             have HR6:=Lib.hid ((HR5.out.alloc (.cells #[.int .i64 (m:Int),.int .u64 (2*i)] 52)).alloc (.cells #[.int .i64 (m:Int),.int .u64 (2*i+1)] 52))
             have hE6:Ext w ((w5.alloc (.cells #[.int .i64 (m:Int),.int .u64 (2*i)] 52)).alloc (.cells #[.int .i64 (m:Int),.int .u64 (2*i+1)] 52)):=(hE5.allocR _).allocR _
             have hs6:((w5.alloc (.cells #[.int .i64 (m:Int),.int .u64 (2*i)] 52)).alloc (.cells #[.int .i64 (m:Int),.int .u64 (2*i+1)] 52)).heap.size=w5.heap.size+2:=by simp only [size_alloc]
             have hlx:lx≤20000:=by
              have:=hvN_len pt least (m+1) pre
              have:=HTL.out
              have:=HLX.out
              omega
             clear HO5 HX5 HR5
             go_wp2_with (at_builtin; (refine wpList_appK ((w5.alloc (.cells #[.int .i64 (m:Int),.int .u64 (2*i)] 52)).alloc (.cells #[.int .i64 (m:Int),.int .u64 (2*i+1)] 52)) 2 16 2 (by decide) (by decide) [.int .i64 m,.int .u64 (2*i),.int .i64 m,.int .u64 (2*i+1)] rfl (by simp [Value.oneCell']) _ _ _ b1 52 _ HX6.out 62 rfl _ _ rfl info_pc Tryz.underlying62 _ rfl (by rfl) (by rw [hs6]; rfl) ?b1 ?b2 ?_))
             case b1=>omega
             case b2=>omega
             intro v2 w6 g3 g4 _
             have ho6:=own_grownT (HO6.out.alloc _) (HX6.out.alloc _) (by decide) g4
             have hr6:=own_grownL (HR6.out.alloc _) (HX6.out.alloc _) HJL.out g4
             have hE7:Ext w w6:=ext_grown hE6 g4 (fun j hj=>Nat.le_trans HBW.out (own_geB HX6.out hj))
             have hs7:=g4.size
             rw [size_alloc] at hs7
             obtain ⟨px2,cx2,rfl⟩:=own_sl g3
             have HO7:=Lib.hid ho6
             have HR7:=Lib.hid hr6
             have G3:=Lib.hid g3
             clear ho6 hr6 g3 g4 HO6 HX6 HR6
             go_wp2
             go_roundw
             case rel=>exact ⟨k+1,by omega,by go_num,by rw [HTS.out]; exact HO7.out,by rw [HTS.out,hvN_snoc_yes (by omega),List.length_append,pcV_lvl_append,HLX.out]; exact G3.out,HR7.out,HJL.out,hE7,by omega⟩
             case measure=>simp [intOf]; omega
           · rw [decide_eq_false hn0]
             obtain rfl:n=0:=by omega
             go_wp2
             go_roundw
             case rel=>exact ⟨k+1,by omega,by go_num,by rw [HTS.out]; exact (HO5.out.alloc _).alloc _,by rw [HTS.out,show hvN pt least 0 (pre++[i])=hvN pt least 0 pre from rfl,HLX.out]; exact (HX5.out.alloc _).alloc _,(HR5.out.alloc _).alloc _,HJL.out,(hE5.allocR _).allocR _,by simp only [size_alloc]; omega⟩
             case measure=>simp [intOf]; omega
       · obtain rfl:k=row.length:=by omega
         have htk:row.take row.length=row:=List.take_length
         rw [htk] at hx ho ⊢
         generalize hlo:(out++hvF pt least n row).length=lo at *
         generalize hlx:(hvN pt least n row).length=lx at *
         have HLO:=Lib.hid hlo
         have HLX:=Lib.hid hlx
         clear hlo hlx
         have HX:=Lib.hid hx
         have HO:=Lib.hid ho
         clear hx ho hr htk
         go_wp2
         go_roundw
         case rel =>
          have h1:=hvF_len pt least n row
          have h2:=hvN_len pt least n row
          refine ⟨r+1,n,asked+row.length,hvN pt least n row,out++hvF pt least n row,by omega,by go_num,rfl,by omega,by omega,by rw [List.length_append]; omega,by omega, ?_,HGO2.out,by rw [HLO.out]; exact HO.out,by rw [HLX.out]; exact own_bmono HX.out HBW.out,hEi⟩
          intro j hj
          match n,hj with
          | 0,hj=>simp [hvN] at hj
          | n'+1,hj =>
            obtain ⟨i,hi,_,h3⟩:=hvN_mem hj
            have h4:=HM.out i hi
            have h5:=keys_half (C:=C) (m:=n') (by have:=HB.out; omega)
            show 0≤j∧j < keys C (n':Nat)
            rcases h3 with rfl | rfl <;> omega
         case measure=>simp [intOf]; omega
  · obtain rfl:m=0:=by omega
    have hres:heavyP pt least budget B=(out,0):=by rw [HP.out,HGO.out]; rfl
    have HRES:=Lib.hid hres
    clear hres
    go_wp2
    go_ret2
    refine ⟨.slice po out.length co, ?_, ?_,hE⟩
    · rw [HRES.out]; rfl
    · rw [HRES.out]; exact HO.out
end Go.Proofs.YtmalncfcgcebhaaGreatDoor
namespace Go.Proofs.YtmalncfcgcebhaaGreatDoor
set_option linter.unusedVariables false
open Go.RowKit
noncomputable def ptU (C:Cfg) (ls:Nat→List Int) (n:Nat) (i:Int):Int:=by classical exact if h:∃ x,I64 x∧lvPt C n (ls n) i x then h.choose else 0
theorem ptU_I (C:Cfg) (ls:Nat→List Int) (n:Nat) (i:Int):I64 (ptU C ls n i):=by
 unfold ptU
 split
 · rename_i h; exact h.choose_spec.1
 · unfold I64; omega
def wayF (pt:Nat→Int→Int):Nat→Int→Int→Option (List (Nat × Int))
 | 0,_,_=>some []
 | n+1,i,k=>if k≤pt n (2*i) then (wayF pt n (2*i) k).map (fun l=>(n,2*i) :: l) else if fitB (k - pt n (2*i))=true then (wayF pt n (2*i+1) (k - pt n (2*i))).map (fun l=>(n,2*i+1) :: l) else none
def wayFP (pt:Nat→Int→Int) (B:Nat) (k:Int):Option (List (Nat × Int)):=(wayF pt B 0 k).map (fun l=>(B,0) :: l)
theorem wayF_len (pt:Nat→Int→Int):∀ (n:Nat) (i k:Int) (l:List (Nat × Int)),wayF pt n i k=some l→l.length=n
 | 0,_,_,l,h=>by cases h; rfl
 | n+1,i,k,l,h=>by
   unfold wayF at h
   split at h
   · obtain ⟨m,hm,rfl⟩:=Option.map_eq_some_iff.1 h
     rw [List.length_cons,wayF_len pt n _ _ m hm]
   · split at h
     · obtain ⟨m,hm,rfl⟩:=Option.map_eq_some_iff.1 h
       rw [List.length_cons,wayF_len pt n _ _ m hm]
     · cases h
theorem wayFP_len {pt:Nat→Int→Int} {B:Nat} {k:Int} {l:List (Nat × Int)} (h:wayFP pt B k=some l):l.length=B+1:=by
 obtain ⟨m,hm,rfl⟩:=Option.map_eq_some_iff.1 h
 rw [List.length_cons,wayF_len pt B _ _ m hm]
def WayAtR (w:World) (B:Nat) (C:Cfg) (b:Nat) (pt:Nat→Int→Int) (k:Int) (t:Nat) (k':Int) (wr:World) (n:Nat) (i:Int) (dn:List (Nat × Int)):Prop :=
 t+n=B∧dn.length=t+1∧dn.getD t (0,0)=(n,i)∧wayFP pt B k=(wayF pt n i k').map (fun l=>dn++l)∧0≤i∧i < keys C n∧1≤k'∧I64 k' ∧
 (∃ cur,wr.heap[b]?=some (.cells cur 350 (0,0))∧cur.size=120)∧PCells wr b 0 dn∧Ext w wr
theorem way_nextR {w wr w6:World} {B:Nat} {C:Cfg} {b:Nat} {pt:Nat→Int→Int} {k:Int} {t:Nat} {k':Int} {m:Nat} {i:Int} {dn:List (Nat × Int)} (hW:WayAtR w B C b pt k t k' wr (m+1) i dn) (hE:Ext wr w6) (hB:C.bits=B) (hBd:B≤59) (hbw:w.heap.size≤b) {j k2:Int}
 (hj:(j=2*i∧k'≤pt m (2*i)∧k2=k')∨(j=2*i+1∧pt m (2*i) < k'∧I64 (k' - pt m (2*i))∧k2=k' - pt m (2*i))) :
 WayAtR w B C b pt k (t+1) k2 ((w6.setCell ⟨b,(t+1)*2,none⟩ (.int .i64 m)).setCell ⟨b,(t+1)*2+1,none⟩ (.int .u64 j)) m j (dn++[(m,j)]):=by
 obtain ⟨a1,a2,a3,a4,a5,a6,a7,a8,⟨cur,a9,a10⟩,a11,a12⟩:=hW
 have hkh:=keys_half (C:=C) (m:=m) (by omega)
 have hs:=way_set (hE.keep a9) a10 (a11.ext (lt_of a9) hE) (by omega) m j
 rw [a2] at hs
 refine ⟨by omega,by rw [List.length_append,a2]; rfl, ?_, ?_, ?_, ?_, ?_, ?_,hs.1,hs.2,((a12.trans' hE).setR (p:=⟨b,(t+1)*2,none⟩) hbw _).setR (p:=⟨b,(t+1)*2+1,none⟩) hbw _⟩
 · rw [← a2]; simp
 · rw [a4]
   conv=>lhs; unfold wayF
   rcases hj with ⟨rfl,h1,rfl⟩ | ⟨rfl,h1,h2,rfl⟩
   · rw [if_pos h1,Option.map_map]
     congr 1
     funext l
     simp
   · rw [if_neg (by omega),if_pos (fitB_yes h2),Option.map_map]
     congr 1
     funext l
     simp
 · rcases hj with ⟨rfl,_,_⟩ | ⟨rfl,_,_⟩ <;> omega
 · rcases hj with ⟨rfl,_,_⟩ | ⟨rfl,_,_⟩ <;> omega
 · rcases hj with ⟨_,h1,rfl⟩ | ⟨_,h1,_,rfl⟩ <;> omega
 · rcases hj with ⟨_,h1,rfl⟩ | ⟨_,h1,h2,rfl⟩
   · exact a8
   · exact h2
def WayRPost (w:World) (B:Nat) (T:Int) (pt:Nat→Int→Int) (k:Int) (e:Ending) (w':World):Prop :=
 ((k < 1∨T < k)∧e=.returned (.tuple #[.slice none 0 0,.int .i64 6])∧Ext w w') ∨
 ((1≤k∧k≤T)∧wayFP pt B k=none∧e=.returned (.tuple #[.slice none 0 0,.int .i64 4])∧Ext w w') ∨
 ((1≤k∧k≤T)∧∃ ps v base,wayFP pt B k=some ps∧e=.returned (.tuple #[v,.int .i64 0])∧w.heap.size≤base∧w'.ownsRow base 52 2 v ps.length (pcV ps)∧Ext w w')
set_option maxRecDepth 20000 in
set_option maxHeartbeats 8000000 in
theorem WayR_c (s g:Nat) (C:Cfg) (B:Nat) (L:Nat→Lev) (ls:Nat→List Int) (w:World) (h:KAt w s g C B L ls) (k:Int) (hk:I64 k) (pt:Nat→Int→Int) (hT:Uniq C B ls pt) (hPI:∀ n i,I64 (pt n i)) :
 Calls Tryz.prog 174 #[.pointer (some ⟨s,0,none⟩),.int .i64 k] w (WayRPost w B ((ls B).getD 0 0) pt k):=by
 have hok:=h.ok
 have hB:=h.hB
 have hBd:B≤59:=by have:=hok.b2; omega
 by_cases hk1:k < 1
 · go_enter Tryz.func174,Tryz.ntmps174
   go_wp2
   go_step3
   go_wp2
   go_ret2
   exact .inl ⟨.inl hk1,rfl,Ext.refl _⟩
 have hTot:=fun W' (he:Ext w W')=>KTotal_c s g C B L ls W' (h.ext he)
 generalize hTT:(ls B).getD 0 0=T at *
 by_cases hk2:T < k
 · go_enter Tryz.func174,Tryz.ntmps174
   go_wp2
   go_step3
   go_wp2_with fail
   refine (hTot _ (by (repeat' (first | exact Ext.refl _ | assumption | apply Ext.allocR | apply Ext.drewR | apply Ext.drewNR | (refine Ext.trans' ?_ (by assumption)))))).mono ?_
   rintro e w1 ⟨rfl,hx1⟩
   go_wp2
   go_ret2
   exact .inl ⟨.inr hk2,rfl,by (repeat' (first | exact Ext.refl _ | assumption | apply Ext.allocR | apply Ext.drewR | apply Ext.drewNR | (refine Ext.trans' ?_ (by assumption))))⟩
 have HB:=Lib.hid hB
 have HTT:=Lib.hid hTT
 clear hB hTT
 go_enter Tryz.func174,Tryz.ntmps174
 go_wp2
 go_step3
 go_wp2_with fail
 refine (hTot _ (by (repeat' (first | exact Ext.refl _ | assumption | apply Ext.allocR | apply Ext.drewR | apply Ext.drewNR | (refine Ext.trans' ?_ (by assumption)))))).mono ?_
 rintro e w1 ⟨rfl,hx1⟩
 have hE1:Ext w w1:=by (repeat' (first | exact Ext.refl _ | assumption | apply Ext.allocR | apply Ext.drewR | apply Ext.drewNR | (refine Ext.trans' ?_ (by assumption))))
 clear hx1 hTot
 go_wp2_with fail
 refine (SKConfig_c s g C B L ls _ (h.ext ?hx)).mono ?_
 case hx=>exact hE1.trans' (by (repeat' (first | exact Ext.refl _ | assumption | apply Ext.allocR | apply Ext.drewR | apply Ext.drewNR | (refine Ext.trans' ?_ (by assumption)))))
 rintro e w2 ⟨rfl,hx2⟩
 have hE2:Ext w w2:=hE1.trans' (by (repeat' (first | exact Ext.refl _ | assumption | apply Ext.allocR | apply Ext.drewR | apply Ext.drewNR | (refine Ext.trans' ?_ (by assumption)))))
 clear hx2 hE1
 go_upto_region 5 with (fail)
 obtain ⟨w3,hw3⟩:∃ w3,w2.alloc (.cells Tryz.zeroCells350 350)=w3:=⟨_,rfl⟩
 have hx3:Ext w2 w3:=by rw [← hw3]; exact Ext.alloc' _ _
 have hb3:w3.heap[w2.heap.size]?=some (.cells Tryz.zeroCells350 350 (0,0)):=by rw [← hw3]; exact heap_at _ _ rfl
 rw [hw3]
 clear hw3
 have hE3:=hE2.trans' hx3
 have hzs:Tryz.zeroCells350.size=120:=by kernel_rfl
 have hz0:Tryz.zeroCells350[0]?=some (.int .i64 0):=by kernel_rfl
 have hz1:Tryz.zeroCells350[1]?=some (.int .u64 0):=by kernel_rfl
 generalize Tryz.zeroCells350=zc at *
 have z0:=(cell_of hb3 0).trans hz0
 have z1:=(cell_of hb3 1).trans hz1
 have f0:=frozen_of hb3 0
 have f1:=frozen_of hb3 1
 have zl:=lt_of hb3
 have hbE:=hE2.size
 generalize hbb:w2.heap.size=b at *
 have hw0:=way_set hb3 hzs (dn:=[]) (fun k hk=>by simp at hk) (by simp) B 0
 simp only [List.length_nil,Nat.zero_mul,Nat.zero_add,List.nil_append] at hw0
 have hW0:WayAtR w B C b pt k 0 k ((w3.setCell ⟨b,0,none⟩ (.int .i64 (B:Nat))).setCell ⟨b,1,none⟩ (.int .u64 0)) B 0 [(B,0)] :=
  ⟨by omega,rfl,rfl,rfl,Int.le_refl 0,by have:=keys_bd C hok B (Int.natCast_nonneg B); omega,by omega,hk,hw0.1,hw0.2,(hE3.setR (p:=⟨b,0,none⟩) hbE _).setR (p:=⟨b,1,none⟩) hbE _⟩
 rw [← HB.out] at hW0
 have HW0:=Lib.hid hW0
 clear hz0 hz1 hw0 hW0
 go_wp2
 go_step3
 go_wp2
 have HT:=Lib.hid hT
 have HPI:=Lib.hid hPI
 clear hT hPI
 go_loopw [1,8] (fun u1 u8 wr=>∃ (t:Nat) (k':Int) (n:Nat) (i:Int) (dn:List (Nat × Int)),u1=.int .i64 k'∧u8=.int .i64 t∧WayAtR w B C b pt k t k' wr n i dn) (fun _ u8 _=>B - (intOf u8).toNat)
 case atStart=>exact ⟨0,k,B,0,[(B,0)],rfl,rfl,HW0.out⟩
 case round =>
  clear HW0
  obtain ⟨t,k',n,i,dn,rfl,rfl,hW⟩:=hrel
  obtain ⟨w1',w2',w3',w4',w5',w6',w7',w8',w9',w10',w11'⟩:=hW
  obtain ⟨cur,hcb,hcs⟩:=w9'
  have hp:=w10' t (by omega)
  rw [w3',Nat.zero_add] at hp
  obtain ⟨q0,q1⟩:=hp
  have ql:=lt_of hcb
  cases n with
  | zero =>
    have hdl:wayFP pt B k=some dn:=by rw [w4']; simp [wayF]
    have hcl:=fun W' (he:Ext wr W')=>CloneP_c b (60 - 0) dn W' (w10'.ext ql he) (Nat.lt_of_lt_of_le ql he.size) (by omega)
    rw [w2'] at hcl
    have HDL:=Lib.hid hdl
    have HCL:=Lib.hid hcl
    have hsl:=fun W'=>run_slice60 b t (by omega) W'
    clear hdl hcl
    go_wp2_with fail
    refine (HCL.out _ (Ext.refl _)).mono ?_
    rintro e w5 ⟨v5,rfl,ho5,hx5⟩
    clear hsl
    go_wp2
    go_ret2
    exact .inr (.inr ⟨⟨by omega,by omega⟩,dn,v5,wr.heap.size,HDL.out,rfl,w11'.size,by rw [w2']; exact ho5,w11'.trans' hx5⟩)
  | succ m =>
    have hnn:((m+1:Nat):Int)=(m:Int)+1:=by omega
    have hmb:((m+1:Nat):Int)≤C.bits:=by have:=HB.out; omega
    have hHV:∀ W',Calls Tryz.prog 175 #[.int .i64 C.bits,.agg #[.int .i64 ((m:Int)+1),.int .u64 i]] W' fun e w'=>e=.returned (.tuple #[.agg #[.int .i64 m,.int .u64 (2*i)],.agg #[.int .i64 m,.int .u64 (2*i+1)],.bool true])∧Ext W' w':=fun W'=>by
     have:=Halves_c C hok m hmb i w5' w6' W'
     rw [hnn] at this
     exact this
    go_wp2_with fail
    refine (hHV _).mono ?_
    rintro e w4 ⟨rfl,hx4⟩
    clear hHV
    go_upto_region 9 with (fail)
    have hr4:Ext wr w4:=by (repeat' (first | exact Ext.refl _ | assumption | apply Ext.allocR | apply Ext.drewR | apply Ext.drewNR | (refine Ext.trans' ?_ (by assumption))))
    have hkh:=keys_half (C:=C) (m:=m) hmb
    have hl5:=(heap_old (w4.alloc (.cells #[.int .i64 m,.int .u64 (2*i)] 52)) (.cells #[.int .i64 m,.int .u64 (2*i+1)] 52) (n:=w4.heap.size) (by rw [size_alloc]; omega)).trans (heap_at w4 (.cells #[.int .i64 m,.int .u64 (2*i)] 52) rfl)
    have hr5:=heap_at (w4.alloc (.cells #[.int .i64 m,.int .u64 (2*i)] 52)) (.cells #[.int .i64 m,.int .u64 (2*i+1)] 52) (n:=w4.heap.size+1) (by rw [size_alloc])
    have hx5:Ext w4 ((w4.alloc (.cells #[.int .i64 m,.int .u64 (2*i)] 52)).alloc (.cells #[.int .i64 m,.int .u64 (2*i+1)] 52)):=(Ext.alloc' _ _).allocR _
    generalize (w4.alloc (.cells #[.int .i64 m,.int .u64 (2*i)] 52)).alloc (.cells #[.int .i64 m,.int .u64 (2*i+1)] 52)=w5 at *
    have hE5:Ext wr w5:=hr4.trans' hx5
    have v0:=(cell_of hl5 0).trans rfl
    have v1:=(cell_of hl5 1).trans rfl
    have vl:=lt_of hl5
    clear hx4 hx5 hr4 q0 q1 ql
    have hK5:=h.ext (w11'.trans' hE5)
    have ht59:t < 59:=by omega
    go_wp2_with fail
    refine Calls.mono (KPoint_c s g C B L ls _ hK5 m (by omega) (2*i) (by omega) (by omega)) ?_
    rintro e w6 ⟨x,rfl,hpt,hx6⟩
    have hxp:=HT.out m (2*i) x (by omega) (by omega) (by omega) hpt
    have hpi:=HPI.out m (2*i)
    have hw4:=w4'
    have hE6:=hE5.trans' hx6
    have hl6:=hx6.keep hl5
    have hr6:=hx6.keep hr5
    have hc6:=hE6.keep hcb
    have hW:WayAtR w B C b pt k t k' wr (m+1) i dn:=⟨w1',w2',w3',w4',w5',w6',w7',w8',⟨cur,hcb,hcs⟩,w10',w11'⟩
    subst hxp
    have hn1:=fun (W':World) (hE':Ext wr W') (j k2:Int) hj=>way_nextR (j:=j) (k2:=k2) hW hE' HB.out hBd hbE hj
    have HN1:=Lib.hid hn1
    obtain ⟨o0,ho0⟩:∃ o0,cur[(t+1)*2]?=some o0:=⟨_,Array.getElem?_eq_getElem (by omega)⟩
    obtain ⟨o1,ho1⟩:∃ o1,cur[(t+1)*2+1]?=some o1:=⟨_,Array.getElem?_eq_getElem (by omega)⟩
    have u0:=(cell_of hc6 ((t+1)*2)).trans ho0
    have u1:=(cell_of hc6 ((t+1)*2+1)).trans ho1
    have g0:=frozen_of hc6 ((t+1)*2)
    have g1:=frozen_of hc6 ((t+1)*2+1)
    have gl:=lt_of hc6
    have v0:=(cell_of hl6 0).trans rfl
    have v1:=(cell_of hl6 1).trans rfl
    have vl:=lt_of hl6
    have y0:=(cell_of hr6 0).trans rfl
    have y1:=(cell_of hr6 1).trans rfl
    have yl:=lt_of hr6
    have HW4:=Lib.hid hw4
    clear hw4 w4' hn1 hW hpt hK5 hl5 hr5 w10' hcb hx6
    generalize hP:pt m (2*i)=P at *
    by_cases hle:k'≤P
    · go_wp2_with fail
      go_roundw
      case rel=>exact ⟨t+1,k',m,2*i,dn++[(m,2*i)],rfl,by go_num,HN1.out _ hE6 _ _ (.inl ⟨rfl,hle,rfl⟩)⟩
      case measure=>simp [intOf]; omega
    · have hkI:I64 k':=w8'
      have hM:=Minus_c k' P hkI hpi
      by_cases hI:I64 (k' - P)
      rotate_left
      · rw [fitB_no hI] at hM
        have hno:wayFP pt B k=none:=by
         rw [HW4.out]
         conv=>lhs; unfold wayF
         rw [if_neg (by omega),if_neg (by rw [hP,fitB_no hI]; decide)]
         rfl
        have HNO:=Lib.hid hno
        have HM:=Lib.hid hM
        clear hM hno hI
        go_wp2_with fail
        refine (HM.out _).mono ?_
        rintro e w7 ⟨rfl,hx7⟩
        have hE7:Ext w6 w7:=by (repeat' (first | exact Ext.refl _ | assumption | apply Ext.allocR | apply Ext.drewR | apply Ext.drewNR | (refine Ext.trans' ?_ (by assumption))))
        go_wp2
        go_ret2
        exact .inr (.inl ⟨⟨by omega,by omega⟩,HNO.out,rfl,w11'.trans' (hE6.trans' hE7)⟩)
      rw [fitB_yes hI,fitN_yes hI] at hM
      have HII:=Lib.hid hI
      clear hI
      have HM:=Lib.hid hM
      clear hM
      go_wp2_with fail
      refine (HM.out _).mono ?_
      rintro e w7 ⟨rfl,hx7⟩
      have hE7:Ext w6 w7:=by (repeat' (first | exact Ext.refl _ | assumption | apply Ext.allocR | apply Ext.drewR | apply Ext.drewNR | (refine Ext.trans' ?_ (by assumption))))
      have hc7:=hE7.keep hc6
      have hr7:=hE7.keep hr6
      clear hx7 u0 u1 g0 g1 gl v0 v1 vl y0 y1 yl
      have u0:=(cell_of hc7 ((t+1)*2)).trans ho0
      have u1:=(cell_of hc7 ((t+1)*2+1)).trans ho1
      have g0:=frozen_of hc7 ((t+1)*2)
      have g1:=frozen_of hc7 ((t+1)*2+1)
      have gl:=lt_of hc7
      have y0:=(cell_of hr7 0).trans rfl
      have y1:=(cell_of hr7 1).trans rfl
      have yl:=lt_of hr7
      go_wp2_with fail
      go_roundw
      case rel=>exact ⟨t+1,k' - P,m,2*i+1,dn++[(m,2*i+1)],rfl,by go_num,HN1.out _ (hE6.trans' hE7) _ _ (.inr ⟨rfl,by omega,HII.out,rfl⟩)⟩
      case measure=>simp [intOf]; omega
def quanR (pt:Nat→Int→Int) (B:Nat) (T k:Int):Int × Int:=if k < 1∨T < k then (0,6) else match wayFP pt B k with | none=>(0,4) | some ps=>((ps.getD B (0,0)).2,0)
set_option maxRecDepth 20000 in
set_option maxHeartbeats 4000000 in
theorem Quan_of (s:Nat) (B:Nat) (hBd:B≤59) (pt:Nat→Int→Int) (T k:Int) (w:World) (h:∀ W',Ext w W'→Calls Tryz.prog 174 #[.pointer (some ⟨s,0,none⟩),.int .i64 k] W' (WayRPost W' B T pt k)) :
 Calls Tryz.prog 135 #[.pointer (some ⟨s,0,none⟩),.int .i64 k] w fun e w'=>e=.returned (.tuple #[.int .u64 (quanR pt B T k).1,.int .i64 (quanR pt B T k).2])∧Ext w w':=by
 have HW:=Lib.hid h
 clear h
 go_enter Tryz.func135,Tryz.ntmps135
 go_wp2_with fail
 refine (HW.out _ (by (repeat' (first | exact Ext.refl _ | assumption | apply Ext.allocR | apply Ext.drewR | apply Ext.drewNR | (refine Ext.trans' ?_ (by assumption)))))).mono ?_
 rintro e w1 (⟨hr,rfl,hx⟩ | ⟨hr,hn,rfl,hx⟩ | ⟨hr,ps,v,base,hsm,rfl,hbs,ho,hx⟩)
 · have HQ:Hid (quanR pt B T k=(0,6)):=Lib.hid (by unfold quanR; rw [if_pos hr])
   clear hr
   go_wp2
   go_ret2
   exact ⟨by rw [HQ.out]; rfl,by (repeat' (first | exact Ext.refl _ | assumption | apply Ext.allocR | apply Ext.drewR | apply Ext.drewNR | (refine Ext.trans' ?_ (by assumption))))⟩
 · have HQ:Hid (quanR pt B T k=(0,4)):=Lib.hid (by unfold quanR; rw [if_neg (by omega),hn])
   clear hr hn
   go_wp2
   go_ret2
   exact ⟨by rw [HQ.out]; rfl,by (repeat' (first | exact Ext.refl _ | assumption | apply Ext.allocR | apply Ext.drewR | apply Ext.drewNR | (refine Ext.trans' ?_ (by assumption))))⟩
 · have hlen:=wayFP_len hsm
   have HQ:Hid (quanR pt B T k=((ps.getD B (0,0)).2,0)):=Lib.hid (by unfold quanR; rw [if_neg (by omega),hsm])
   obtain ⟨g',cap,rfl,hgl,hpc⟩:=own_pieces ho (by omega)
   obtain ⟨_,q1⟩:=hpc B (by omega)
   rw [Nat.zero_add] at q1
   have hE:Ext w w1:=by (repeat' (first | exact Ext.refl _ | assumption | apply Ext.allocR | apply Ext.drewR | apply Ext.drewNR | (refine Ext.trans' ?_ (by assumption))))
   clear ho hpc hx hr hsm
   rw [hlen]
   clear hlen
   go_wp2
   go_ret2
   exact ⟨by rw [HQ.out]; rfl,hE⟩
theorem kth_in {l:List Int} {k:Nat} {x:Int} (h:IsKth l k x):x∈l:=by
 obtain ⟨h1,h2⟩:=h
 have:0 < sameN x l:=by omega
 unfold sameN at this
 obtain ⟨y,hy⟩:=List.exists_mem_of_length_pos this
 simp only [List.mem_filter] at hy
 obtain ⟨hy1,hy2⟩:=hy
 have:y=x:=by simpa using hy2
 rw [← this]; exact hy1
set_option maxRecDepth 20000 in
set_option maxHeartbeats 2000000 in
theorem SPoint_no (s b c:Nat) (C:Cfg) (lv:Int) (R W:Nat) (l:List Int) (key:Int) (w:World) (h:SAt w s b c C lv R W l) (hk1:keys C lv≤key) :
 Calls Tryz.prog 325 #[.pointer (some ⟨s,0,none⟩),.int .u64 key] w fun e w'=>e=.returned (.tuple #[.int .i64 0,.int .i64 2])∧Ext w w':=by
 have hlt:=h.lts
 have c0:=(cell_of h.ex 0).trans rfl
 have c1:=(cell_of h.ex 1).trans rfl
 have c2:=(cell_of h.ex 2).trans rfl
 have c3:=(cell_of h.ex 3).trans rfl
 have c4:=(cell_of h.ex 4).trans rfl
 have c5:=(cell_of h.ex 5).trans rfl
 have c6:=(cell_of h.ex 6).trans rfl
 have hnil:=fun (x:World) (p:Option Addr) (n k:Nat)=>Lib.run_eql_slice_nil (P:=Tryz.prog) x 54 3 p n k 0 0 Tryz.underlying54
 go_enter Tryz.func325,Tryz.ntmps325
 go_wp2
 have hC0:=af_drew w
 refine pi_start (fun w'=>∃ x:After w,w'=x.w) [] (by kernel_rfl) ?_
 refine pi_t 0 rfl (by kernel_rfl) (by kernel_rfl) (fun _ _ _ _ h=>h) (fun K hK=>?_)
 go_big_quiet_op
 refine hK _ ?_
 clear hK K
 refine pi_t 1 rfl (by kernel_rfl) (by kernel_rfl) (fun _ _ _ _ h=>h) (fun K hK=>?_)
 go_big_quiet_op
 refine hK _ ?_
 clear hK K
 refine pi_t 2 rfl (by kernel_rfl) (by kernel_rfl) (fun _ _ _ _ h=>h) (fun K hK=>?_)
 go_big_quiet_op
 refine hK _ ?_
 clear hK K
 refine pi_c 3 (by assumption) rfl (by kernel_rfl) (by kernel_rfl) (fun _ _ _ _ h=>h) (fun K hK=>?_)
 go_big_quiet_op
 refine hK _ ?_
 clear hK K
 refine pi_t 4 rfl (by kernel_rfl) (by kernel_rfl) (fun _ _ _ _ h=>h) (fun K hK=>?_)
 go_big_quiet_op
 refine hK _ ?_
 clear hK K
 refine pi_t 5 rfl (by kernel_rfl) (by kernel_rfl) (fun _ _ _ _ h=>h) (fun K hK=>?_)
 go_big_quiet_op
 refine hK _ ?_
 clear hK K
 refine pi_t 6 rfl (by kernel_rfl) (by kernel_rfl) (fun _ _ _ _ h=>h) (fun K hK=>?_)
 go_big_quiet_op
 refine hK _ ?_
 clear hK K
 refine pi_c 7 (by assumption) rfl (by kernel_rfl) (by kernel_rfl) (fun _ _ _ _ h=>h) (fun K hK=>?_)
 go_big_quiet_op
 refine hK _ ?_
 clear hK K
 refine pi_t 8 rfl (by kernel_rfl) (by kernel_rfl) (fun _ _ _ _ h=>h) (fun K hK=>?_)
 go_big_quiet_op
 refine hK _ ?_
 clear hK K
 refine pi_l 9 rfl (by kernel_rfl) (fun K hK=>?_)
 go_wp2_with (go_at_call 24; refine (Columns_no C h.ok lv key h.lo h.hi hk1 _).mono ?_; rintro e w1 ⟨rfl,hx0⟩)
 refine hK _ _ (fun _ h=>af_step h hx0) ?_
 clear hK K
 refine pi_t 10 rfl (by kernel_rfl) (by kernel_rfl) (fun _ _ _ _ h=>h) (fun K hK=>?_)
 go_big_quiet_op
 refine hK _ ?_
 clear hK K
 refine pi_end (by kernel_rfl) ?_
 have hx:Ext w w1:=Ext.trans' (Below.drew (Ext.refl w)) hx0
 go_wp2
 go_ret2
 exact ⟨rfl,hx⟩
set_option maxRecDepth 20000 in
theorem KPoint_key (s g:Nat) (C:Cfg) (B:Nat) (L:Nat→Lev) (ls:Nat→List Int) (w:World) (h:KAt w s g C B L ls) (n:Nat) (hn:n≤B) (key:Int) (hk:U64 key) (hk1:keys C n≤key) :
 Calls Tryz.prog 133 #[.pointer (some ⟨s,0,none⟩),.agg #[.int .i64 n,.int .u64 key]] w fun e w'=>e=.returned (.tuple #[.int .i64 0,.int .i64 2])∧Ext w w':=by
 cases hx:isX C n with
 | true =>
   have HX:=Lib.hid hx
   clear hx
   go_enter Tryz.func133,Tryz.ntmps133
   go_wp2_with fail
   refine (level_yes s g C B L ls _ (h.ext (Ext.alloc' _ _)) n hn).mono ?_
   rintro e w1 ⟨rfl,rfl⟩
   have hA:=((h.ext (Ext.alloc' _ (.cells #[.int .i64 n,.int .u64 key] 52))).lev n hn).x HX.out
   rw [lvV_x HX.out]
   go_wp2_with fail
   refine (EPoint_no _ _ _ C _ _ _ key _ hA hk hk1).mono ?_
   rintro e w1 ⟨rfl,rfl⟩
   go_wp2
   go_ret2
   exact ⟨rfl,Ext.alloc' _ _⟩
 | false =>
   have HX:=Lib.hid hx
   clear hx
   go_enter Tryz.func133,Tryz.ntmps133
   go_wp2_with fail
   refine (level_yes s g C B L ls _ (h.ext (Ext.alloc' _ _)) n hn).mono ?_
   rintro e w1 ⟨rfl,rfl⟩
   have hA:=((h.ext (Ext.alloc' _ (.cells #[.int .i64 n,.int .u64 key] 52))).lev n hn).sk HX.out
   rw [lvV_s HX.out]
   go_wp2_with fail
   refine (SPoint_no _ _ _ C _ _ _ _ key _ hA hk1).mono ?_
   rintro e w1 ⟨rfl,hx1⟩
   go_wp2
   go_ret2
   exact ⟨rfl,(Ext.alloc' _ _).trans' hx1⟩
noncomputable def pointR (C:Cfg) (B:Nat) (ls:Nat→List Int) (lv key:Int):Int × Int :=
 if lv < 0∨(B:Int) < lv then (0,2) else if key < keys C lv then (ptU C ls lv.toNat key,0) else (0,2)
theorem getD_I {l:List Int} (h:∀ x∈l,I64 x) (i:Nat):I64 (l.getD i 0):=by
 rw [List.getD_eq_getElem?_getD]
 cases hx:l[i]? with
 | none=>unfold I64; simp
 | some x=>exact h x (List.mem_of_getElem? hx)
theorem ptU_of {w:World} {s g:Nat} {C:Cfg} {B:Nat} {L:Nat→Lev} {ls:Nat→List Int} (h:KAt w s g C B L ls) {n:Nat} (hn:n≤B) {i x:Int} (h1:I64 x) (hx:lvPt C n (ls n) i x):x=ptU C ls n i:=by
 have he:∃ y,I64 y∧lvPt C n (ls n) i y:=⟨x,h1,hx⟩
 unfold ptU
 rw [dif_pos he]
 exact lvPt_unique hx he.choose_spec.2
theorem lvPt_I {w:World} {s g:Nat} {C:Cfg} {B:Nat} {L:Nat→Lev} {ls:Nat→List Int} (h:KAt w s g C B L ls) {n:Nat} (hn:n≤B) {i x:Int} (hi:0≤i) (hk:i < keys C n) (hx:lvPt C n (ls n) i x):I64 x:=by
 have hf:=(h.lev n hn).fit
 rcases hx with ⟨_,rfl⟩ | ⟨_,hx⟩
 · exact getD_I hf _
 · have hm:=kth_in hx
   unfold readL at hm
   rw [List.mem_map] at hm
   obtain ⟨j,_,rfl⟩:=hm
   exact getD_I hf _
theorem kat_uniq {w:World} {s g:Nat} {C:Cfg} {B:Nat} {L:Nat→Lev} {ls:Nat→List Int} (h:KAt w s g C B L ls):Uniq C B ls (ptU C ls):=fun n i x hn h0 hi hx=>ptU_of h hn (lvPt_I h hn h0 hi hx) hx
theorem KPointR_c (s g:Nat) (C:Cfg) (B:Nat) (L:Nat→Lev) (ls:Nat→List Int) (w:World) (h:KAt w s g C B L ls) (lv key:Int) (hk:U64 key) :
 Calls Tryz.prog 133 #[.pointer (some ⟨s,0,none⟩),.agg #[.int .i64 lv,.int .u64 key]] w fun e w'=>e=.returned (.tuple #[.int .i64 (pointR C B ls lv key).1,.int .i64 (pointR C B ls lv key).2])∧Ext w w':=by
 unfold pointR
 by_cases hlv:lv < 0∨(B:Int) < lv
 · rw [if_pos hlv]
   exact KPoint_lv s g C B L ls w h lv hlv key
 · rw [if_neg hlv]
   obtain ⟨n,rfl⟩:∃ n:Nat,lv=n:=⟨lv.toNat,by omega⟩
   have hn:n≤B:=by omega
   by_cases hlt:key < keys C n
   · rw [if_pos hlt]
     refine (KPoint_c s g C B L ls w h n hn key hk.1 hlt).mono ?_
     rintro e w' ⟨x,rfl,hp,hE⟩
     refine ⟨?_,hE⟩
     rw [ptU_of h hn (lvPt_I h hn hk.1 hlt hp) hp]
     rfl
   · rw [if_neg hlt]
     exact KPoint_key s g C B L ls w h n hn key hk (by omega)
theorem KQuan_c (s g:Nat) (C:Cfg) (B:Nat) (L:Nat→Lev) (ls:Nat→List Int) (w:World) (h:KAt w s g C B L ls) (k:Int) (hk:I64 k) :
 Calls Tryz.prog 135 #[.pointer (some ⟨s,0,none⟩),.int .i64 k] w fun e w'=>e=.returned (.tuple #[.int .u64 (quanR (ptU C ls) B ((ls B).getD 0 0) k).1,.int .i64 (quanR (ptU C ls) B ((ls B).getD 0 0) k).2])∧Ext w w' :=
 Quan_of s B (by have:=h.ok.b2; have:=h.hB; omega) (ptU C ls) _ k w (fun W' hE=>WayR_c s g C B L ls W' (h.ext hE) k hk (ptU C ls) (kat_uniq h) (ptU_I C ls))
def rangeR (pt:Nat→Int→Int) (B:Nat) (lo hi:Int):Int × Int :=
 if hi < lo then (0,1) else if 2 ^ B≤hi then (0,2) else if fitB (lsum (cvV pt B lo hi))=true then (lsum (cvV pt B lo hi),0) else (0,4)
theorem KRange_c (s g:Nat) (C:Cfg) (B:Nat) (L:Nat→Lev) (ls:Nat→List Int) (w:World) (h:KAt w s g C B L ls) (lo hi:Int) (hlo:U64 lo) (hhi:U64 hi) :
 Calls Tryz.prog 134 #[.pointer (some ⟨s,0,none⟩),.int .u64 lo,.int .u64 hi] w fun e w'=>e=.returned (.tuple #[.int .i64 (rangeR (ptU C ls) B lo hi).1,.int .i64 (rangeR (ptU C ls) B lo hi).2])∧Ext w w':=by
 refine (Range_c s g C B L ls w h (ptU C ls) (kat_uniq h) (ptU_I C ls) lo hi hlo hhi).mono ?_
 unfold rangeR
 rintro e w' ⟨⟨a,rfl⟩ | ⟨⟨a,b⟩,rfl⟩ | ⟨⟨a,b⟩,hI,rfl⟩ | ⟨⟨a,b⟩,hI,rfl⟩,hE⟩
 · rw [if_pos a]; exact ⟨rfl,hE⟩
 · rw [if_neg (by omega),if_pos b]; exact ⟨rfl,hE⟩
 · rw [if_neg (by omega),if_neg (by omega),if_pos (fitB_yes hI)]; exact ⟨rfl,hE⟩
 · rw [if_neg (by omega),if_neg (by omega),if_neg (show ¬ fitB (lsum (cvV (ptU C ls) B lo hi))=true from fun hf=>hI (of_decide_eq_true (p:=-9223372036854775808≤lsum (cvV (ptU C ls) B lo hi)∧lsum (cvV (ptU C ls) B lo hi)≤9223372036854775807) hf))]; exact ⟨rfl,hE⟩
def inV (C:Cfg) (lv:Int) (l m:List Int):Int × Int × Int :=
 if C.mode=1 then (match lvInn C lv l m with | some s=>(hi s,lo s,0) | none=>(0,0,4)) else (0,0,3)
theorem innV_eq {C:Cfg} (hm:C.mode=1) (lv:Int) (l m:List Int):innV (lvInn C lv l m)=.tuple #[.agg #[.int .i64 (inV C lv l m).1,.int .u64 (inV C lv l m).2.1],.int .i64 (inV C lv l m).2.2]:=by
 unfold inV
 rw [if_pos hm]
 cases lvInn C lv l m <;> rfl
theorem inV_mode {C:Cfg} (hm:C.mode≠1) (lv:Int) (l m:List Int):inV C lv l m=(0,0,3):=by unfold inV; rw [if_neg hm]
theorem LInnerAny_c (C:Cfg) (lv:Int) (L L2:Lev) (l m:List Int) (w:World) (h:LvAt w L C lv l) (h2:LvAt w L2 C lv m) :
 Calls Tryz.prog 178 #[lvV C lv L,lvV C lv L2] w fun e w'=>e=.returned (.tuple #[.agg #[.int .i64 (inV C lv l m).1,.int .u64 (inV C lv l m).2.1],.int .i64 (inV C lv l m).2.2])∧Ext w w':=by
 by_cases hm:C.mode=1
 · rw [← innV_eq hm]; exact LInner_c C lv L L2 l m w h h2 hm
 · rw [inV_mode hm]; exact LInner_mode C lv L L2 l m w h h2 hm
theorem KInnerAny_c {w:World} {s g o g2:Nat} {C:Cfg} {B:Nat} {L L2:Nat→Lev} {l m:Nat→List Int} (h:KAt w s g C B L l) (h2:KAt w o g2 C B L2 m) :
 Calls Tryz.prog 137 #[.pointer (some ⟨s,0,none⟩),.pointer (some ⟨o,0,none⟩)] w fun e w'=>e=.returned (.tuple #[.agg #[.int .i64 (inV C 0 (l 0) (m 0)).1,.int .u64 (inV C 0 (l 0) (m 0)).2.1],.int .i64 (inV C 0 (l 0) (m 0)).2.2])∧Ext w w' :=
 KInner_c s g o g2 C B L L2 l m w h h2 _ _ _ (fun M M2 W h1 h3=>LInnerAny_c C 0 M M2 (l 0) (m 0) W h1 h3)
def fitK (B:Nat) (ms:Nat→List Int):Bool:=(List.range (B+1)).all fun n=>(ms n).all fitB
theorem fitK_iff {B:Nat} {ms:Nat→List Int}:fitK B ms=true ↔ ∀ n,n≤B→allI (ms n):=by
 unfold fitK
 simp only [List.all_eq_true,List.mem_range]
 exact ⟨fun h n hn x hx=>of_decide_eq_true (p:=-9223372036854775808≤x∧x≤9223372036854775807) (h n (by omega) x hx),fun h n hn x hx=>fitB_yes (h n (by omega) x hx)⟩
theorem KHeavy_c (s g:Nat) (C:Cfg) (B:Nat) (L:Nat→Lev) (ls:Nat→List Int) (w:World) (h:KAt w s g C B L ls) (least budget:Int) :
 Calls Tryz.prog 136 #[.pointer (some ⟨s,0,none⟩),.int .i64 least,.int .i64 budget] w (HeavyPost w B (ptU C ls) least budget) :=
 Heavy_c s g C B L ls w h (ptU C ls) (kat_uniq h) least budget
end Go.Proofs.YtmalncfcgcebhaaGreatDoor
