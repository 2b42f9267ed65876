/- Part. No condition. -/
import Derived.Test.YtmalncfcgcebhaaGreatDoorDTopHeavy13
import Derived.Test.YtmalncfcgcebhaaGreatDoorDTopHeavy14
import Derived.Test.YtmalncfcgcebhaaGreatDoorDTopHeavy2
import Derived.Test.YtmalncfcgcebhaaGreatDoorDTopHeavy4
import Derived.Test.YtmalncfcgcebhaaGreatDoorDTopHeavy6
import Derived.Test.YtmalncfcgcebhaaGreatDoorDTopHeavy7
import Derived.Test.YtmalncfcgcebhaaGreatDoorDTopHeavy1
import Derived.Test.YtmalncfcgcebhaaGreatDoorDTopHeavy10
import Derived.ProofKit
import Derived.OpenShut
import Derived.ChangeOld
import Derived.Below
import Derived.SizedLaws
import Derived.Deep.Slices
import Derived.Deep.Fields
import Derived.Test.YtmalncfcgcebhaaGreatDoorRows
import Derived.Lib.LaidU8
import Derived.Stop.LaidErr
import Derived.Lay
namespace Go.Proofs.YtmalncfcgcebhaaGreatDoor
set_option linter.unusedVariables false
open Go.Proofs Go.RowKit
def listW:Rep:=.list [(2,0,7),(1,1,5),(0,3,5)]
def FW (S:St) (l:List UInt8):Option (List UInt8) × St :=
 if l=w3 then (some (repT (.number 2)),S) else if l=w4 then (some (repT (.key 3)),S) else if l=w5 then (some (repT listW),S) else if l=w6 then (some (repT (.wide 29)),S) else lineF doA S l
def worksT:ByteArray:=⟨(w0++10 :: (w1++10 :: (w2++10 :: (w3++10 :: (w4++10 :: (w5++10 :: w6)))))).toArray⟩
def LW:List (List UInt8):=[w0,w1,w2,w3,w4,w5,w6]
theorem split_W:splitL worksT.data.toList=LW:=by kernel_rfl
theorem st_W3:(runK FW st0 (LW.take 3)).2=SW:=by kernel_rfl
theorem st_W4:(runK FW st0 (LW.take 4)).2=SW:=by kernel_rfl
theorem st_W5:(runK FW st0 (LW.take 5)).2=SW:=by kernel_rfl
theorem st_W6:(runK FW st0 (LW.take 6)).2=SW:=by kernel_rfl
theorem st_W0:(runK FW st0 (LW.take 0)).2=st0:=by kernel_rfl
theorem st_W1:(runK FW st0 (LW.take 1)).2=(runK (lineF doA) st0 [w0]).2:=by kernel_rfl
theorem st_W2:(runK FW st0 (LW.take 2)).2=(runK (lineF doA) st0 [w0,w1]).2:=by kernel_rfl
def worksR:List (List UInt8):=[[104,97,110,100,108,101,32,49],[100,111,110,101],[100,111,110,101],[110,117,109,98,101,114,32,50],[107,101,121,32,51],[108,105,115,116,32,50,58,48,58,55,32,49,58,49,58,53,32,48,58,51,58,53],[119,105,100,101,32,50,57]]
theorem works_run:(runK FW st0 LW).1=worksR:=by kernel_rfl
theorem FW_last (S:St) (l:List UInt8):(FW S l).2.last≤S.last+1:=by
 unfold FW
 repeat' split
 all_goals first | exact Nat.le_succ _ | exact lineF_last doA_last S l
theorem allR (L:List (List UInt8)):AllSt (runK (lineF doA) st0 L).2:=run_P (fun S l hS=>lineF_P (fun S c h=>doA_st S h c) S l hS) all0 L
theorem lastR (L:List (List UInt8)) (h:L.length≤1000):(runK (lineF doA) st0 L).2.last < 1000000:=by
 have h1:=run_last (lineF_last doA_last) st0 L
 have h3:st0.last=0:=rfl
 omega
theorem okW0:okL w0=true:=by kernel_rfl
theorem okW1:okL w1=true:=by kernel_rfl
theorem okW2:okL w2=true:=by kernel_rfl
theorem ba_of {s:ByteArray} {l:List UInt8} (h:l=s.data.toList):s=⟨l.toArray⟩:=by
 subst h; cases s; simp
theorem FW_is (k:Nat) (s:ByteArray) (h:LW[k]?=some s.data.toList):LineIs (runK FW st0 (LW.take k)).2 s (FW (runK FW st0 (LW.take k)).2 s.data.toList):=by
 match k,h with
 | 0,h =>
   have e:w0=s.data.toList:=Option.some.inj h
   rw [st_W0,← e,show FW st0 w0=lineF doA st0 w0 from by kernel_rfl,e]
   exact okL_is all0 (by decide) (by rw [← e]; exact okW0)
 | 1,h =>
   have e:w1=s.data.toList:=Option.some.inj h
   rw [st_W1,← e,show FW (runK (lineF doA) st0 [w0]).2 w1=lineF doA (runK (lineF doA) st0 [w0]).2 w1 from by kernel_rfl,e]
   exact okL_is (allR _) (lastR _ (by decide)) (by rw [← e]; exact okW1)
 | 2,h =>
   have e:w2=s.data.toList:=Option.some.inj h
   rw [st_W2,← e,show FW (runK (lineF doA) st0 [w0,w1]).2 w2=lineF doA (runK (lineF doA) st0 [w0,w1]).2 w2 from by kernel_rfl,e]
   exact okL_is (allR _) (lastR _ (by decide)) (by rw [← e]; exact okW2)
 | 3,h =>
   have e:w3=s.data.toList:=Option.some.inj h
   rw [st_W3,← e,ba_of e]
   exact line3
 | 4,h =>
   have e:w4=s.data.toList:=Option.some.inj h
   rw [st_W4,← e,ba_of e]
   exact line4
 | 5,h =>
   have e:w5=s.data.toList:=Option.some.inj h
   rw [st_W5,← e,ba_of e]
   exact line5
 | 6,h =>
   have e:w6=s.data.toList:=Option.some.inj h
   rw [st_W6,← e,ba_of e]
   exact line6
 | k+7,h=>cases h
theorem WorksRun_c (w:World) (hT:Tabs w) :
 Calls Tryz.prog 41 #[.string worksT] w fun e w'=>∃ v,e=.returned v∧w'.ownsRow w.heap.size 9 1 v 7 (strVs worksR)∧Ext w w':=by
 have h:=Run_c FW worksT (by decide) (fun k s hs=>by
  rw [split_W] at hs ⊢
  exact FW_is k s hs) (fun k=>by
  have h1:=run_last FW_last st0 ((splitL worksT.data.toList).take k)
  rw [split_W,List.length_take] at h1
  have h3:st0.last=0:=rfl
  have h4:LW.length=7:=rfl
  rw [split_W]
  omega) w hT
 rw [split_W,works_run] at h
 exact h
set_option maxRecDepth 100000 in
set_option maxHeartbeats 8000000 in
theorem works_c (w:World) (hT:Tabs w):Calls Tryz.prog 12 #[] w fun e w'=>e=.returned (.bool true)∧Ext w w':=by
 have HR:=Lib.hid (WorksRun_c w hT)
 rw [show worksT=⟨#[99,114,101,97,116,101,32,50,32,49,32,52,32,49,32,48,10,97,100,100,32,49,32,51,32,53,10,97,100,100,32,49,32,49,32,50,10,114,97,110,103,101,32,49,32,49,32,50,10,113,117,97,110,116,105,108,101,32,49,32,51,10,104,101,97,118,121,32,49,32,53,32,57,10,105,110,110,101,114,32,49,32,49]⟩ from rfl] at HR
 clear hT
 go_enter Tryz.func12,Tryz.ntmps12
 go_wp2_with fail
 refine Calls.mono HR.out ?_
 rintro e w1 ⟨v,rfl,hv,hx1⟩
 obtain ⟨g,cap,rfl⟩:=own_some hv (by decide)
 obtain ⟨hgl,hg⟩:=own_any hv
 have c3:=hg 3 (by decide) _ rfl
 have c4:=hg 4 (by decide) _ rfl
 have c5:=hg 5 (by decide) _ rfl
 have c6:=hg 6 (by decide) _ rfl
 unfold strV at c3 c4 c5 c6
 have HX1:=Lib.hid hx1
 clear hx1 hg hv
 go_wp2
 refine bodyPost_ret (results_tmp rfl _ _ _) rfl ?_
 exact ⟨rfl,HX1.out⟩
end Go.Proofs.YtmalncfcgcebhaaGreatDoor
namespace Go.Proofs.YtmalncfcgcebhaaGreatDoor
set_option linter.unusedVariables false
open Go.RowKit
theorem topKeys {C:Cfg} (hb:C.bits=6) {n:Nat} (hn:n≤6):keys C n=((2 ^ (6 - n):Nat):Int):=by
 unfold keys
 rw [hb,show ((6:Int) - (n:Int)).toNat=6 - n by omega,Int.natCast_pow]
 rfl
end Go.Proofs.YtmalncfcgcebhaaGreatDoor
namespace Go.Proofs.YtmalncfcgcebhaaGreatDoor
set_option linter.unusedVariables false
open Go.Proofs Go.RowKit
theorem and_one {x:Int} (h:I64 x):bits BinOp.and IntKind.i64 x 1=x % 2:=by
 show IntKind.i64.wrap ((BitVec.ofInt 64 x &&& BitVec.ofInt 64 1).toNat:Int)=_
 rw [BitVec.toNat_and,show (BitVec.ofInt 64 1).toNat=2 ^ 1 - 1 from rfl,Nat.and_two_pow_sub_one_eq_mod,BitVec.toNat_ofInt,IntKind.wrap_i64]
 omega
theorem itoa_nat (K:Nat):Lib.itoa (K:Int)=Lib.decDigits K:=by
 unfold Lib.itoa
 rw [if_neg (by omega),Int.toNat_natCast]
theorem pow6' {t:Nat} (h:t≤6):1≤2 ^ (6 - t)∧2 ^ (6 - t)≤64:=by
 match t,h with
 | 0,_=>decide
 | 1,_=>decide
 | 2,_=>decide
 | 3,_=>decide
 | 4,_=>decide
 | 5,_=>decide
 | 6,_=>decide
def modeC (x:Cfg):Int:=if x.mode % 2=1 then 2 else 1
theorem modeC_bd (x:Cfg):1≤modeC x∧modeC x≤3∧modeC x≠3:=by unfold modeC; split <;> omega
theorem PlAt.mass_bd {w:World} {N p a m:Nat} {l:List (Nat × Th)} {C:Cfg} {g:Nat→Nat→List Int} {f:Nat→Nat→Int} (H:PlAt w N p a m l C 35184372088832 g f) {h:Nat} (hh:h < 3) (lv:Nat) (idx:Int):-35184372088832≤massT (f h) lv idx 64∧massT (f h) lv idx 64≤35184372088832:=by
 obtain ⟨ps,hp⟩:=H.hd
 obtain ⟨h1,h2⟩:=hp h hh
 rw [mass_pc h2 h1.ky]
 have:=sumIf_abs (fun k=>sh lv k == idx) (ps h)
 have:=h1.ab
 unfold pcS
 omega
section
variable {w:World} {N p a m:Nat} {l:List (Nat × Th)} {C:Cfg} {g:Nat→Nat→List Int} {f:Nat→Nat→Int}
theorem PlAt.pt_bd (H:PlAt w N p a m l C 35184372088832 g f) (hm:C.mode≠3) {h:Nat} (hh:h < 3) {n:Nat} (hn:n≤6) {i:Int} (h0:0≤i) (h1:i < keys C n):-35184372088832≤ptU C (g h) n i∧ptU C (g h) n i≤35184372088832:=by
 obtain ⟨ps,hps⟩:=H.hd
 exact (hps h hh).1.pt_bd H.ok (by decide) hm hn h0 h1
end
end Go.Proofs.YtmalncfcgcebhaaGreatDoor
namespace Go.Proofs.YtmalncfcgcebhaaGreatDoor
set_option linter.unusedVariables false
open Go.Proofs Go.RowKit
def fw (f:Fd):List UInt8:=Lib.itoa (f.1:Int)++58 :: (Lib.itoa f.2.1++58 :: Lib.itoa f.2.2)
theorem itoa_no {n:Int} {c:UInt8} (h:c∈Lib.itoa n):c≠32∧c≠34∧c≠58:=by
 have:=itoa_mem n c h
 refine ⟨?_, ?_, ?_⟩ <;> (rintro rfl; revert this; decide)
theorem fw_no {f:Fd} {c:UInt8} (h:c∈fw f):c≠32∧c≠34:=by
 unfold fw at h
 simp only [List.mem_append,List.mem_cons] at h
 rcases h with h | rfl | h | rfl | h
 · have:=itoa_no h; exact ⟨this.1,this.2.1⟩
 · decide
 · have:=itoa_no h; exact ⟨this.1,this.2.1⟩
 · decide
 · have:=itoa_no h; exact ⟨this.1,this.2.1⟩
theorem fw_word (f:Fd):WordOk (fw f):=by
 have hne:fw f≠[]:=by unfold fw; simp
 refine ⟨hne,fun c hc=>(fw_no hc).1, ?_⟩
 have:(fw f).getD 0 0∈fw f:=getD_mem8 (List.length_pos_iff.2 hne)
 exact (fw_no this).2
theorem cut58:∀ {a a' b b':List UInt8},(∀ c∈a,c≠58)→(∀ c∈a',c≠58)→a++58 :: b=a'++58 :: b'→a=a'∧b=b'
 | [],[],_,_,_,_,h=>⟨rfl,by simpa using h⟩
 | [],x :: a',_,_,_,h2,h=>by
   simp only [List.nil_append,List.cons_append,List.cons.injEq] at h
   exact absurd h.1.symm (h2 x (by simp))
 | x :: a,[],_,_,h1,_,h=>by
   simp only [List.nil_append,List.cons_append,List.cons.injEq] at h
   exact absurd h.1 (h1 x (by simp))
 | x :: a,y :: a',b,b',h1,h2,h=>by
   simp only [List.cons_append,List.cons.injEq] at h
   have:=cut58 (fun c hc=>h1 c (by simp [hc])) (fun c hc=>h2 c (by simp [hc])) h.2
   exact ⟨by rw [h.1,this.1],this.2⟩
theorem itoa_inj {n m:Int} (hn:I64 n) (hm:I64 m) (h:Lib.itoa n=Lib.itoa m):n=m:=by
 have h1:=num_itoa hn
 rw [h,num_itoa hm] at h1
 exact (Option.some.inj h1).symm
theorem fw_inj {f g:Fd} (hf:I64 (f.1:Int)∧I64 f.2.1) (hg:I64 (g.1:Int)∧I64 g.2.1) (h:fw f=fw g):f.1=g.1∧f.2.1=g.2.1:=by
 unfold fw at h
 obtain ⟨h1,h2⟩:=cut58 (fun c hc=>(itoa_no hc).2.2) (fun c hc=>(itoa_no hc).2.2) h
 obtain ⟨h3,_⟩:=cut58 (fun c hc=>(itoa_no hc).2.2) (fun c hc=>(itoa_no hc).2.2) h2
 have:=itoa_inj hf.1 hg.1 h1
 exact ⟨by omega,itoa_inj hf.2 hg.2 h3⟩
theorem fw_len (f:Fd) (h:I64 (f.1:Int)∧I64 f.2.1∧I64 f.2.2):(fw f).length≤100:=by
 have h1:=Lib.itoa_length_le (f.1:Int) h.1.1 h.1.2
 have h2:=Lib.itoa_length_le f.2.1 h.2.1.1 h.2.1.2
 have h3:=Lib.itoa_length_le f.2.2 h.2.2.1 h.2.2.2
 unfold fw
 simp only [List.length_append,List.length_cons]
 omega
theorem flatMap_same {α β:Type} {f g:α→List β}:∀ {D:List α},(∀ x∈D,f x=g x)→D.flatMap f=D.flatMap g
 | [],_=>rfl
 | x :: D,h=>by rw [List.flatMap_cons,List.flatMap_cons,h x (by simp),flatMap_same fun y hy=>h y (by simp [hy])]
def hvT (D:List Fd):List UInt8:=(D.map fw).flatMap fun x=>32 :: x
theorem hvT_rep {D:List Fd} (h:∀ f∈D,0≤f.2.1):repT (.list D)=[108,105,115,116]++hvT D:=by
 show [108,105,115,116]++D.flatMap _=_
 congr 1
 unfold hvT
 rw [List.flatMap_map]
 refine flatMap_same fun f hf=>?_
 have h0:=h f hf
 obtain ⟨n,hn⟩:∃ n:Nat,f.2.1=n:=⟨f.2.1.toNat,by omega⟩
 unfold fw
 rw [hn,Int.toNat_natCast,itoa_nat n]
 simp
theorem flat_join:∀ {ws:List (List UInt8)},ws≠[]→(ws.flatMap fun x=>32 :: x)=32 :: joinW ws
 | [],h=>absurd rfl h
 | [x],_=>by simp [joinW]
 | x :: y :: l,_=>by
   have ih:=flat_join (ws:=y :: l) (by simp)
   rw [List.flatMap_cons,ih,joinW_cons x (by simp)]
   rfl
theorem hvT_no {D:List Fd}:∀ c∈hvT D,c≠34:=by
 intro c hc
 unfold hvT at hc
 simp only [List.mem_flatMap,List.mem_map,List.mem_cons] at hc
 obtain ⟨_,⟨f,_,rfl⟩,rfl | h⟩:=hc
 · decide
 · exact (fw_no h).2
theorem plcW_len:∀ (ws:List (List UInt8)) (a:Nat),(plcW a ws).length=ws.length
 | [],_=>rfl
 | x :: l,a=>by unfold plcW; rw [List.length_cons,plcW_len l,List.length_cons]
theorem words_hv {s:ByteArray} {D:List Fd} (hs:s.data.toList=hvT D):(wordsS s).length=D.length∧∀ k (h:k < D.length),s.extract ((wordsS s).getD k (0,0)).1 ((wordsS s).getD k (0,0)).2=⟨(fw D[k]).toArray⟩:=by
 by_cases hD:D=[]
 · subst hD
   have hz:s.size=0:=by rw [Lib.size_eq,hs]; rfl
   have:wordsS s=[]:=by
    unfold wordsS
    rw [hz]
    unfold wordsFrom
    rw [if_neg (by omega)]
   rw [this]
   exact ⟨rfl,fun k h=>by simp at h⟩
 · have hne:D.map fw≠[]:=by simpa using hD
   have hj:s.data.toList=[]++(32 :: joinW (D.map fw)):=by rw [hs]; unfold hvT; rw [flat_join hne]; rfl
   have hj2:s.data.toList=[32]++joinW (D.map fw):=hj
   have hw:∀ x∈D.map fw,WordOk x:=fun x hx=>by
    obtain ⟨f,_,rfl⟩:=List.mem_map.1 hx
    exact fw_word f
   have e:wordsS s=plcW 1 (D.map fw):=by
    unfold wordsS
    have e1:=words_sp (f:=s.size) s hj
    have hl:=joinW_len hw
    have hz:s.size=(joinW (D.map fw)).length+1:=by rw [Lib.size_eq,hj2]; simp
    rw [show (0:Nat)=([]:List UInt8).length from rfl,e1]
    exact words_join s (D.map fw) [32] s.size hj2 hne hw (by omega)
   have hx:=ext_words s (D.map fw) [32] hj2
   rw [e]
   refine ⟨by rw [plcW_len,List.length_map],fun k h=>?_⟩
   have hk:k < (plcW 1 (D.map fw)).length:=by rw [plcW_len,List.length_map]; exact h
   have e2:((plcW 1 (D.map fw)).map fun p=>(s.extract p.1 p.2,p.1))[k]?=(wpl 1 (D.map fw))[k]?:=by
    rw [show (plcW 1 (D.map fw)).map (fun p=>(s.extract p.1 p.2,p.1))=wpl 1 (D.map fw) from hx]
   have hk2:k < (wpl 1 (D.map fw)).length:=by rw [wpl_len,List.length_map]; exact h
   rw [List.getElem?_map,List.getElem?_eq_getElem hk,List.getElem?_eq_getElem hk2] at e2
   simp only [Option.map_some,Option.some.injEq] at e2
   have e3:=wpl_get (D.map fw) 1 k hk2
   have e4:(D.map fw).getD k []=fw D[k]:=by simp [List.getD_eq_getElem?_getD,h]
   rw [e4] at e3
   have e5:(plcW 1 (D.map fw)).getD k (0,0)=(plcW 1 (D.map fw))[k]:=by simp [List.getD_eq_getElem?_getD,hk]
   rw [e5]
   have e6:=congrArg Prod.fst e2
   dsimp only at e6
   rw [e6]
   generalize (wpl 1 (D.map fw))[k].1=z at *
   obtain ⟨z⟩:=z
   have e7:z.toList=fw D[k]:=e3
   rw [← e7]
theorem wordV_at {s:ByteArray}:∀ {l:List (Nat × Nat)} {k:Nat},k < l.length→(wordV s l)[k*2]?=some (.string (s.extract (l.getD k (0,0)).1 (l.getD k (0,0)).2))
 | [],k,h=>by simp at h
 | p :: l,0,_=>rfl
 | p :: l,k+1,h=>by
   have ih:=wordV_at (s:=s) (l:=l) (k:=k) (by simpa using h)
   have e:wordV s (p :: l)=.string (s.extract p.1 p.2) :: .int .i64 (p.1:Nat) :: wordV s l:=rfl
   rw [e,show (k+1)*2=k*2+1+1 by omega]
   simp only [List.getElem?_cons_succ,List.getD_cons_succ]
   exact ih
theorem own_words {w:World} {base n:Nat} {e:TypeId} {v:Value} {s:ByteArray} {l:List (Nat × Nat)} (h:w.ownsRow base e 2 v n (wordV s l)) (hl:0 < l.length):∃ g cap cur t,v=.slice (some ⟨g,0,none⟩) l.length cap∧l.length≤cap∧base≤g∧w.heap[g]?=some (.cells cur t (0,0))∧WCells w g l.length fun k=>s.extract (l.getD k (0,0)).1 (l.getD k (0,0)).2:=by
 obtain ⟨h1,h2⟩:=h
 have hn:n=l.length:=by rw [wordV_len] at h1; omega
 subst hn
 obtain ⟨g,cap,cur,rfl,hb,hh,hc,hm,hs,ht⟩:=h2.resolve_left (fun h=>by omega)
 refine ⟨g,cap,cur,_,rfl,hc,hb,hh,fun k hk=>?_⟩
 have a1:=wordV_at (s:=s) hk
 rw [← ht] at a1
 rw [List.getElem?_take_of_lt (by omega)] at a1
 simp only [Array.getElem?_toList] at a1
 rw [cell_of hh]
 exact a1
end Go.Proofs.YtmalncfcgcebhaaGreatDoor
namespace Go.Proofs.YtmalncfcgcebhaaGreatDoor
set_option linter.unusedVariables false
open Go.Proofs Go.RowKit
theorem pow6 {lv:Nat} (h:lv≤6):1≤2 ^ (6 - lv)∧2 ^ (6 - lv)≤64∧(64:Int) / 2 ^ lv=((2 ^ (6 - lv):Nat):Int):=by
 match lv,h with
 | 0,_=>decide
 | 1,_=>decide
 | 2,_=>decide
 | 3,_=>decide
 | 4,_=>decide
 | 5,_=>decide
 | 6,_=>decide
end Go.Proofs.YtmalncfcgcebhaaGreatDoor
namespace Go.Proofs.YtmalncfcgcebhaaGreatDoor
set_option linter.unusedVariables false
open Go.Proofs Go.RowKit
section
variable {w:World} {N p a m:Nat} {l:List (Nat × Th)} {C:Cfg} {g:Nat→Nat→List Int} {f:Nat→Nat→Int}
theorem PlAt.pt_mass (H:PlAt w N p a m l C 35184372088832 g f) (hm:C.mode≠3) {h:Nat} (hh:h < 3) (hp:plainT (f h) 64=true) {n:Nat} (hn:n≤6) {i:Int} (h0:0≤i) (h1:i < keys C n):massT (f h) n i 64≤ptU C (g h) n i:=by
 obtain ⟨ps,hps⟩:=H.hd
 obtain ⟨i1,i2⟩:=hps h hh
 rw [mass_pc i2 i1.ky]
 exact i1.pt_ge H.ok (by decide) hm (plain_of i2 i1.ky hp) hn h0 h1
end
end Go.Proofs.YtmalncfcgcebhaaGreatDoor
namespace Go.Proofs.YtmalncfcgcebhaaGreatDoor
set_option linter.unusedVariables false
open Go.Proofs Go.RowKit
theorem and_26 {x:Int} (h:I64 x):bits BinOp.and IntKind.i64 x 67108863=x % 67108864:=by
 show IntKind.i64.wrap ((BitVec.ofInt 64 x &&& BitVec.ofInt 64 67108863).toNat:Int)=_
 rw [BitVec.toNat_and,show (BitVec.ofInt 64 67108863).toNat=2 ^ 26 - 1 from rfl,Nat.and_two_pow_sub_one_eq_mod,BitVec.toNat_ofInt,IntKind.wrap_i64]
 omega
theorem err7_ba:(⟨(errT 7).toArray⟩:ByteArray)=⟨#[101,114,114,111,114,32,55]⟩:=by kernel_rfl
theorem err7_v:strV (errT 7)=.string ⟨#[101,114,114,111,114,32,55]⟩:=congrArg Value.string err7_ba
theorem vheavy_ba:(⟨(vHeavy++[32]).toArray⟩:ByteArray)=⟨#[104,101,97,118,121,32]⟩:=rfl
theorem vpoint_bh:(⟨(vPoint++[32]).toArray⟩:ByteArray)=⟨#[112,111,105,110,116,32]⟩:=rfl
theorem fdL_len (pt:Nat→Int→Int) (least:Int) (n:Nat):(fdL pt least n).length≤2 ^ (6 - n):=by
 unfold fdL fdZ
 rw [List.length_map]
 exact rowZ_len _ _
theorem fdFrom_len (pt:Nat→Int→Int) (least:Int):(fdFrom pt least 7).length≤127:=by
 have h0:=fdL_len pt least 0
 have h1:=fdL_len pt least 1
 have h2:=fdL_len pt least 2
 have h3:=fdL_len pt least 3
 have h4:=fdL_len pt least 4
 have h5:=fdL_len pt least 5
 have h6:=fdL_len pt least 6
 show (fdL pt least 6++(fdL pt least 5++(fdL pt least 4++(fdL pt least 3++(fdL pt least 2++(fdL pt least 1++(fdL pt least 0++[]))))))).length≤127
 simp only [List.length_append,List.length_nil]
 simp only [show 2 ^ (6 - 0)=64 from rfl,show 2 ^ (6 - 1)=32 from rfl,show 2 ^ (6 - 2)=16 from rfl,show 2 ^ (6 - 3)=8 from rfl,show 2 ^ (6 - 4)=4 from rfl,show 2 ^ (6 - 5)=2 from rfl,show 2 ^ (6 - 6)=1 from rfl] at *
 omega
theorem fdFrom_ok {C:Cfg} {ls:Nat→List Int} {least:Int} {f:Fd} (h:f∈fdFrom (ptU C ls) least 7):f.1≤6∧0≤f.2.1∧f.2.1 < 64∧I64 f.2.2:=by
 obtain ⟨h1,h2⟩:=fdFrom_mem h
 obtain ⟨_,i,hi,e1,e2,_⟩:=fdL_mem h2
 have:=(pow6' (t:=f.1) (by omega)).2
 refine ⟨by omega,by omega,by omega, ?_⟩
 rw [e2]
 exact ptU_I C ls _ _
theorem hvT_len {D:List Fd} (h:∀ f∈D,I64 (f.1:Int)∧I64 f.2.1∧I64 f.2.2):(hvT D).length≤101*D.length:=by
 induction D with
 | nil=>simp [hvT]
 | cons f D ih =>
   have h1:=ih fun x hx=>h x (by simp [hx])
   have h2:=fw_len f (h f (by simp))
   have e:hvT (f :: D)=32 :: fw f++hvT D:=rfl
   rw [e]
   simp only [List.length_append,List.length_cons]
   omega
theorem PlAt.mass_up {w:World} {N p a m:Nat} {l:List (Nat × Th)} {C:Cfg} {g:Nat→Nat→List Int} {f:Nat→Nat→Int} (H:PlAt w N p a m l C 35184372088832 g f) {h:Nat} (hh:h < 3) (hp:plainT (f h) 64=true) (n:Nat) (i:Int):massT (f h) n i 64≤massT (f h) (n+1) (i / 2) 64:=by
 obtain ⟨ps,hps⟩:=H.hd
 obtain ⟨i1,i2⟩:=hps h hh
 have hP:=plain_of i2 i1.ky hp
 rw [mass_pc i2 i1.ky,mass_pc i2 i1.ky,pcS_split]
 have a1:0≤pcS (ps h) n (2*(i / 2)):=hP.nn _
 have a2:0≤pcS (ps h) n (2*(i / 2)+1):=hP.nn _
 rcases Int.emod_two_eq i with e | e
 · have:2*(i / 2)=i:=by omega
   rw [this] at a1 a2 ⊢
   omega
 · have:2*(i / 2)+1=i:=by omega
   rw [this] at a2 ⊢
   omega
theorem hv_mass {w:World} {N p a m:Nat} {l:List (Nat × Th)} {C:Cfg} {g:Nat→Nat→List Int} {f:Nat→Nat→Int} (H:PlAt w N p a m l C 35184372088832 g f) (hm:C.mode≠3) {h:Nat} (hh:h < 3) (hp:plainT (f h) 64=true) {le:Int} {lv:Nat} (hlv:lv≤6) {i:Int} (h0:0≤i) (h1:i < ((2 ^ (6 - lv):Nat):Int)) (hf:fdB (ptU C (g h)) le (6 - lv) lv i=false):massT (f h) lv i 64 < le :=
 fd_not (S:=fun n i=>massT (f h) n i 64) (fun n j hn j0 j1=>H.pt_mass hm hh hp hn j0 (by rw [topKeys H.hb hn,Int.natCast_pow]; exact j1)) (fun n j _ _ _=>H.mass_up hh hp n j) (6 - lv) lv i (by omega) h0 (by rw [Int.natCast_pow] at h1; exact h1) hf
theorem has_begin (a b c:Int) {xb wb:ByteArray} (e1:(⟨(Lib.itoa a++58 :: (Lib.itoa b++[58])).toArray⟩:ByteArray)=xb) (e2:(⟨(Lib.itoa a++58 :: (Lib.itoa b++58 :: Lib.itoa c)).toArray⟩:ByteArray)=wb):xb.size < wb.size∧(wb.extract 0 xb.size).data.toList=xb.data.toList:=by
 have hc:0 < (Lib.itoa c).length:=List.length_pos_iff.2 (itoa_ne c)
 have d1:xb.data.toList=Lib.itoa a++58 :: (Lib.itoa b++[58]):=by rw [← e1]
 have d2:wb.data.toList=(Lib.itoa a++58 :: (Lib.itoa b++[58]))++Lib.itoa c:=by rw [← e2]; simp
 have s1:xb.size=(Lib.itoa a++58 :: (Lib.itoa b++[58])).length:=by rw [Lib.size_eq,d1]
 have s2:wb.size=(Lib.itoa a++58 :: (Lib.itoa b++[58])).length+(Lib.itoa c).length:=by rw [Lib.size_eq,d2,List.length_append]
 refine ⟨by omega, ?_⟩
 rw [Lib.extract_data,d1,d2,s1,List.drop_zero,Nat.sub_zero]
 exact List.take_left
def HvRow (w:World) (a m:Nat) (l:List (Nat × Th)) (pL:Option Addr) (cL:Nat) (D:List Fd):Prop :=
 0 < D.length→∃ gL,pL=some ⟨gL,0,none⟩∧D.length≤cL∧gL < w.heap.size∧¬ AgF a m l gL∧∀ k (hk:k < D.length),w.cell? ⟨gL,k*2,none⟩=some (.string ⟨(fw D[k]).toArray⟩)
theorem HvRow.ext {w w':World} {a m:Nat} {l:List (Nat × Th)} {pL:Option Addr} {cL:Nat} {D:List Fd} (h:HvRow w a m l pL cL D) (hx:Ext w w'):HvRow w' a m l pL cL D:=fun h0=>by
 obtain ⟨gL,e1,e2,e3,e4,e5⟩:=h h0
 exact ⟨gL,e1,e2,Nat.lt_of_lt_of_le e3 hx.size,e4,fun k hk=>(hx.cell e3).trans (e5 k hk)⟩
theorem HvRow.step {w w':World} {a m:Nat} {l l':List (Nat × Th)} {pL:Option Addr} {cL:Nat} {D:List Fd} (h:HvRow w a m l pL cL D) (hM:Mod (AgF a m l) w w') (hf:∀ k,AgF a m l' k→AgF a m l k∨w.heap.size≤k):HvRow w' a m l' pL cL D:=fun h0=>by
 obtain ⟨gL,e1,e2,e3,e4,e5⟩:=h h0
 refine ⟨gL,e1,e2,Nat.lt_of_lt_of_le e3 hM.size,fun hh=>?_,fun k hk=>(mcell hM e3 e4 _).trans (e5 k hk)⟩
 rcases hf _ hh with hh | hh
 · exact e4 hh
 · omega
def cntS (pt:Nat→Int→Int) (le:Int):Nat→Nat
 | 0=>(fdFrom pt le 7).length
 | n+1=>cntT pt le n 0
theorem cntS_end (pt:Nat→Int→Int) (le:Int) {n:Nat} (hn:n≤6):cntT pt le n (2 ^ (6 - n))=cntS pt le n:=by
 cases n with
 | zero=>exact cnt_last pt le
 | succ n=>exact cnt_level pt le hn
theorem fdTo_le (pt:Nat→Int→Int) (le:Int) (n:Nat):∀ {i j:Nat},i≤j→(fdTo pt le n i).length≤(fdTo pt le n j).length:=by
 intro i j h
 obtain ⟨d,rfl⟩:∃ d,j=i+d:=⟨j - i,by omega⟩
 induction d with
 | zero=>exact Nat.le_refl _
 | succ d ih =>
   have:=ih (by omega)
   rw [show i+(d+1)=i+d+1 by omega,fdTo_succ,List.length_append]
   omega
theorem cnt_le (pt:Nat→Int→Int) (le:Int) {n i:Nat} (hn:n≤6) (hi:i≤2 ^ (6 - n)):cntT pt le n i≤(fdFrom pt le 7).length:=by
 have h:=fd_cut pt le (6 - n) n
 rw [show n+1+(6 - n)=7 by omega] at h
 have h1:=fdTo_le pt le n hi
 rw [fdTo_all] at h1
 have h2:(fdFrom pt le 7).length=(fdPre pt le n (6 - n)).length+((fdL pt le n).length+(fdFrom pt le n).length):=by
  rw [h,List.length_append]
  show _+(fdL pt le n++fdFrom pt le n).length=_
  rw [List.length_append]
 unfold cntT
 omega
theorem cat_fw (a b c:Int):(⟨(Lib.itoa a).toArray⟩++⟨#[58]⟩++⟨(Lib.itoa b).toArray⟩++⟨#[58]⟩++⟨(Lib.itoa c).toArray⟩:ByteArray)=⟨(Lib.itoa a++58 :: (Lib.itoa b++58 :: Lib.itoa c)).toArray⟩:=by
 have h58:(⟨#[58]⟩:ByteArray)=⟨([58]:List UInt8).toArray⟩:=rfl
 rw [h58,cat_str,cat_str,cat_str,cat_str]
 simp
theorem cat_fw2 (a b:Int):(⟨(Lib.itoa a).toArray⟩++⟨#[58]⟩++⟨(Lib.itoa b).toArray⟩++⟨#[58]⟩:ByteArray)=⟨(Lib.itoa a++58 :: (Lib.itoa b++[58])).toArray⟩:=by
 have h58:(⟨#[58]⟩:ByteArray)=⟨([58]:List UInt8).toArray⟩:=rfl
 rw [h58,cat_str,cat_str,cat_str]
 simp
set_option maxRecDepth 20000 in
set_option maxHeartbeats 16000000 in
theorem HeavyTop_c (x:Cfg) (hx:x.Raw) (os:List Opn5) (hos:Ops5Ok os) (v:Value) (a0 a1 a2:Int) (ha0:I64 a0) (ha1:I64 a1) (ha2:I64 a2) (w:World) (hat:Ops5At w v os) (hul:os.length≤140737488355328) (hT:Tabs w) :
 Calls Tryz.prog 5 #[.agg #[.int .i64 x.bits,.int .i64 x.rows,.int .i64 x.width,.int .i64 x.mode,.int .u64 x.seed],v,.agg #[.int .i64 a0,.int .i64 a1,.int .i64 a2]] w fun e w'=>e=.returned (.bool true)∧Ext w w':=by
 obtain ⟨vp,vc,rfl⟩:=hat.sl
 have HV:=Lib.hid hat
 have HT:=Lib.hid hT
 have HW:=fun W hT'=>Lib.hid (works_c W hT')
 have an1:=and_one hx.m
 have hmc:Hid (modeC x=if x.mode % 2=1 then 2 else 1):=Lib.hid rfl
 have hmb:=modeC_bd x
 have HPL:=fun W (hat':Ops5At W (.slice vp os.length vc) os) (hT':Tabs W)=>Lib.hid (TPlayed_c x hx (modeC x) hmb.1 hmb.2.1 os hos _ W hat' hul hT')
 have hag:Ext w ((w.alloc (.cells #[.int .i64 x.bits,.int .i64 x.rows,.int .i64 x.width,.int .i64 x.mode,.int .u64 x.seed] 24)).alloc (.cells #[.int .i64 a0,.int .i64 a1,.int .i64 a2] 67)):=(Ext.alloc' _ _).allocR _
 have HAG:=Lib.hid hag
 clear hat hT hag
 go_enter Tryz.func5,Tryz.ntmps5
 go_wp2_with fail
 refine Calls.mono (HW _ (HT.out.ext HAG.out)).out ?_
 rintro e w1 ⟨rfl,hx1⟩
 have hE1:=HAG.out.trans' hx1
 have hs1:=hx1.size
 simp only [size_alloc] at hs1
 have k0:w1.heap[w.heap.size]?=some (.cells #[.int .i64 x.bits,.int .i64 x.rows,.int .i64 x.width,.int .i64 x.mode,.int .u64 x.seed] 24 (0,0)):=by
  rw [hx1.block _ (by simp only [size_alloc]; omega),heap_old _ _ (by rw [size_alloc]; omega)]
  exact heap_at _ _ rfl
 have k1:w1.heap[w.heap.size+1]?=some (.cells #[.int .i64 a0,.int .i64 a1,.int .i64 a2] 67 (0,0)):=by
  rw [hx1.block _ (by simp only [size_alloc]; omega)]
  exact heap_at _ _ (by simp only [size_alloc])
 have HE1:=Lib.hid hE1
 have HX0:=Lib.hid k0
 have HX1:=Lib.hid k1
 have b3:=(cell_of k0 3).trans rfl
 have b0:=(cell_of k0 0).trans rfl
 have b1:=(cell_of k0 1).trans rfl
 have b2:=(cell_of k0 2).trans rfl
 have b4:=(cell_of k0 4).trans rfl
 have bl:=lt_of k0
 have d0:=(cell_of k1 0).trans rfl
 have d1:=(cell_of k1 1).trans rfl
 have dl:=lt_of k1
 clear hx1 hE1 k0 k1
 go_upto_if 29 with (fail)
 go_cut [8] (fun s8 wx=>s8=.int .i64 (modeC x)∧wx=w1)
 case first =>
  by_cases hmo:x.mode % 2=1
  · have hob:(x.mode % 2 == 1)=true:=by simpa using hmo
    go_wp2
    go_meet
    exact ⟨by rw [hmc.out,if_pos hmo],rfl⟩
  · have hob:(x.mode % 2 == 1)=false:=by simpa using hmo
    go_wp2
    go_meet
    exact ⟨by rw [hmc.out,if_neg hmo],rfl⟩
 case rest =>
  obtain ⟨rfl,rfl⟩:=hcut
  go_wp2_with fail
  refine Calls.mono (HPL _ (HV.out.ext HE1.out) (HT.out.ext HE1.out)).out ?_
  rintro e w2 ⟨N,p,a,m,l,g,f,rfl,hP,hN,hx2⟩
  have hE2:=HE1.out.trans' hx2
  have hx1':=hx2.block _ dl
  have k1:w2.heap[w.heap.size+1]?=some (.cells #[.int .i64 a0,.int .i64 a1,.int .i64 a2] 67 (0,0)):=hx1'.trans HX1.out
  have hm3:(topC x (modeC x)).mode≠3:=hmb.2.2
  generalize topC x (modeC x)=C at *
  have HP:=Lib.hid hP
  have HE2:=Lib.hid hE2
  have HK1:=Lib.hid k1
  have HNW:=Lib.hid (show w.heap.size≤N by omega)
  obtain ⟨h,hh,hh3⟩:=hand3 a0
  have HH1:=fun W=>Lib.hid (THandle_c a0 ha0 W)
  rw [← hh] at HH1
  clear hh
  have an2:=and_26 ha1
  have an3:=and_FFFF ha2
  obtain ⟨le,hle⟩:∃ le,1+a1 % 67108864=le:=⟨_,rfl⟩
  have hleb:1≤le∧le≤67108864:=by omega
  obtain ⟨bu,hbu⟩:∃ bu,a2 % 65536 % 151=bu:=⟨_,rfl⟩
  have hbub:0≤bu∧bu≤150:=by omega
  have hbu2:(a2 % 65536).tmod 151=bu:=by rw [← hbu]; exact Int.tmod_eq_emod_of_nonneg (by omega)
  have d0:=(cell_of k1 0).trans rfl
  have d1:=(cell_of k1 1).trans rfl
  have d2:=(cell_of k1 2).trans rfl
  have dl:=lt_of k1
  have leI:I64 le:=by unfold I64; omega
  have buI:I64 bu:=by unfold I64; omega
  have HHC:=Lib.hid (show (h:Int)+1=((h+1:Nat):Int) by omega)
  have HT1:=fun W=>Lib.hid (TText_c ((h+1:Nat):Int) (hI hh3) W)
  have HT2:=fun W=>Lib.hid (TText_c le leI W)
  have HT3:=fun W=>Lib.hid (TText_c bu buI W)
  have z1:=tb_size (hI hh3)
  have z2:=tb_size leI
  have z3:=tb_size buI
  have hch:=cat_three vHeavy ((h+1:Nat):Int) le bu
  have hlh:=top_heavy (C:=C) (g:=g) hh3 leI buI
  obtain ⟨t1,e1⟩:∃ t,(⟨(Lib.itoa ((h+1:Nat):Int)).toArray⟩:ByteArray)=t:=⟨_,rfl⟩
  obtain ⟨t2,e2⟩:∃ t,(⟨(Lib.itoa le).toArray⟩:ByteArray)=t:=⟨_,rfl⟩
  obtain ⟨t3,e3⟩:∃ t,(⟨(Lib.itoa bu).toArray⟩:ByteArray)=t:=⟨_,rfl⟩
  obtain ⟨sh,e4⟩:∃ t,lineB vHeavy [((h+1:Nat):Int),le,bu]=t:=⟨_,rfl⟩
  rw [e1,e2,e3,e4,vheavy_ba] at hch
  rw [e4] at hlh
  unfold strV at HT1 HT2 HT3
  rw [e1] at HT1 z1
  rw [e2] at HT2 z2
  rw [e3] at HT3 z3
  have HTB:=Lib.hid e1
  have p0:=hP.tw.c0.1
  have pl:=hP.tw.lt
  obtain ⟨S,hS⟩:∃ S,AgF a m l=S:=⟨_,rfl⟩
  have nS:¬ S p:=by rw [← hS]; exact hP.np
  have HSS:=Lib.hid hS
  have HHV:=Lib.hid (heavy_is (ptU C (g h)) (least:=le) (budget:=bu) hleb.1 (by omega))
  have HM3:=Lib.hid hm3
  clear hx2 hE2 hx1' k1 b0 b1 b2 b3 b4 bl hN hP HPL hmb an1 e1 e2 e3 e4 hS hbu
  go_wp2_with fail
  refine Calls.mono (HH1 _).out ?_
  rintro e w3 ⟨rfl,rfl⟩
  go_wp2_with fail
  have hC0:=afs_drew S w3
  refine pi_start (fun w'=>∃ x:AftS S w3,w'=x.w) [] (by kernel_rfl) ?_
  refine pi_t 0 rfl (by kernel_rfl) (by kernel_rfl) (fun _ _ _ _ h=>h) (fun K hK=>?_)
  go_big_quiet_op
  refine hK _ ?_
  clear hK K
  refine pi_t 1 rfl (by kernel_rfl) (by kernel_rfl) (fun _ _ _ _ h=>h) (fun K hK=>?_)
  go_big_quiet_op
  refine hK _ ?_
  clear hK K
  refine pi_t 2 rfl (by kernel_rfl) (by kernel_rfl) (fun _ _ _ _ h=>h) (fun K hK=>?_)
  go_big_quiet_op
  refine hK _ ?_
  clear hK K
  refine pi_t 4 rfl (by kernel_rfl) (by kernel_rfl) (fun _ _ _ _ h=>h) (fun K hK=>?_)
  go_big_quiet_op
  refine hK _ ?_
  clear hK K
  refine pi_t 5 rfl (by kernel_rfl) (by kernel_rfl) (fun _ _ _ _ h=>h) (fun K hK=>?_)
  go_big_quiet_op
  refine hK _ ?_
  clear hK K
  refine pi_t 9 rfl (by kernel_rfl) (by kernel_rfl) (fun _ _ _ _ h=>h) (fun K hK=>?_)
  go_big_quiet_op
  refine hK _ ?_
  clear hK K
  refine pi_t 13 rfl (by kernel_rfl) (by kernel_rfl) (fun _ _ _ _ h=>h) (fun K hK=>?_)
  go_big_quiet_op
  refine hK _ ?_
  clear hK K
  refine pi_c 3 (by assumption) rfl (by kernel_rfl) (by kernel_rfl) (fun _ _ _ _ h=>h) (fun K hK=>?_)
  go_big_quiet_op
  refine hK _ ?_
  clear hK K
  refine pi_l 6 rfl (by kernel_rfl) (fun K hK=>?_)
  go_wp2_with (go_at_call 16; rw [HHC.out]; refine (HT1 _).out.mono ?_; rintro e y1 ⟨rfl,hy1⟩)
  refine hK _ _ (fun _ h=>afs_step h hy1) ?_
  clear hK K
  refine pi_t 7 rfl (by kernel_rfl) (by kernel_rfl) (fun _ _ _ _ h=>h) (fun K hK=>?_)
  go_big_quiet_op
  refine hK _ ?_
  clear hK K
  refine pi_t 8 rfl (by kernel_rfl) (by kernel_rfl) (fun _ _ _ _ h=>h) (fun K hK=>?_)
  go_big_quiet_op
  refine hK _ ?_
  clear hK K
  refine pi_l 10 rfl (by kernel_rfl) (fun K hK=>?_)
  go_wp2_with (go_at_call 16; refine (HT2 _).out.mono ?_; rintro e y2 ⟨rfl,hy2⟩)
  refine hK _ _ (fun _ h=>afs_step h hy2) ?_
  clear hK K
  refine pi_t 11 rfl (by kernel_rfl) (by kernel_rfl) (fun _ _ _ _ h=>h) (fun K hK=>?_)
  go_big_quiet_op
  refine hK _ ?_
  clear hK K
  refine pi_t 12 rfl (by kernel_rfl) (by kernel_rfl) (fun _ _ _ _ h=>h) (fun K hK=>?_)
  go_big_quiet_op
  refine hK _ ?_
  clear hK K
  refine pi_l 14 rfl (by kernel_rfl) (fun K hK=>?_)
  go_wp2_with (go_at_call 16; refine (HT3 _).out.mono ?_; rintro e y3 ⟨rfl,hy3⟩)
  refine hK _ _ (fun _ h=>afs_step h hy3) ?_
  clear hK K
  have HY:=Lib.hid ((((Ext.refl w3).drewR.trans' hy1).trans' hy2).trans' hy3)
  clear hy1 hy2 hy3
  refine pi_t 15 rfl (by kernel_rfl) (by kernel_rfl) (fun _ _ _ _ h=>h) (fun K hK=>?_)
  go_big_quiet_op
  refine hK _ ?_
  clear hK K
  refine pi_l 16 rfl (by kernel_rfl) (fun K hK=>?_)
  rcases HHV.out with ⟨hv1,hv2⟩ | hv1
  · rw [hv1] at hlh
    have HL:=Lib.hid (show LineIs (topSt C g) sh (some (errT 7),topSt C g) from hlh)
    clear hlh hv1
    go_wp2_with (go_at_call 15; refine ((HP.out.ext HY.out).ask HL.out).mono ?_; rintro e w4 ⟨rfl,l4,hq4⟩; rw [err7_v])
    have hM4:Mod S w3 w4:=by rw [← HSS.out]; exact (HY.out.mod _).trans hq4.md
    refine hK _ _ (fun _ _=>⟨⟨_,hM4⟩,rfl⟩) ?_
    clear hK K
    refine pi_t 17 rfl (by kernel_rfl) (by kernel_rfl) (fun _ _ _ _ h=>h) (fun K hK=>?_)
    go_big_quiet_op
    refine hK _ ?_
    clear hK K
    refine pi_t 18 rfl (by kernel_rfl) (by kernel_rfl) (fun _ _ _ _ h=>h) (fun K hK=>?_)
    go_big_quiet_op
    refine hK _ ?_
    clear hK K
    refine pi_t 19 rfl (by kernel_rfl) (by kernel_rfl) (fun _ _ _ _ h=>h) (fun K hK=>?_)
    go_big_quiet_op
    refine hK _ ?_
    clear hK K
    refine pi_t 20 rfl (by kernel_rfl) (by kernel_rfl) (fun _ _ _ _ h=>h) (fun K hK=>?_)
    go_big_quiet_op
    refine hK _ ?_
    clear hK K
    refine pi_t 21 rfl (by kernel_rfl) (by kernel_rfl) (fun _ _ _ _ h=>h) (fun K hK=>?_)
    go_big_quiet_op
    refine hK _ ?_
    clear hK K
    refine pi_end (by kernel_rfl) ?_
    have hB4:Below N w3 w4:=Below.trans (HP.out.below_ext HY.out) ((HP.out.ext HY.out).ag.below hq4.md)
    have HE4:=Lib.hid (Below.trans HE2.out (Below.mono hB4 HNW.out))
    clear hM4 hB4 hq4 hC0
    go_wp2
    go_ret
    exact ⟨rfl,HE4.out⟩
  · rw [hv1] at hlh
    have hlh2:LineIs (topSt C g) sh (some (repT (.list (fdFrom (ptU C (g h)) le 7))),topSt C g):=hlh
    have hDl:=fdFrom_len (ptU C (g h)) le
    have HDO:=Lib.hid (fun f hf=>fdFrom_ok (C:=C) (ls:=g h) (least:=le) (f:=f) hf)
    have hFI:∀ f∈fdFrom (ptU C (g h)) le 7,I64 (f.1:Int)∧I64 f.2.1∧I64 f.2.2:=fun f hf=>by
     obtain ⟨x1,x2,x3,x4⟩:=HDO.out f hf
     exact ⟨by unfold I64; omega,by unfold I64; omega,x4⟩
    have hvl:=hvT_len hFI
    rw [hvT_rep fun f hf=>(HDO.out f hf).2.1] at hlh2
    obtain ⟨rb,hrb⟩:∃ t,(⟨([108,105,115,116]++hvT (fdFrom (ptU C (g h)) le 7)).toArray⟩:ByteArray)=t:=⟨_,rfl⟩
    have hrd:rb.data.toList=[108,105,115,116]++hvT (fdFrom (ptU C (g h)) le 7):=by rw [← hrb]
    have hrs:rb.size=4+(hvT (fdFrom (ptU C (g h)) le 7)).length:=by rw [Lib.size_eq,hrd]; simp; omega
    have x1:(rb.extract 0 4).data.toList=[108,105,115,116]:=by rw [Lib.extract_data,hrd]; simp
    have x2:(rb.extract 4 rb.size).data.toList=hvT (fdFrom (ptU C (g h)) le 7):=by rw [Lib.extract_data,hrd,hrs]; simp
    have hcm2:((rb.extract 0 4).toList == [108,105,115,116])=true:=by
     rw [Lib.toList_data,x1]
     rfl
    have hne7:(rb.toList == [101,114,114,111,114,32,55])=false:=by
     rw [Lib.toList_data,hrd]
     rfl
    have hrsz:4≤rb.size∧rb.size≤100000:=by omega
    have HL:=Lib.hid hlh2
    have HRB:=Lib.hid (show strV ([108,105,115,116]++hvT (fdFrom (ptU C (g h)) le 7))=.string rb from congrArg Value.string hrb)
    have HX2:=Lib.hid x2
    clear hlh hlh2 hv1 hrb hrd hrs x1 x2 hvl
    go_wp2_with (go_at_call 15; refine ((HP.out.ext HY.out).ask HL.out).mono ?_; rintro e w4 ⟨rfl,l4,hq4⟩; rw [HRB.out])
    have hM4:Mod S w3 w4:=by rw [← HSS.out]; exact (HY.out.mod _).trans hq4.md
    refine hK _ _ (fun _ _=>⟨⟨_,hM4⟩,rfl⟩) ?_
    clear hK K
    refine pi_t 17 rfl (by kernel_rfl) (by kernel_rfl) (fun _ _ _ _ h=>h) (fun K hK=>?_)
    go_big_quiet_op
    refine hK _ ?_
    clear hK K
    refine pi_t 18 rfl (by kernel_rfl) (by kernel_rfl) (fun _ _ _ _ h=>h) (fun K hK=>?_)
    go_big_quiet_op
    refine hK _ ?_
    clear hK K
    refine pi_t 19 rfl (by kernel_rfl) (by kernel_rfl) (fun _ _ _ _ h=>h) (fun K hK=>?_)
    go_big_quiet_op
    refine hK _ ?_
    clear hK K
    refine pi_t 20 rfl (by kernel_rfl) (by kernel_rfl) (fun _ _ _ _ h=>h) (fun K hK=>?_)
    go_big_quiet_op
    refine hK _ ?_
    clear hK K
    refine pi_t 21 rfl (by kernel_rfl) (by kernel_rfl) (fun _ _ _ _ h=>h) (fun K hK=>?_)
    go_big_quiet_op
    refine hK _ ?_
    clear hK K
    refine pi_end (by kernel_rfl) ?_
    have hB4:Below N w3 w4:=Below.trans (HP.out.below_ext HY.out) ((HP.out.ext HY.out).ag.below hq4.md)
    have HB4:=Lib.hid hB4
    have HP4:=Lib.hid hq4.at_
    clear hM4 hB4 hq4 hC0 p0 pl nS
    have hxs:(rb.extract 4 rb.size).size≤100000000:=by
     have:(rb.extract 4 rb.size).size≤rb.size:=by rw [Lib.size_eq,Lib.extract_data,Lib.size_eq]; simp
     omega
    have HWD:=fun W=>Lib.hid (RWords_c (rb.extract 4 rb.size) hxs (by rw [HX2.out]; exact hvT_no) W)
    go_wp2_with fail
    refine Calls.mono (HWD _).out ?_
    rintro e w5 ⟨⟨vL,rfl,hown⟩,hx5⟩
    obtain ⟨hwl,hwx⟩:=words_hv HX2.out
    obtain ⟨pL,cL,rfl⟩:=own_sl hown
    rw [hwl] at hown ⊢
    obtain ⟨D,hD⟩:∃ D,fdFrom (ptU C (g h)) le 7=D:=⟨_,rfl⟩
    rw [hD] at hwl hown hwx hDl hFI ⊢
    have HDD:=Lib.hid hD
    have HP5:=Lib.hid (HP4.out.ext hx5)
    have HB5:=Lib.hid (Below.trans HB4.out (HP4.out.below_ext hx5))
    have hrow:HvRow w5 a m l4 pL cL D:=fun h0=>by
     obtain ⟨gL,cap,cur,tL,e1,e2,e3,e4,e5⟩:=own_words hown (by rw [hwl]; exact h0)
     rw [hwl] at e1 e2 e5
     simp only [Value.slice.injEq] at e1
     obtain ⟨rfl,_,rfl⟩:=e1
     refine ⟨gL,rfl,e2,lt_of e4,fun hh=>?_,fun k hk=>?_⟩
     · have:=HP4.out.ag.flt hh
       omega
     · have e6:=e5 k hk
       dsimp only at e6
       rw [hwx k hk] at e6
       exact e6
    have HROW:=Lib.hid hrow
    clear hx5 hown hwx hrow hD hcm2 hne7
    go_wp2_with fail
    go_loopw [16,17,18,19,20,21,22,23,24] (fun u16 u17 _ _ _ _ _ _ _ wr=>∃ (t:Nat) (lz la:Int) (l':List (Nat × Th)),t≤7∧lz=(t:Int) - 1∧u17=.int .i64 lz∧la=(cntS (ptU C (g h)) le t:Int) - 1∧u16=.int .i64 la∧PlAt wr N p a m l' C 35184372088832 g f∧HvRow wr a m l' pL cL D∧Below N w3 wr) (fun _ u17 _ _ _ _ _ _ _ _=>(intOf u17+1).toNat)
    case atStart=>exact ⟨7,6,-1,l4,by omega,rfl,rfl,rfl,rfl,HP5.out,HROW.out,HB5.out⟩
    case round =>
     obtain ⟨t,lz,la,l',ht,hlz,rfl,hla,rfl,hP,hR,hB⟩:=hrel
     by_cases ht0:t=0
     · subst ht0
       have hlen:la=(D.length:Int) - 1:=by rw [hla,← HDD.out]; rfl
       have hlz0:lz < 0:=by omega
       have HEF:=Lib.hid (Below.trans HE2.out (Below.mono hB HNW.out))
       clear hP hR hB hla hlz
       go_wp2
       go_ret
       exact ⟨rfl,HEF.out⟩
     · obtain ⟨lv,rfl⟩:∃ lv,t=lv+1:=⟨t - 1,by omega⟩
       have hlv6:lv≤6:=by omega
       have hlzv:lz=(lv:Int):=by omega
       obtain ⟨p1,p2,p3⟩:=pow6 hlv6
       have hsh:(64:Int) / 2 ^ lz.toNat=((2 ^ (6 - lv):Nat):Int):=by rw [hlzv,Int.toNat_natCast]; exact p3
       obtain ⟨M,hM⟩:∃ M,2 ^ (6 - lv)=M:=⟨_,rfl⟩
       rw [hM] at p1 p2 p3 hsh
       have HMM:=Lib.hid hM
       have hlzb:0≤lz∧lz≤6:=by omega
       have HLZ:=Lib.hid hlzv
       have HP:=Lib.hid hP
       have HR:=Lib.hid hR
       have HB:=Lib.hid hB
       have HLA:=Lib.hid hla
       clear hP hR hB hla hlz hM hlzv p3
       go_wp2_with fail
       go_loopw [16,18,19,20,21,22,23,24] (fun u16 u18 _ _ _ _ _ _ wr'=>∃ (i:Nat) (iz la':Int) (l2:List (Nat × Th)),i≤M∧iz=(i:Int)∧u18=.int .i64 iz∧la'=(cntT (ptU C (g h)) le lv i:Int) - 1∧u16=.int .i64 la'∧PlAt wr' N p a m l2 C 35184372088832 g f∧HvRow wr' a m l2 pL cL D∧Below N w3 wr') (fun _ u18 _ _ _ _ _ _ _=>64 - (intOf u18).toNat)
       case atStart=>exact ⟨0,0,la,l',by omega,rfl,rfl,HLA.out,rfl,HP.out,HR.out,HB.out⟩
       case round =>
        obtain ⟨i,iz,la',l2,hi,hiz,rfl,hla',rfl,hP2,hR2,hB2⟩:=hrel
        by_cases hlt:i < M
        · have HLZV:=HLZ.out
          have hkl:keys C lv=((2 ^ (6 - lv):Nat):Int):=topKeys hP2.hb hlv6
          rw [HMM.out] at hkl
          have hiz0:0≤iz∧iz < 64∧iz < keys C lv:=by omega
          have hn:=hP2.pt_bd HM3.out hh3 hlv6 hiz0.1 hiz0.2.2
          have hlp:=top_point (C:=C) (g:=g) hh3 (lv:=lv) hlv6 hiz0.1 hiz0.2.2 hiz0.2.1
          obtain ⟨n,hnn⟩:∃ n,ptU C (g h) lv iz=n:=⟨_,rfl⟩
          rw [hnn,← HLZV] at hlp
          rw [hnn] at hn
          have HNN:=Lib.hid hnn
          have lzI:I64 lz:=by unfold I64; omega
          have izI:I64 iz:=by unfold I64; omega
          have nI:I64 n:=by unfold I64; omega
          have HTA:=fun W=>Lib.hid (TText_c lz lzI W)
          have HTC:=fun W=>Lib.hid (TText_c iz izI W)
          have HTN:=fun W=>Lib.hid (TText_c n nI W)
          have za:=tb_size lzI
          have zb:=tb_size izI
          have zn:=tb_size nI
          have hcp:=cat_three vPoint ((h+1:Nat):Int) lz iz
          have hcf:=cat_fw lz iz n
          obtain ⟨ta,e1⟩:∃ t,(⟨(Lib.itoa lz).toArray⟩:ByteArray)=t:=⟨_,rfl⟩
          obtain ⟨tb,e2⟩:∃ t,(⟨(Lib.itoa iz).toArray⟩:ByteArray)=t:=⟨_,rfl⟩
          obtain ⟨tn,e3⟩:∃ t,(⟨(Lib.itoa n).toArray⟩:ByteArray)=t:=⟨_,rfl⟩
          obtain ⟨sp,e4⟩:∃ t,lineB vPoint [((h+1:Nat):Int),lz,iz]=t:=⟨_,rfl⟩
          obtain ⟨rp,e5⟩:∃ t,(⟨(repT (.number n)).toArray⟩:ByteArray)=t:=⟨_,rfl⟩
          obtain ⟨xf,e6⟩:∃ t,(⟨(Lib.itoa lz++58 :: (Lib.itoa iz++58 :: Lib.itoa n)).toArray⟩:ByteArray)=t:=⟨_,rfl⟩
          have hxf:xf.data.toList=fw (lv,iz,n):=by rw [← e6,HLZV]; rfl
          have hrp:rp.data.toList=[110,117,109,98,101,114,32]++Lib.itoa n:=by rw [← e5]; rfl
          have HNP:=fun W=>Lib.hid (TNumber_c n nI [110,117,109,98,101,114,32] rp ⟨#[110,117,109,98,101,114,32]⟩ rfl hrp (by decide) W)
          have HRP:=Lib.hid (show strV (repT (.number n))=.string rp from congrArg Value.string e5)
          rw [HTB.out,e1,e2,e4,vpoint_bh] at hcp
          rw [e1,e2,e3,e6] at hcf
          rw [e4] at hlp
          rw [e1] at za
          rw [e2] at zb
          rw [e3] at zn
          unfold strV at HTA HTC HTN
          rw [e1] at HTA
          rw [e2] at HTC
          rw [e3] at HTN
          have HLP:=Lib.hid hlp
          have HXF:=Lib.hid hxf
          have p0:=hP2.tw.c0.1
          have pl:=hP2.tw.lt
          obtain ⟨S3,hS3⟩:∃ S,AgF a m l2=S:=⟨_,rfl⟩
          have nS3:¬ S3 p:=by rw [← hS3]; exact hP2.np
          have HSS3:=Lib.hid hS3
          have HP2:=Lib.hid hP2
          have HR2:=Lib.hid hR2
          have HB2:=Lib.hid hB2
          have HIZ:=Lib.hid hiz
          have HLA2:=Lib.hid hla'
          have hcle:=cnt_le (ptU C (g h)) le hlv6 (i:=i) (by rw [HMM.out]; exact hi)
          rw [HDD.out] at hcle
          have hlab:-1≤la'∧la'≤127:=by omega
          have hizb:0≤iz∧iz < 64∧iz < M:=by omega
          clear e1 e2 e3 e4 e5 e6 hxf hrp hlp hS3 hP2 hR2 hB2 hiz hla' hnn hkl hiz0 HLZV
          go_wp2_with fail
          have hC0:=afs_drew S3 wr
          refine pi_start (fun w'=>∃ x:AftS S3 wr,w'=x.w) [] (by kernel_rfl) ?_
          refine pi_t 0 rfl (by kernel_rfl) (by kernel_rfl) (fun _ _ _ _ h=>h) (fun K hK=>?_)
          go_big_quiet_op
          refine hK _ ?_
          clear hK K
          refine pi_t 1 rfl (by kernel_rfl) (by kernel_rfl) (fun _ _ _ _ h=>h) (fun K hK=>?_)
          go_big_quiet_op
          refine hK _ ?_
          clear hK K
          refine pi_t 2 rfl (by kernel_rfl) (by kernel_rfl) (fun _ _ _ _ h=>h) (fun K hK=>?_)
          go_big_quiet_op
          refine hK _ ?_
          clear hK K
          refine pi_t 4 rfl (by kernel_rfl) (by kernel_rfl) (fun _ _ _ _ h=>h) (fun K hK=>?_)
          go_big_quiet_op
          refine hK _ ?_
          clear hK K
          refine pi_t 5 rfl (by kernel_rfl) (by kernel_rfl) (fun _ _ _ _ h=>h) (fun K hK=>?_)
          go_big_quiet_op
          refine hK _ ?_
          clear hK K
          refine pi_t 9 rfl (by kernel_rfl) (by kernel_rfl) (fun _ _ _ _ h=>h) (fun K hK=>?_)
          go_big_quiet_op
          refine hK _ ?_
          clear hK K
          refine pi_t 13 rfl (by kernel_rfl) (by kernel_rfl) (fun _ _ _ _ h=>h) (fun K hK=>?_)
          go_big_quiet_op
          refine hK _ ?_
          clear hK K
          refine pi_c 3 (by assumption) rfl (by kernel_rfl) (by kernel_rfl) (fun _ _ _ _ h=>h) (fun K hK=>?_)
          go_big_quiet_op
          refine hK _ ?_
          clear hK K
          refine pi_l 6 rfl (by kernel_rfl) (fun K hK=>?_)
          go_wp2_with (go_at_call 16; rw [HHC.out]; refine (HT1 _).out.mono ?_; rintro e y1 ⟨rfl,hy1⟩)
          refine hK _ _ (fun _ h=>afs_step h hy1) ?_
          clear hK K
          refine pi_t 7 rfl (by kernel_rfl) (by kernel_rfl) (fun _ _ _ _ h=>h) (fun K hK=>?_)
          go_big_quiet_op
          refine hK _ ?_
          clear hK K
          refine pi_t 8 rfl (by kernel_rfl) (by kernel_rfl) (fun _ _ _ _ h=>h) (fun K hK=>?_)
          go_big_quiet_op
          refine hK _ ?_
          clear hK K
          refine pi_l 10 rfl (by kernel_rfl) (fun K hK=>?_)
          go_wp2_with (go_at_call 16; refine (HTA _).out.mono ?_; rintro e y2 ⟨rfl,hy2⟩)
          refine hK _ _ (fun _ h=>afs_step h hy2) ?_
          clear hK K
          refine pi_t 11 rfl (by kernel_rfl) (by kernel_rfl) (fun _ _ _ _ h=>h) (fun K hK=>?_)
          go_big_quiet_op
          refine hK _ ?_
          clear hK K
          refine pi_t 12 rfl (by kernel_rfl) (by kernel_rfl) (fun _ _ _ _ h=>h) (fun K hK=>?_)
          go_big_quiet_op
          refine hK _ ?_
          clear hK K
          refine pi_l 14 rfl (by kernel_rfl) (fun K hK=>?_)
          go_wp2_with (go_at_call 16; refine (HTC _).out.mono ?_; rintro e y3 ⟨rfl,hy3⟩)
          refine hK _ _ (fun _ h=>afs_step h hy3) ?_
          clear hK K
          have HY3:=Lib.hid ((((Ext.refl wr).drewR.trans' hy1).trans' hy2).trans' hy3)
          clear hy1 hy2 hy3
          refine pi_t 15 rfl (by kernel_rfl) (by kernel_rfl) (fun _ _ _ _ h=>h) (fun K hK=>?_)
          go_big_quiet_op
          refine hK _ ?_
          clear hK K
          refine pi_l 16 rfl (by kernel_rfl) (fun K hK=>?_)
          go_wp2_with (go_at_call 15; refine ((HP2.out.ext HY3.out).ask HLP.out).mono ?_; rintro e w6 ⟨rfl,l6,hq6⟩; rw [HRP.out])
          have hM6:Mod S3 wr w6:=by rw [← HSS3.out]; exact (HY3.out.mod _).trans hq6.md
          refine hK _ _ (fun _ _=>⟨⟨_,hM6⟩,rfl⟩) ?_
          clear hK K
          refine pi_t 17 rfl (by kernel_rfl) (by kernel_rfl) (fun _ _ _ _ h=>h) (fun K hK=>?_)
          go_big_quiet_op
          refine hK _ ?_
          clear hK K
          refine pi_t 18 rfl (by kernel_rfl) (by kernel_rfl) (fun _ _ _ _ h=>h) (fun K hK=>?_)
          go_big_quiet_op
          refine hK _ ?_
          clear hK K
          refine pi_t 19 rfl (by kernel_rfl) (by kernel_rfl) (fun _ _ _ _ h=>h) (fun K hK=>?_)
          go_big_quiet_op
          refine hK _ ?_
          clear hK K
          refine pi_t 20 rfl (by kernel_rfl) (by kernel_rfl) (fun _ _ _ _ h=>h) (fun K hK=>?_)
          go_big_quiet_op
          refine hK _ ?_
          clear hK K
          refine pi_t 21 rfl (by kernel_rfl) (by kernel_rfl) (fun _ _ _ _ h=>h) (fun K hK=>?_)
          go_big_quiet_op
          refine hK _ ?_
          clear hK K
          refine pi_end (by kernel_rfl) ?_
          have HB6:=Lib.hid (Below.trans HB2.out (Below.trans (HP2.out.below_ext HY3.out) ((HP2.out.ext HY3.out).ag.below hq6.md)))
          have HP6:=Lib.hid hq6.at_
          have HR6:=Lib.hid ((HR2.out.ext HY3.out).step hq6.md hq6.fr)
          clear hM6 hq6 hC0 p0 pl nS3 hcp
          go_wp2_with fail
          refine Calls.mono (HNP _).out ?_
          rintro e w7 ⟨rfl,rfl⟩
          obtain ⟨fd,hfd⟩:∃ b,fdB (ptU C (g h)) le (6 - lv) lv iz=b:=⟨_,rfl⟩
          have HFD:=Lib.hid hfd
          clear hfd
          go_upto_if 147 with (fail)
          go_cut [23] (fun s23 wx=>s23=.bool fd∧Ext w7 wx)
          case first =>
           by_cases hc:la'+1 < (D.length:Int)
           · obtain ⟨c,hcc⟩:∃ c,cntT (ptU C (g h)) le lv i=c:=⟨_,rfl⟩
             have hla1:la'+1=(c:Int):=by rw [HLA2.out,hcc]; omega
             have hcD:c < D.length:=by omega
             obtain ⟨gL,rfl,e2,e3,e4,e5⟩:=HR6.out (by omega)
             have cw:=e5 c hcD
             have hDc:D[c]?=some D[c]:=List.getElem?_eq_getElem hcD
             have hDm:D[c]∈fdFrom (ptU C (g h)) le 7:=by rw [HDD.out]; exact List.getElem_mem hcD
             have hDo:=HDO.out _ hDm
             have heq:fw D[c]=fw (lv,iz,n) ↔ fd=true:=by
              constructor
              · intro e
                have hij:=fw_inj ⟨by unfold I64; omega,by unfold I64; omega⟩ ⟨by unfold I64; dsimp only; omega,by unfold I64; dsimp only; omega⟩ e
                rw [← HFD.out,HIZ.out]
                have hk:(fdFrom (ptU C (g h)) le 7)[c]?=some (lv,(i:Int),D[c].2.2):=by
                 rw [HDD.out,hDc]
                 have x1:D[c].1=lv:=hij.1
                 have x2:D[c].2.1=(i:Int):=hij.2.trans HIZ.out
                 rw [← x1,← x2]
                exact fd_found hk
              · intro e
                have hf:fdB (ptU C (g h)) le (6 - lv) lv (i:Int)=true:=by rw [← HIZ.out,HFD.out]; exact e
                have hk:=fd_at (ptU C (g h)) le hlv6 (by rw [HMM.out]; exact hlt) hf
                rw [HDD.out,hcc,hDc] at hk
                rw [Option.some.inj hk,← HIZ.out,HNN.out]
             obtain ⟨wb,hwb⟩:∃ t,(⟨(fw D[c]).toArray⟩:ByteArray)=t:=⟨_,rfl⟩
             rw [hwb] at cw
             have hwd:wb.data.toList=fw D[c]:=by rw [← hwb]
             have heqb:(wb.toList == xf.toList)=fd:=by
              rw [Lib.toList_data,Lib.toList_data,hwd,HXF.out]
              cases hq:fd with
              | true=>rw [heq.2 hq]; exact beq_self_eq_true _
              | false=>exact beq_eq_false_iff_ne.2 fun e=>by rw [heq.1 e] at hq; cases hq
             clear hDc hDm hDo heq hwb hwd e5 hc
             go_wp2_with fail
             have hC0:=af_drew w7
             refine pi_start (fun w'=>∃ x:After w7,w'=x.w) [] (by kernel_rfl) ?_
             refine pi_t 0 rfl (by kernel_rfl) (by kernel_rfl) (fun _ _ _ _ h=>h) (fun K hK=>?_)
             go_big_quiet_op
             refine hK _ ?_
             clear hK K
             refine pi_t 1 rfl (by kernel_rfl) (by kernel_rfl) (fun _ _ _ _ h=>h) (fun K hK=>?_)
             go_big_quiet_op
             refine hK _ ?_
             clear hK K
             refine pi_t 2 rfl (by kernel_rfl) (by kernel_rfl) (fun _ _ _ _ h=>h) (fun K hK=>?_)
             go_big_quiet_op
             refine hK _ ?_
             clear hK K
             refine pi_t 3 rfl (by kernel_rfl) (by kernel_rfl) (fun _ _ _ _ h=>h) (fun K hK=>?_)
             go_big_quiet_op
             refine hK _ ?_
             clear hK K
             refine pi_t 4 rfl (by kernel_rfl) (by kernel_rfl) (fun _ _ _ _ h=>h) (fun K hK=>?_)
             go_big_quiet_op
             refine hK _ ?_
             clear hK K
             refine pi_t 5 rfl (by kernel_rfl) (by kernel_rfl) (fun _ _ _ _ h=>h) (fun K hK=>?_)
             go_big_quiet_op
             refine hK _ ?_
             clear hK K
             refine pi_t 6 rfl (by kernel_rfl) (by kernel_rfl) (fun _ _ _ _ h=>h) (fun K hK=>?_)
             go_big_quiet_op
             refine hK _ ?_
             clear hK K
             refine pi_t 7 rfl (by kernel_rfl) (by kernel_rfl) (fun _ _ _ _ h=>h) (fun K hK=>?_)
             go_big_quiet_op
             refine hK _ ?_
             clear hK K
             refine pi_t 8 rfl (by kernel_rfl) (by kernel_rfl) (fun _ _ _ _ h=>h) (fun K hK=>?_)
             go_big_quiet_op
             refine hK _ ?_
             clear hK K
             refine pi_t 9 rfl (by kernel_rfl) (by kernel_rfl) (fun _ _ _ _ h=>h) (fun K hK=>?_)
             go_big_quiet_op
             refine hK _ ?_
             clear hK K
             refine pi_t 10 rfl (by kernel_rfl) (by kernel_rfl) (fun _ _ _ _ h=>h) (fun K hK=>?_)
             go_big_quiet_op
             refine hK _ ?_
             clear hK K
             refine pi_t 12 rfl (by kernel_rfl) (by kernel_rfl) (fun _ _ _ _ h=>h) (fun K hK=>?_)
             go_big_quiet_op
             refine hK _ ?_
             clear hK K
             refine pi_t 15 rfl (by kernel_rfl) (by kernel_rfl) (fun _ _ _ _ h=>h) (fun K hK=>?_)
             go_big_quiet_op
             refine hK _ ?_
             clear hK K
             refine pi_t 19 rfl (by kernel_rfl) (by kernel_rfl) (fun _ _ _ _ h=>h) (fun K hK=>?_)
             go_big_quiet_op
             refine hK _ ?_
             clear hK K
             refine pi_c 11 (by assumption) rfl (by kernel_rfl) (by kernel_rfl) (fun _ _ _ _ h=>h) (fun K hK=>?_)
             go_big_quiet_op
             refine hK _ ?_
             clear hK K
             refine pi_l 13 rfl (by kernel_rfl) (fun K hK=>?_)
             go_wp2_with (go_at_call 16; refine (HTA _).out.mono ?_; rintro e y4 ⟨rfl,hy4⟩)
             refine hK _ _ (fun _ h=>af_step h hy4) ?_
             clear hK K
             refine pi_t 14 rfl (by kernel_rfl) (by kernel_rfl) (fun _ _ _ _ h=>h) (fun K hK=>?_)
             go_big_quiet_op
             refine hK _ ?_
             clear hK K
             refine pi_l 16 rfl (by kernel_rfl) (fun K hK=>?_)
             go_wp2_with (go_at_call 16; refine (HTC _).out.mono ?_; rintro e y5 ⟨rfl,hy5⟩)
             refine hK _ _ (fun _ h=>af_step h hy5) ?_
             clear hK K
             refine pi_t 17 rfl (by kernel_rfl) (by kernel_rfl) (fun _ _ _ _ h=>h) (fun K hK=>?_)
             go_big_quiet_op
             refine hK _ ?_
             clear hK K
             refine pi_t 18 rfl (by kernel_rfl) (by kernel_rfl) (fun _ _ _ _ h=>h) (fun K hK=>?_)
             go_big_quiet_op
             refine hK _ ?_
             clear hK K
             refine pi_l 20 rfl (by kernel_rfl) (fun K hK=>?_)
             go_wp2_with (go_at_call 16; refine (HTN _).out.mono ?_; rintro e y6 ⟨rfl,hy6⟩)
             refine hK _ _ (fun _ h=>af_step h hy6) ?_
             clear hK K
             have HY6:=Lib.hid ((((Ext.refl w7).drewR.trans' hy4).trans' hy5).trans' hy6)
             clear hy4 hy5 hy6
             refine pi_t 21 rfl (by kernel_rfl) (by kernel_rfl) (fun _ _ _ _ h=>h) (fun K hK=>?_)
             go_big_quiet_op
             refine hK _ ?_
             clear hK K
             refine pi_t 22 rfl (by kernel_rfl) (by kernel_rfl) (fun _ _ _ _ h=>h) (fun K hK=>?_)
             go_big_quiet_op
             refine hK _ ?_
             clear hK K
             refine pi_t 23 rfl (by kernel_rfl) (by kernel_rfl) (fun _ _ _ _ h=>h) (fun K hK=>?_)
             go_big_quiet_op
             refine hK _ ?_
             clear hK K
             refine pi_t 24 rfl (by kernel_rfl) (by kernel_rfl) (fun _ _ _ _ h=>h) (fun K hK=>?_)
             go_big_quiet_op
             refine hK _ ?_
             clear hK K
             refine pi_end (by kernel_rfl) ?_
             go_wp2_with fail
             go_meet
             exact ⟨rfl,HY6.out⟩
           · have hfdf:fd=false:=by
              cases hq:fd with
              | false=>rfl
              | true =>
                exfalso
                have hf:fdB (ptU C (g h)) le (6 - lv) lv (i:Int)=true:=by rw [← HIZ.out,HFD.out]; exact hq
                have hk:=fd_at (ptU C (g h)) le hlv6 (by rw [HMM.out]; exact hlt) hf
                rw [HDD.out] at hk
                have:=(List.getElem?_eq_some_iff.1 hk).1
                have:=HLA2.out
                omega
             subst hfdf
             obtain ⟨q,hq⟩:∃ q,la'+1=q:=⟨_,rfl⟩
             have hdq:decide (q < (D.length:Int))=false:=decide_eq_false (by omega)
             have hnq:¬ q < (D.length:Int):=by omega
             clear hc
             go_wp2_with fail
             have hC0:=af_drew w7
             refine pi_start (fun w'=>∃ x:After w7,w'=x.w) [] (by kernel_rfl) ?_
             refine pi_t 0 rfl (by kernel_rfl) (by kernel_rfl) (fun _ _ _ _ h=>h) (fun K hK=>?_)
             go_big_quiet_op
             refine hK _ ?_
             clear hK K
             refine pi_t 1 rfl (by kernel_rfl) (by kernel_rfl) (fun _ _ _ _ h=>h) (fun K hK=>?_)
             go_big_quiet_op
             refine hK _ ?_
             clear hK K
             refine pi_t 2 rfl (by kernel_rfl) (by kernel_rfl) (fun _ _ _ _ h=>h) (fun K hK=>?_)
             go_big_quiet_op
             refine hK _ ?_
             clear hK K
             refine pi_t 3 rfl (by kernel_rfl) (by kernel_rfl) (fun _ _ _ _ h=>h) (fun K hK=>?_)
             go_big_quiet_op
             refine hK _ ?_
             clear hK K
             refine pi_t 4 rfl (by kernel_rfl) (by kernel_rfl) (fun _ _ _ _ h=>h) (fun K hK=>?_)
             go_big_quiet_op
             refine hK _ ?_
             clear hK K
             refine pi_t 5 rfl (by kernel_rfl) (by kernel_rfl) (fun _ _ _ _ h=>h) (fun K hK=>?_)
             go_big_quiet_op
             refine hK _ ?_
             clear hK K
             refine pi_no 6 rfl (by kernel_rfl) (by kernel_rfl) (fun _ _ _ _ h=>h) ?_
             simp only [Act.put,List.setIfInBounds_toArray,List.set_cons_zero,List.set_cons_succ]
             refine pi_no 7 rfl (by kernel_rfl) (by kernel_rfl) (fun _ _ _ _ h=>h) ?_
             simp only [Act.put,List.setIfInBounds_toArray,List.set_cons_zero,List.set_cons_succ]
             refine pi_no 8 rfl (by kernel_rfl) (by kernel_rfl) (fun _ _ _ _ h=>h) ?_
             simp only [Act.put,List.setIfInBounds_toArray,List.set_cons_zero,List.set_cons_succ]
             refine pi_no 9 rfl (by kernel_rfl) (by kernel_rfl) (fun _ _ _ _ h=>h) ?_
             simp only [Act.put,List.setIfInBounds_toArray,List.set_cons_zero,List.set_cons_succ]
             refine pi_no 10 rfl (by kernel_rfl) (by kernel_rfl) (fun _ _ _ _ h=>h) ?_
             simp only [Act.put,List.setIfInBounds_toArray,List.set_cons_zero,List.set_cons_succ]
             refine pi_no 12 rfl (by kernel_rfl) (by kernel_rfl) (fun _ _ _ _ h=>h) ?_
             simp only [Act.put,List.setIfInBounds_toArray,List.set_cons_zero,List.set_cons_succ]
             refine pi_no 15 rfl (by kernel_rfl) (by kernel_rfl) (fun _ _ _ _ h=>h) ?_
             simp only [Act.put,List.setIfInBounds_toArray,List.set_cons_zero,List.set_cons_succ]
             refine pi_no 19 rfl (by kernel_rfl) (by kernel_rfl) (fun _ _ _ _ h=>h) ?_
             simp only [Act.put,List.setIfInBounds_toArray,List.set_cons_zero,List.set_cons_succ]
             refine pi_no 11 rfl (by kernel_rfl) (by kernel_rfl) (fun _ _ _ _ h=>h) ?_
             simp only [Act.put,List.setIfInBounds_toArray,List.set_cons_zero,List.set_cons_succ]
             refine pi_no 13 rfl (by kernel_rfl) (by kernel_rfl) (fun _ _ _ _ h=>h) ?_
             simp only [Act.put,List.setIfInBounds_toArray,List.set_cons_zero,List.set_cons_succ]
             refine pi_no 14 rfl (by kernel_rfl) (by kernel_rfl) (fun _ _ _ _ h=>h) ?_
             simp only [Act.put,List.setIfInBounds_toArray,List.set_cons_zero,List.set_cons_succ]
             refine pi_no 16 rfl (by kernel_rfl) (by kernel_rfl) (fun _ _ _ _ h=>h) ?_
             simp only [Act.put,List.setIfInBounds_toArray,List.set_cons_zero,List.set_cons_succ]
             refine pi_no 17 rfl (by kernel_rfl) (by kernel_rfl) (fun _ _ _ _ h=>h) ?_
             simp only [Act.put,List.setIfInBounds_toArray,List.set_cons_zero,List.set_cons_succ]
             refine pi_no 18 rfl (by kernel_rfl) (by kernel_rfl) (fun _ _ _ _ h=>h) ?_
             simp only [Act.put,List.setIfInBounds_toArray,List.set_cons_zero,List.set_cons_succ]
             refine pi_no 20 rfl (by kernel_rfl) (by kernel_rfl) (fun _ _ _ _ h=>h) ?_
             simp only [Act.put,List.setIfInBounds_toArray,List.set_cons_zero,List.set_cons_succ]
             refine pi_no 21 rfl (by kernel_rfl) (by kernel_rfl) (fun _ _ _ _ h=>h) ?_
             simp only [Act.put,List.setIfInBounds_toArray,List.set_cons_zero,List.set_cons_succ]
             refine pi_no 22 rfl (by kernel_rfl) (by kernel_rfl) (fun _ _ _ _ h=>h) ?_
             simp only [Act.put,List.setIfInBounds_toArray,List.set_cons_zero,List.set_cons_succ]
             refine pi_t 23 rfl (by kernel_rfl) (by kernel_rfl) (fun _ _ _ _ h=>h) (fun K hK=>?_)
             go_big_quiet_op
             refine hK _ ?_
             clear hK K
             refine pi_t 24 rfl (by kernel_rfl) (by kernel_rfl) (fun _ _ _ _ h=>h) (fun K hK=>?_)
             go_big_quiet_op
             refine hK _ ?_
             clear hK K
             refine pi_end (by kernel_rfl) ?_
             go_wp2_with fail
             go_meet
             exact ⟨rfl,(Ext.refl _).drewR⟩
          case rest =>
           obtain ⟨rfl,hEc⟩:=hcut
           have HPc:=Lib.hid (HP6.out.ext hEc)
           have HRc:=Lib.hid (HR6.out.ext hEc)
           have HBc:=Lib.hid (Below.trans HB6.out (HP6.out.below_ext hEc))
           have HMS:=Lib.hid (TMass_c HPc.out.tw h hh3 lv hlv6 iz (by unfold U64; omega))
           rw [← HLZ.out] at HMS
           have hmsb:=HPc.out.mass_bd hh3 lv iz
           have hcs:=cnt_succ (ptU C (g h)) le lv i
           rw [← HIZ.out,HFD.out] at hcs
           have HCS:=Lib.hid hcs
           obtain ⟨ms,hms⟩:∃ ms,massT (f h) lv iz 64=ms:=⟨_,rfl⟩
           rw [hms] at HMS hmsb
           have HMSV:=Lib.hid hms
           clear hEc hcs hms hcf za zb zn HNP
           cases fd with
           | true =>
             have hge:le≤n:=by rw [← HNN.out]; exact fdB_here HFD.out
             obtain ⟨c,hcc⟩:∃ c,cntT (ptU C (g h)) le lv i=c:=⟨_,rfl⟩
             have hla1:la'+1=(c:Int):=by rw [HLA2.out,hcc]; omega
             have hcn:(cntT (ptU C (g h)) le lv (i+1):Int) - 1=(c:Int):=by rw [HCS.out,hcc]; simp
             have HCN:=Lib.hid hcn
             clear hcn
             go_wp2_with fail
             refine Calls.mono HMS.out ?_
             rintro e w8 ⟨rfl,hx8⟩
             have HP8:=Lib.hid (HPc.out.ext hx8)
             have HR8:=Lib.hid (HRc.out.ext hx8)
             have HB8:=Lib.hid (Below.trans HBc.out (HPc.out.below_ext hx8))
             clear hx8
             go_wp2_with fail
             by_cases hl6:lz < 6
             · have hdl:decide (lz < 6)=true:=decide_eq_true hl6
               have hlvn:lv+1≤6:=by have:=HLZ.out; omega
               have hf:fdB (ptU C (g h)) le (6 - lv) lv (i:Int)=true:=by rw [← HIZ.out]; exact HFD.out
               obtain ⟨k0,hk0,hk1⟩:=fd_above hlvn (by rw [HMM.out]; exact hlt) hf
               rw [hcc] at hk0
               rw [HDD.out] at hk1
               have hk0D:=(List.getElem?_eq_some_iff.1 hk1).1
               have hDk:D[k0]=_:=(List.getElem?_eq_some_iff.1 hk1).2
               obtain ⟨gL,rfl,g2,g3,g4,g5⟩:=HR8.out (by omega)
               have hcL:c≤D.length:=by rw [← hcc,← HDD.out]; exact cnt_le _ _ hlv6 (by rw [HMM.out]; exact hi)
               obtain ⟨l2z,hl2⟩:∃ z:Int,lz+1=z:=⟨_,rfl⟩
               obtain ⟨jz,hj1⟩:∃ z:Int,iz / 2=z:=⟨_,rfl⟩
               have hj2:iz.tdiv 2=jz:=by rw [← hj1]; exact Int.tdiv_eq_ediv_of_nonneg hizb.1
               have l2I:I64 l2z:=by unfold I64; omega
               have jzI:I64 jz:=by unfold I64; omega
               have HTD:=fun W=>Lib.hid (TText_c l2z l2I W)
               have HTE:=fun W=>Lib.hid (TText_c jz jzI W)
               have zd:=tb_size l2I
               have ze:=tb_size jzI
               have hcb:=cat_fw2 l2z jz
               obtain ⟨xb,hxb⟩:∃ t,(⟨(Lib.itoa l2z++58 :: (Lib.itoa jz++[58])).toArray⟩:ByteArray)=t:=⟨_,rfl⟩
               have hfk:(⟨(fw (D.getD k0 (0,0,0))).toArray⟩:ByteArray)=⟨(Lib.itoa l2z++58 :: (Lib.itoa jz++58 :: Lib.itoa (ptU C (g h) (lv+1) ((i / 2:Nat):Int)))).toArray⟩:=by
                rw [show D.getD k0 (0,0,0)=D[k0] by simp [List.getD_eq_getElem?_getD,hk0D],hDk]
                have x1:(((lv+1:Nat):Nat):Int)=l2z:=by rw [← hl2,HLZ.out]; omega
                have x2:((i / 2:Nat):Int)=jz:=by rw [← hj1,HIZ.out]; omega
                unfold fw
                dsimp only
                rw [x1,x2]
               have hhb:=has_begin l2z jz (ptU C (g h) (lv+1) ((i / 2:Nat):Int)) hxb hfk.symm
               have HHE:=fun (W:World) (hx:Ext w8 W)=>Lib.hid (THas_c (w:=W) (g:=gL) (n:=c) (cap:=cL) (ws:=fun k=>⟨(fw (D.getD k (0,0,0))).toArray⟩) (Nat.lt_of_lt_of_le g3 hx.size) (fun k hk=>by
                have:=(hx.cell g3).trans (g5 k (by omega))
                rw [this]
                have e:D.getD k (0,0,0)=D[k]:=by simp [List.getD_eq_getElem?_getD,show k < D.length by omega]
                show _=some (Value.string ⟨(fw (D.getD k (0,0,0))).toArray⟩)
                rw [e]) (by omega) xb (fun k hk=>by
                have hkD:k < D.length:=by omega
                have e:D.getD k (0,0,0)=D[k]:=by simp [List.getD_eq_getElem?_getD,hkD]
                have:=fw_len D[k] (hFI _ (List.getElem_mem hkD))
                rw [e,Lib.size_eq]
                simp only
                omega) k0 hk0 hhb.1 hhb.2)
               obtain ⟨td,e1⟩:∃ t,(⟨(Lib.itoa l2z).toArray⟩:ByteArray)=t:=⟨_,rfl⟩
               obtain ⟨te,e2⟩:∃ t,(⟨(Lib.itoa jz).toArray⟩:ByteArray)=t:=⟨_,rfl⟩
               rw [e1,e2,hxb] at hcb
               rw [e1] at zd
               rw [e2] at ze
               unfold strV at HTD HTE
               rw [e1] at HTD
               rw [e2] at HTE
               have hcLi:(c:Int)≤(cL:Int):=by omega
               clear e1 e2 hfk hhb hDk hk1 hf hxb g5
               have hC0:=af_drew w8
               refine pi_start (fun w'=>∃ x:After w8,w'=x.w) [] (by kernel_rfl) ?_
               refine pi_t 0 rfl (by kernel_rfl) (by kernel_rfl) (fun _ _ _ _ h=>h) (fun K hK=>?_)
               go_big_quiet_op
               refine hK _ ?_
               clear hK K
               refine pi_t 1 rfl (by kernel_rfl) (by kernel_rfl) (fun _ _ _ _ h=>h) (fun K hK=>?_)
               go_big_quiet_op
               refine hK _ ?_
               clear hK K
               refine pi_t 2 rfl (by kernel_rfl) (by kernel_rfl) (fun _ _ _ _ h=>h) (fun K hK=>?_)
               go_big_quiet_op
               refine hK _ ?_
               clear hK K
               refine pi_t 3 rfl (by kernel_rfl) (by kernel_rfl) (fun _ _ _ _ h=>h) (fun K hK=>?_)
               go_big_quiet_op
               refine hK _ ?_
               clear hK K
               refine pi_t 4 rfl (by kernel_rfl) (by kernel_rfl) (fun _ _ _ _ h=>h) (fun K hK=>?_)
               go_big_quiet_op
               refine hK _ ?_
               clear hK K
               refine pi_t 5 rfl (by kernel_rfl) (by kernel_rfl) (fun _ _ _ _ h=>h) (fun K hK=>?_)
               go_big_quiet_op
               refine hK _ ?_
               clear hK K
               refine pi_t 6 rfl (by kernel_rfl) (by kernel_rfl) (fun _ _ _ _ h=>h) (fun K hK=>?_)
               go_big_quiet_op
               refine hK _ ?_
               clear hK K
               refine pi_t 7 rfl (by kernel_rfl) (by kernel_rfl) (fun _ _ _ _ h=>h) (fun K hK=>?_)
               go_big_quiet_op
               refine hK _ ?_
               clear hK K
               refine pi_t 8 rfl (by kernel_rfl) (by kernel_rfl) (fun _ _ _ _ h=>h) (fun K hK=>?_)
               go_big_quiet_op
               refine hK _ ?_
               clear hK K
               refine pi_t 9 rfl (by kernel_rfl) (by kernel_rfl) (fun _ _ _ _ h=>h) (fun K hK=>?_)
               go_big_quiet_op
               refine hK _ ?_
               clear hK K
               refine pi_t 10 rfl (by kernel_rfl) (by kernel_rfl) (fun _ _ _ _ h=>h) (fun K hK=>?_)
               go_big_quiet_op
               refine hK _ ?_
               clear hK K
               refine pi_t 13 rfl (by kernel_rfl) (by kernel_rfl) (fun _ _ _ _ h=>h) (fun K hK=>?_)
               go_big_quiet_op
               refine hK _ ?_
               clear hK K
               refine pi_t 14 rfl (by kernel_rfl) (by kernel_rfl) (fun _ _ _ _ h=>h) (fun K hK=>?_)
               go_big_quiet_op
               refine hK _ ?_
               clear hK K
               refine pi_l 11 rfl (by kernel_rfl) (fun K hK=>?_)
               go_wp2_with (go_at_call 16; refine (HTD _).out.mono ?_; rintro e y4 ⟨rfl,hy4⟩)
               refine hK _ _ (fun _ h=>af_step h hy4) ?_
               clear hK K
               refine pi_t 12 rfl (by kernel_rfl) (by kernel_rfl) (fun _ _ _ _ h=>h) (fun K hK=>?_)
               go_big_quiet_op
               refine hK _ ?_
               clear hK K
               refine pi_l 15 rfl (by kernel_rfl) (fun K hK=>?_)
               go_wp2_with (go_at_call 16; refine (HTE _).out.mono ?_; rintro e y5 ⟨rfl,hy5⟩)
               refine hK _ _ (fun _ h=>af_step h hy5) ?_
               clear hK K
               have HY5:=Lib.hid (((Ext.refl w8).drewR.trans' hy4).trans' hy5)
               clear hy4 hy5
               refine pi_t 16 rfl (by kernel_rfl) (by kernel_rfl) (fun _ _ _ _ h=>h) (fun K hK=>?_)
               go_big_quiet_op
               refine hK _ ?_
               clear hK K
               refine pi_t 17 rfl (by kernel_rfl) (by kernel_rfl) (fun _ _ _ _ h=>h) (fun K hK=>?_)
               go_big_quiet_op
               refine hK _ ?_
               clear hK K
               refine pi_l 18 rfl (by kernel_rfl) (fun K hK=>?_)
               go_wp2_with (go_at_call 32; refine (HHE _ HY5.out).out.mono ?_; rintro e y6 ⟨rfl,rfl⟩)
               refine hK _ _ (fun _ h=>af_step h (Ext.refl _)) ?_
               clear hK K
               refine pi_t 19 rfl (by kernel_rfl) (by kernel_rfl) (fun _ _ _ _ h=>h) (fun K hK=>?_)
               go_big_quiet_op
               refine hK _ ?_
               clear hK K
               refine pi_t 20 rfl (by kernel_rfl) (by kernel_rfl) (fun _ _ _ _ h=>h) (fun K hK=>?_)
               go_big_quiet_op
               refine hK _ ?_
               clear hK K
               refine pi_end (by kernel_rfl) ?_
               have HP9:=Lib.hid (HP8.out.ext HY5.out)
               have HR9:=Lib.hid (HR8.out.ext HY5.out)
               have HB9:=Lib.hid (Below.trans HB8.out (HP8.out.below_ext HY5.out))
               go_wp2_with fail
               go_roundw
               case rel=>exact ⟨i+1,iz+1,(c:Int),l6,by omega,by have:=HIZ.out; omega,by go_num,HCN.out.symm,rfl,HP9.out,HR9.out,HB9.out⟩
               case measure=>simp [intOf]; omega
             · have hdl:decide (lz < 6)=false:=decide_eq_false hl6
               have hC0:=af_drew w8
               refine pi_start (fun w'=>∃ x:After w8,w'=x.w) [] (by kernel_rfl) ?_
               refine pi_t 0 rfl (by kernel_rfl) (by kernel_rfl) (fun _ _ _ _ h=>h) (fun K hK=>?_)
               go_big_quiet_op
               refine hK _ ?_
               clear hK K
               refine pi_t 1 rfl (by kernel_rfl) (by kernel_rfl) (fun _ _ _ _ h=>h) (fun K hK=>?_)
               go_big_quiet_op
               refine hK _ ?_
               clear hK K
               refine pi_t 2 rfl (by kernel_rfl) (by kernel_rfl) (fun _ _ _ _ h=>h) (fun K hK=>?_)
               go_big_quiet_op
               refine hK _ ?_
               clear hK K
               refine pi_t 3 rfl (by kernel_rfl) (by kernel_rfl) (fun _ _ _ _ h=>h) (fun K hK=>?_)
               go_big_quiet_op
               refine hK _ ?_
               clear hK K
               refine pi_t 4 rfl (by kernel_rfl) (by kernel_rfl) (fun _ _ _ _ h=>h) (fun K hK=>?_)
               go_big_quiet_op
               refine hK _ ?_
               clear hK K
               refine pi_t 5 rfl (by kernel_rfl) (by kernel_rfl) (fun _ _ _ _ h=>h) (fun K hK=>?_)
               go_big_quiet_op
               refine hK _ ?_
               clear hK K
               refine pi_no 6 rfl (by kernel_rfl) (by kernel_rfl) (fun _ _ _ _ h=>h) ?_
               simp only [Act.put,List.setIfInBounds_toArray,List.set_cons_zero,List.set_cons_succ]
               refine pi_no 7 rfl (by kernel_rfl) (by kernel_rfl) (fun _ _ _ _ h=>h) ?_
               simp only [Act.put,List.setIfInBounds_toArray,List.set_cons_zero,List.set_cons_succ]
               refine pi_no 8 rfl (by kernel_rfl) (by kernel_rfl) (fun _ _ _ _ h=>h) ?_
               simp only [Act.put,List.setIfInBounds_toArray,List.set_cons_zero,List.set_cons_succ]
               refine pi_no 9 rfl (by kernel_rfl) (by kernel_rfl) (fun _ _ _ _ h=>h) ?_
               simp only [Act.put,List.setIfInBounds_toArray,List.set_cons_zero,List.set_cons_succ]
               refine pi_no 10 rfl (by kernel_rfl) (by kernel_rfl) (fun _ _ _ _ h=>h) ?_
               simp only [Act.put,List.setIfInBounds_toArray,List.set_cons_zero,List.set_cons_succ]
               refine pi_no 13 rfl (by kernel_rfl) (by kernel_rfl) (fun _ _ _ _ h=>h) ?_
               simp only [Act.put,List.setIfInBounds_toArray,List.set_cons_zero,List.set_cons_succ]
               refine pi_no 14 rfl (by kernel_rfl) (by kernel_rfl) (fun _ _ _ _ h=>h) ?_
               simp only [Act.put,List.setIfInBounds_toArray,List.set_cons_zero,List.set_cons_succ]
               refine pi_no 11 rfl (by kernel_rfl) (by kernel_rfl) (fun _ _ _ _ h=>h) ?_
               simp only [Act.put,List.setIfInBounds_toArray,List.set_cons_zero,List.set_cons_succ]
               refine pi_no 12 rfl (by kernel_rfl) (by kernel_rfl) (fun _ _ _ _ h=>h) ?_
               simp only [Act.put,List.setIfInBounds_toArray,List.set_cons_zero,List.set_cons_succ]
               refine pi_no 15 rfl (by kernel_rfl) (by kernel_rfl) (fun _ _ _ _ h=>h) ?_
               simp only [Act.put,List.setIfInBounds_toArray,List.set_cons_zero,List.set_cons_succ]
               refine pi_no 16 rfl (by kernel_rfl) (by kernel_rfl) (fun _ _ _ _ h=>h) ?_
               simp only [Act.put,List.setIfInBounds_toArray,List.set_cons_zero,List.set_cons_succ]
               refine pi_no 17 rfl (by kernel_rfl) (by kernel_rfl) (fun _ _ _ _ h=>h) ?_
               simp only [Act.put,List.setIfInBounds_toArray,List.set_cons_zero,List.set_cons_succ]
               refine pi_no 18 rfl (by kernel_rfl) (by kernel_rfl) (fun _ _ _ _ h=>h) ?_
               simp only [Act.put,List.setIfInBounds_toArray,List.set_cons_zero,List.set_cons_succ]
               refine pi_no 19 rfl (by kernel_rfl) (by kernel_rfl) (fun _ _ _ _ h=>h) ?_
               simp only [Act.put,List.setIfInBounds_toArray,List.set_cons_zero,List.set_cons_succ]
               refine pi_t 20 rfl (by kernel_rfl) (by kernel_rfl) (fun _ _ _ _ h=>h) (fun K hK=>?_)
               go_big_quiet_op
               refine hK _ ?_
               clear hK K
               refine pi_end (by kernel_rfl) ?_
               have HP9:=Lib.hid (HP8.out.ext (Ext.refl w8).drewR)
               have HR9:=Lib.hid (HR8.out.ext (Ext.refl w8).drewR)
               have HB9:=Lib.hid (Below.drew HB8.out)
               go_wp2_with fail
               go_roundw
               case rel=>exact ⟨i+1,iz+1,(c:Int),l6,by omega,by have:=HIZ.out; omega,by go_num,HCN.out.symm,rfl,HP9.out,HR9.out,HB9.out⟩
               case measure=>simp [intOf]; omega
           | false =>
             have hcn:(cntT (ptU C (g h)) le lv (i+1):Int) - 1=la':=by rw [HCS.out,HLA2.out]; simp
             have HCN:=Lib.hid hcn
             clear hcn
             go_wp2_with fail
             refine Calls.mono HMS.out ?_
             rintro e w8 ⟨rfl,hx8⟩
             have HP8:=Lib.hid (HPc.out.ext hx8)
             have HR8:=Lib.hid (HRc.out.ext hx8)
             have HB8:=Lib.hid (Below.trans HBc.out (HPc.out.below_ext hx8))
             have HPN:=Lib.hid (TPlain_c HP8.out.tw h hh3)
             clear hx8
             cases hpl:plainT (f h) 64 with
             | false =>
               rw [hpl] at HPN
               go_wp2_with fail
               refine Calls.mono HPN.out ?_
               rintro e w9 ⟨rfl,rfl⟩
               go_wp2_with fail
               have hC0:=af_drew w9
               refine pi_start (fun w'=>∃ x:After w9,w'=x.w) [] (by kernel_rfl) ?_
               refine pi_t 0 rfl (by kernel_rfl) (by kernel_rfl) (fun _ _ _ _ h=>h) (fun K hK=>?_)
               go_big_quiet_op
               refine hK _ ?_
               clear hK K
               refine pi_t 1 rfl (by kernel_rfl) (by kernel_rfl) (fun _ _ _ _ h=>h) (fun K hK=>?_)
               go_big_quiet_op
               refine hK _ ?_
               clear hK K
               refine pi_no 2 rfl (by kernel_rfl) (by kernel_rfl) (fun _ _ _ _ h=>h) ?_
               simp only [Act.put,List.setIfInBounds_toArray,List.set_cons_zero,List.set_cons_succ]
               refine pi_no 3 rfl (by kernel_rfl) (by kernel_rfl) (fun _ _ _ _ h=>h) ?_
               simp only [Act.put,List.setIfInBounds_toArray,List.set_cons_zero,List.set_cons_succ]
               refine pi_t 4 rfl (by kernel_rfl) (by kernel_rfl) (fun _ _ _ _ h=>h) (fun K hK=>?_)
               go_big_quiet_op
               refine hK _ ?_
               clear hK K
               refine pi_t 5 rfl (by kernel_rfl) (by kernel_rfl) (fun _ _ _ _ h=>h) (fun K hK=>?_)
               go_big_quiet_op
               refine hK _ ?_
               clear hK K
               refine pi_no 6 rfl (by kernel_rfl) (by kernel_rfl) (fun _ _ _ _ h=>h) ?_
               simp only [Act.put,List.setIfInBounds_toArray,List.set_cons_zero,List.set_cons_succ]
               refine pi_no 7 rfl (by kernel_rfl) (by kernel_rfl) (fun _ _ _ _ h=>h) ?_
               simp only [Act.put,List.setIfInBounds_toArray,List.set_cons_zero,List.set_cons_succ]
               refine pi_no 8 rfl (by kernel_rfl) (by kernel_rfl) (fun _ _ _ _ h=>h) ?_
               simp only [Act.put,List.setIfInBounds_toArray,List.set_cons_zero,List.set_cons_succ]
               refine pi_no 9 rfl (by kernel_rfl) (by kernel_rfl) (fun _ _ _ _ h=>h) ?_
               simp only [Act.put,List.setIfInBounds_toArray,List.set_cons_zero,List.set_cons_succ]
               refine pi_no 10 rfl (by kernel_rfl) (by kernel_rfl) (fun _ _ _ _ h=>h) ?_
               simp only [Act.put,List.setIfInBounds_toArray,List.set_cons_zero,List.set_cons_succ]
               refine pi_no 13 rfl (by kernel_rfl) (by kernel_rfl) (fun _ _ _ _ h=>h) ?_
               simp only [Act.put,List.setIfInBounds_toArray,List.set_cons_zero,List.set_cons_succ]
               refine pi_no 14 rfl (by kernel_rfl) (by kernel_rfl) (fun _ _ _ _ h=>h) ?_
               simp only [Act.put,List.setIfInBounds_toArray,List.set_cons_zero,List.set_cons_succ]
               refine pi_no 11 rfl (by kernel_rfl) (by kernel_rfl) (fun _ _ _ _ h=>h) ?_
               simp only [Act.put,List.setIfInBounds_toArray,List.set_cons_zero,List.set_cons_succ]
               refine pi_no 12 rfl (by kernel_rfl) (by kernel_rfl) (fun _ _ _ _ h=>h) ?_
               simp only [Act.put,List.setIfInBounds_toArray,List.set_cons_zero,List.set_cons_succ]
               refine pi_no 15 rfl (by kernel_rfl) (by kernel_rfl) (fun _ _ _ _ h=>h) ?_
               simp only [Act.put,List.setIfInBounds_toArray,List.set_cons_zero,List.set_cons_succ]
               refine pi_no 16 rfl (by kernel_rfl) (by kernel_rfl) (fun _ _ _ _ h=>h) ?_
               simp only [Act.put,List.setIfInBounds_toArray,List.set_cons_zero,List.set_cons_succ]
               refine pi_no 17 rfl (by kernel_rfl) (by kernel_rfl) (fun _ _ _ _ h=>h) ?_
               simp only [Act.put,List.setIfInBounds_toArray,List.set_cons_zero,List.set_cons_succ]
               refine pi_no 18 rfl (by kernel_rfl) (by kernel_rfl) (fun _ _ _ _ h=>h) ?_
               simp only [Act.put,List.setIfInBounds_toArray,List.set_cons_zero,List.set_cons_succ]
               refine pi_no 19 rfl (by kernel_rfl) (by kernel_rfl) (fun _ _ _ _ h=>h) ?_
               simp only [Act.put,List.setIfInBounds_toArray,List.set_cons_zero,List.set_cons_succ]
               refine pi_t 20 rfl (by kernel_rfl) (by kernel_rfl) (fun _ _ _ _ h=>h) (fun K hK=>?_)
               go_big_quiet_op
               refine hK _ ?_
               clear hK K
               refine pi_end (by kernel_rfl) ?_
               have HP9:=Lib.hid (HP8.out.ext (Ext.refl w9).drewR)
               have HR9:=Lib.hid (HR8.out.ext (Ext.refl w9).drewR)
               have HB9:=Lib.hid (Below.drew HB8.out)
               go_wp2_with fail
               go_roundw
               case rel=>exact ⟨i+1,iz+1,la',l6,by omega,by have:=HIZ.out; omega,by go_num,HCN.out.symm,rfl,HP9.out,HR9.out,HB9.out⟩
               case measure=>simp [intOf]; omega
             | true =>
               rw [hpl] at HPN
               have hml:ms < le:=by
                rw [← HMSV.out]
                exact hv_mass HP8.out HM3.out hh3 hpl hlv6 hizb.1 (by rw [HMM.out]; exact hizb.2.2) HFD.out
               go_wp2_with fail
               refine Calls.mono HPN.out ?_
               rintro e w9 ⟨rfl,rfl⟩
               go_wp2_with fail
               have hC0:=af_drew w9
               refine pi_start (fun w'=>∃ x:After w9,w'=x.w) [] (by kernel_rfl) ?_
               refine pi_t 0 rfl (by kernel_rfl) (by kernel_rfl) (fun _ _ _ _ h=>h) (fun K hK=>?_)
               go_big_quiet_op
               refine hK _ ?_
               clear hK K
               refine pi_t 1 rfl (by kernel_rfl) (by kernel_rfl) (fun _ _ _ _ h=>h) (fun K hK=>?_)
               go_big_quiet_op
               refine hK _ ?_
               clear hK K
               refine pi_no 2 rfl (by kernel_rfl) (by kernel_rfl) (fun _ _ _ _ h=>h) ?_
               simp only [Act.put,List.setIfInBounds_toArray,List.set_cons_zero,List.set_cons_succ]
               refine pi_no 3 rfl (by kernel_rfl) (by kernel_rfl) (fun _ _ _ _ h=>h) ?_
               simp only [Act.put,List.setIfInBounds_toArray,List.set_cons_zero,List.set_cons_succ]
               refine pi_t 4 rfl (by kernel_rfl) (by kernel_rfl) (fun _ _ _ _ h=>h) (fun K hK=>?_)
               go_big_quiet_op
               refine hK _ ?_
               clear hK K
               refine pi_t 5 rfl (by kernel_rfl) (by kernel_rfl) (fun _ _ _ _ h=>h) (fun K hK=>?_)
               go_big_quiet_op
               refine hK _ ?_
               clear hK K
               refine pi_no 6 rfl (by kernel_rfl) (by kernel_rfl) (fun _ _ _ _ h=>h) ?_
               simp only [Act.put,List.setIfInBounds_toArray,List.set_cons_zero,List.set_cons_succ]
               refine pi_no 7 rfl (by kernel_rfl) (by kernel_rfl) (fun _ _ _ _ h=>h) ?_
               simp only [Act.put,List.setIfInBounds_toArray,List.set_cons_zero,List.set_cons_succ]
               refine pi_no 8 rfl (by kernel_rfl) (by kernel_rfl) (fun _ _ _ _ h=>h) ?_
               simp only [Act.put,List.setIfInBounds_toArray,List.set_cons_zero,List.set_cons_succ]
               refine pi_no 9 rfl (by kernel_rfl) (by kernel_rfl) (fun _ _ _ _ h=>h) ?_
               simp only [Act.put,List.setIfInBounds_toArray,List.set_cons_zero,List.set_cons_succ]
               refine pi_no 10 rfl (by kernel_rfl) (by kernel_rfl) (fun _ _ _ _ h=>h) ?_
               simp only [Act.put,List.setIfInBounds_toArray,List.set_cons_zero,List.set_cons_succ]
               refine pi_no 13 rfl (by kernel_rfl) (by kernel_rfl) (fun _ _ _ _ h=>h) ?_
               simp only [Act.put,List.setIfInBounds_toArray,List.set_cons_zero,List.set_cons_succ]
               refine pi_no 14 rfl (by kernel_rfl) (by kernel_rfl) (fun _ _ _ _ h=>h) ?_
               simp only [Act.put,List.setIfInBounds_toArray,List.set_cons_zero,List.set_cons_succ]
               refine pi_no 11 rfl (by kernel_rfl) (by kernel_rfl) (fun _ _ _ _ h=>h) ?_
               simp only [Act.put,List.setIfInBounds_toArray,List.set_cons_zero,List.set_cons_succ]
               refine pi_no 12 rfl (by kernel_rfl) (by kernel_rfl) (fun _ _ _ _ h=>h) ?_
               simp only [Act.put,List.setIfInBounds_toArray,List.set_cons_zero,List.set_cons_succ]
               refine pi_no 15 rfl (by kernel_rfl) (by kernel_rfl) (fun _ _ _ _ h=>h) ?_
               simp only [Act.put,List.setIfInBounds_toArray,List.set_cons_zero,List.set_cons_succ]
               refine pi_no 16 rfl (by kernel_rfl) (by kernel_rfl) (fun _ _ _ _ h=>h) ?_
               simp only [Act.put,List.setIfInBounds_toArray,List.set_cons_zero,List.set_cons_succ]
               refine pi_no 17 rfl (by kernel_rfl) (by kernel_rfl) (fun _ _ _ _ h=>h) ?_
               simp only [Act.put,List.setIfInBounds_toArray,List.set_cons_zero,List.set_cons_succ]
               refine pi_no 18 rfl (by kernel_rfl) (by kernel_rfl) (fun _ _ _ _ h=>h) ?_
               simp only [Act.put,List.setIfInBounds_toArray,List.set_cons_zero,List.set_cons_succ]
               refine pi_no 19 rfl (by kernel_rfl) (by kernel_rfl) (fun _ _ _ _ h=>h) ?_
               simp only [Act.put,List.setIfInBounds_toArray,List.set_cons_zero,List.set_cons_succ]
               refine pi_t 20 rfl (by kernel_rfl) (by kernel_rfl) (fun _ _ _ _ h=>h) (fun K hK=>?_)
               go_big_quiet_op
               refine hK _ ?_
               clear hK K
               refine pi_end (by kernel_rfl) ?_
               have HP9:=Lib.hid (HP8.out.ext (Ext.refl w9).drewR)
               have HR9:=Lib.hid (HR8.out.ext (Ext.refl w9).drewR)
               have HB9:=Lib.hid (Below.drew HB8.out)
               go_wp2_with fail
               go_roundw
               case rel=>exact ⟨i+1,iz+1,la',l6,by omega,by have:=HIZ.out; omega,by go_num,HCN.out.symm,rfl,HP9.out,HR9.out,HB9.out⟩
               case measure=>simp [intOf]; omega
        · obtain rfl:i=M:=by omega
          have hend:=cntS_end (ptU C (g h)) le hlv6
          rw [HMM.out] at hend
          rw [hend] at hla'
          have HLA2:=Lib.hid hla'
          have HP2:=Lib.hid hP2
          have HR2:=Lib.hid hR2
          have HB2:=Lib.hid hB2
          have hizM:iz=(i:Int):=hiz
          clear hP2 hR2 hB2 hla' hend
          go_wp2_with fail
          go_roundw
          case rel=>exact ⟨lv,lz - 1,la',l2,by omega,by have:=HLZ.out; omega,rfl,HLA2.out,rfl,HP2.out,HR2.out,HB2.out⟩
          case measure=>simp [intOf]; omega
end Go.Proofs.YtmalncfcgcebhaaGreatDoor
namespace Go.Proofs.YtmalncfcgcebhaaGreatDoor
set_option linter.unusedVariables false
open Go.ChangeShapes Go.WideShapes Go.ChangeAt Go.RowKit Go.Deep
theorem wf_u64 {x:Int} (h:(Lit.int IntKind.u64 x).wf=true):U64 x:=by
 have:=bounds_u64 h
 exact ⟨this.1,by omega⟩
theorem wf_i64 {x:Int} (h:(Lit.int IntKind.i64 x).wf=true):I64 x:=by
 have:=bounds_i64 h
 exact ⟨this.1,by omega⟩
section
variable {H:Type} {enc:TypeId × Value→H} {w:World} {base:Nat} {spare:Nat→Bool} {held:Bool}
set_option maxRecDepth 100000 in
theorem cfg_of {n:Nat} {cs:List Value} {y:DataW H × List MemPlace} (h:DataW.trod enc Tryz.prog w base spare held n 24 cs=some y) :
 ∃ C:Cfg,C.Raw∧cs=[.int .i64 C.bits,.int .i64 C.rows,.int .i64 C.width,.int .i64 C.mode,.int .u64 C.seed]:=by
 obtain ⟨xs,n,_,_,hl,hx,hg⟩:=DataW.trod_struct Tryz.underlying24 h
 have hl':cs.length=5:=hl.trans (by kernel_rfl)
 match cs,hl' with
 | [c0,c1,c2,c3,c4],_ =>
   have hx':xs.length=5:=hx.trans (by kernel_rfl)
   match xs,hx' with
   | [x0,x1,x2,x3,x4],_ =>
     have e0:DataW.trod enc Tryz.prog w base spare held n 3 [c0]=some x0:=hg 0 _ rfl
     have e1:DataW.trod enc Tryz.prog w base spare held n 3 [c1]=some x1:=hg 1 _ rfl
     have e2:DataW.trod enc Tryz.prog w base spare held n 3 [c2]=some x2:=hg 2 _ rfl
     have e3:DataW.trod enc Tryz.prog w base spare held n 3 [c3]=some x3:=hg 3 _ rfl
     have e4:DataW.trod enc Tryz.prog w base spare held n 22 [c4]=some x4:=hg 4 _ rfl
     obtain ⟨a0,h0,_,w0⟩:=DataW.trod_int Tryz.underlying3 e0
     obtain ⟨a1,h1,_,w1⟩:=DataW.trod_int Tryz.underlying3 e1
     obtain ⟨a2,h2,_,w2⟩:=DataW.trod_int Tryz.underlying3 e2
     obtain ⟨a3,h3,_,w3⟩:=DataW.trod_int Tryz.underlying3 e3
     obtain ⟨a4,h4,_,w4⟩:=DataW.trod_int Tryz.underlying22 e4
     simp only [List.cons.injEq,and_true] at h0 h1 h2 h3 h4
     exact ⟨⟨a0,a1,a2,a3,a4⟩,⟨wf_i64 w0,wf_i64 w1,wf_i64 w2,wf_i64 w3,wf_u64 w4⟩,by rw [h0,h1,h2,h3,h4]⟩
theorem add_plain0 (b off i:Nat):(Addr.add ⟨b,off,none⟩ i)=⟨b,off+i,none⟩:=by
 unfold Addr.add
 by_cases h:i=0
 · subst h; simp
 · simp [h]
theorem choose_list {α:Type} (P:Nat→α→Prop):∀ n,(∀ i,i < n→∃ x,P i x)→∃ l:List α,l.length=n∧∀ i (h:i < l.length),P i l[i]:=by
 intro n
 induction n with
 | zero=>intro _; exact ⟨[],rfl,fun i h=>by simp at h⟩
 | succ n ih =>
   intro h
   obtain ⟨l,hl,hP⟩:=ih (fun i hi=>h i (by omega))
   obtain ⟨x,hx⟩:=h n (by omega)
   refine ⟨l++[x],by simp [hl],fun i hi=>?_⟩
   by_cases e:i < l.length
   · rw [List.getElem_append_left e]; exact hP i e
   · have:i=n:=by simp at hi; omega
     subst this
     rw [List.getElem_append_right (by omega)]
     simp [hl,hx]
theorem reach_of {ts:List TypeId} {ds:List (DataW H)} {j:Nat} {t:TypeId} {d:DataW H} (hsz:(DataW.weightsEach Tryz.prog ts ds).all (·≤reachBytes)=true) (ht:ts[j]?=some t) (hd:ds[j]?=some d) {n:Nat} (hn:n∈d.weights Tryz.prog t):n≤reachBytes:=by
 have:=List.all_eq_true.1 hsz _ (DataW.weights_mem_each ht hd n hn)
 simpa using this
end
end Go.Proofs.YtmalncfcgcebhaaGreatDoor
namespace Go.Proofs.YtmalncfcgcebhaaGreatDoor
set_option linter.unusedVariables false
open Go.ChangeShapes Go.WideShapes Go.ChangeAt Go.RowKit Go.Deep
theorem own:ownKnob Tryz.prog.godebug=none:=by kernel_rfl
theorem laidOut:laidOutB Tryz.prog=true:=by kernel_rfl
section
variable {H:Type} {enc:TypeId × Value→H} {w:World} {held:Bool}
set_option maxRecDepth 100000 in
theorem cfgarg_of {r:Reach} {b0:Nat} {v:Value} {d:DataW H} {p:List MemPlace} (hv:Value.okWide Tryz.prog w r b0 24 v) (h:DataW.Trod enc Tryz.prog w 0 (fun _=>true) held 24 v d p) :
 ∃ (x:Cfg),x.Raw∧v=.agg #[.int .i64 x.bits,.int .i64 x.rows,.int .i64 x.width,.int .i64 x.mode,.int .u64 x.seed]:=by
 obtain ⟨cs,rfl,hsz⟩:=okWide_struct Tryz.underlying24 hv
 obtain ⟨fuel,hf⟩:=h
 obtain ⟨l⟩:=cs
 obtain ⟨x,hxr,hc⟩:=cfg_of hf
 have hc':l=_:=hc
 subst hc'
 exact ⟨x,hxr,rfl⟩
end
end Go.Proofs.YtmalncfcgcebhaaGreatDoor
namespace Go.Proofs.YtmalncfcgcebhaaGreatDoor
set_option linter.unusedVariables false
open Go.ChangeShapes Go.WideShapes Go.ChangeAt Go.RowKit Go.Deep
section
variable {H:Type} {enc:TypeId × Value→H} {w:World} {held:Bool}
set_option maxRecDepth 100000 in
theorem opT5_of {spare:Nat→Bool} {base n:Nat} {cs:List Value} {y:DataW H × List MemPlace} (h:DataW.trod enc Tryz.prog w base spare held n 102 cs=some y) :
 ∃ u:Opn5,(I64 u.1∧I64 u.2.1∧I64 u.2.2.1∧U64 u.2.2.2.1∧I64 u.2.2.2.2)∧cs=[.int .i64 u.1,.int .i64 u.2.1,.int .i64 u.2.2.1,.int .u64 u.2.2.2.1,.int .i64 u.2.2.2.2]:=by
 obtain ⟨xs,n,_,_,hl,hx,hg⟩:=DataW.trod_struct Tryz.underlying102 h
 have hl':cs.length=5:=hl.trans (by kernel_rfl)
 match cs,hl' with
 | [c0,c1,c2,c3,c4],_ =>
   have hx':xs.length=5:=hx.trans (by kernel_rfl)
   match xs,hx' with
   | [x0,x1,x2,x3,x4],_ =>
     have e0:DataW.trod enc Tryz.prog w base spare held n 3 [c0]=some x0:=hg 0 _ rfl
     have e1:DataW.trod enc Tryz.prog w base spare held n 3 [c1]=some x1:=hg 1 _ rfl
     have e2:DataW.trod enc Tryz.prog w base spare held n 3 [c2]=some x2:=hg 2 _ rfl
     have e3:DataW.trod enc Tryz.prog w base spare held n 22 [c3]=some x3:=hg 3 _ rfl
     have e4:DataW.trod enc Tryz.prog w base spare held n 2 [c4]=some x4:=hg 4 _ rfl
     obtain ⟨a0,h0,_,w0⟩:=DataW.trod_int Tryz.underlying3 e0
     obtain ⟨a1,h1,_,w1⟩:=DataW.trod_int Tryz.underlying3 e1
     obtain ⟨a2,h2,_,w2⟩:=DataW.trod_int Tryz.underlying3 e2
     obtain ⟨a3,h3,_,w3⟩:=DataW.trod_int Tryz.underlying22 e3
     obtain ⟨a4,h4,_,w4⟩:=DataW.trod_int Tryz.underlying2 e4
     simp only [List.cons.injEq,and_true] at h0 h1 h2 h3 h4
     exact ⟨(a0,a1,a2,a3,a4),⟨wf_i64 w0,wf_i64 w1,wf_i64 w2,wf_u64 w3,wf_i64 w4⟩,by rw [h0,h1,h2,h3,h4]⟩
set_option maxRecDepth 100000 in
theorem opsT5arg_of {r:Reach} {b0:Nat} {v:Value} {d:DataW H} {p:List MemPlace} (hv:Value.okWide Tryz.prog w r b0 25 v) (h:DataW.Trod enc Tryz.prog w 0 (fun _=>true) held 25 v d p) :
 ∃ (os:List Opn5),Ops5Ok os∧Ops5At w v os ∧
   ∀ (ts:List TypeId) (ds:List (DataW H)) (j:Nat),(DataW.weightsEach Tryz.prog ts ds).all (·≤reachBytes)=true→ts[j]?=some 25→ds[j]?=some d→os.length≤140737488355328:=by
 obtain ⟨q,n,cap,rfl⟩:=okWide_slice Tryz.underlying25 hv
 obtain ⟨fuel,hf⟩:=h
 rcases open_slice Tryz.underlying25 hf with ⟨hcs,_⟩ | ⟨a,len,cap',m,n',D,Pl,hcs,_,hlc,hcm,hm,hx,hi⟩
 · have hcs':[Value.slice q n cap]=[Value.slice none 0 0]:=hcs
   simp only [List.cons.injEq,and_true,Value.slice.injEq] at hcs'
   obtain ⟨rfl,rfl,rfl⟩:=hcs'
   exact ⟨[],(by intro u hu; cases hu),.inl ⟨⟨_,rfl⟩,rfl⟩,fun _ _ _ _ _ _=>Nat.zero_le _⟩
 · have hcs':[Value.slice q n cap]=[Value.slice (some a) len cap']:=hcs
   simp only [List.cons.injEq,and_true,Value.slice.injEq] at hcs'
   obtain ⟨rfl,rfl,rfl⟩:=hcs'
   simp only [if_true] at hm
   rw [hm] at hi hx
   clear hm
   have hC:Tryz.prog.cellsOf 102=5:=by kernel_rfl
   rw [hC] at hi
   have key:∀ i,i < n→∃ u:Opn5,(I64 u.1∧I64 u.2.1∧I64 u.2.2.1∧U64 u.2.2.2.1∧I64 u.2.2.2.2)∧w.cell? (a.add (i*5))=some (.int .i64 u.1)∧w.cell? (a.add (i*5+1))=some (.int .i64 u.2.1)∧w.cell? (a.add (i*5+2))=some (.int .i64 u.2.2.1)∧w.cell? (a.add (i*5+3))=some (.int .u64 u.2.2.2.1)∧w.cell? (a.add (i*5+4))=some (.int .i64 u.2.2.2.2):=by
    intro i hil
    obtain ⟨cs',hc,ht⟩:=hi i (by omega)
    obtain ⟨u,hu,rfl⟩:=opT5_of ht
    obtain ⟨_,_,hat⟩:=World.cells?_some hc
    refine ⟨u,hu, ?_, ?_, ?_, ?_, ?_⟩
    · have:=hat 0 (by omega); rw [add_add,Nat.add_zero] at this; exact this
    · have:=hat 1 (by omega); rw [add_add] at this; exact this
    · have:=hat 2 (by omega); rw [add_add] at this; exact this
    · have:=hat 3 (by omega); rw [add_add] at this; exact this
    · have:=hat 4 (by omega); rw [add_add] at this; exact this
   obtain ⟨us,hul,hus⟩:=choose_list _ n key
   by_cases h0:cap=0
   · have hl0:n=0:=by omega
     subst hl0 h0
     obtain rfl:us=[]:=List.length_eq_zero_iff.1 hul
     exact ⟨[],(by intro u hu; cases hu),.inl ⟨⟨_,rfl⟩,rfl⟩,fun _ _ _ _ _ _=>Nat.zero_le _⟩
   · obtain ⟨cs',hc,ht⟩:=hi 0 (by omega)
     obtain ⟨u,_,rfl⟩:=opT5_of ht
     obtain ⟨_,_,hat⟩:=World.cells?_some hc
     have h1:=hat 0 (by omega)
     obtain ⟨b,off,spot⟩:=a
     have hspot:spot=none:=by simpa [Addr.add] using World.cell?_spot h1
     subst hspot
     have hb:b < w.heap.size:=by
      rcases Nat.lt_or_ge b w.heap.size with h' | h'
      · exact h'
      · simp [World.cell?,Addr.add,Array.getElem?_eq_none h'] at h1
     refine ⟨us, ?_,.inr ⟨b,off,cap,by rw [hul],hb,fun k hk=>?_⟩,fun ts ds j hs ht hj=>?_⟩
     · intro u hu
       obtain ⟨i,hi',rfl⟩:=List.getElem_of_mem hu
       exact (hus i hi').1
     · have:=(hus k hk).2
       have hg:us.getD k (0,0,0,0,0)=us[k]:=by simp [hk]
       rw [hg]
       rw [add_plain0,add_plain0,add_plain0,add_plain0,add_plain0] at this
       simpa only [Nat.add_assoc] using this
     · have hb:Tryz.prog.bytesOf 102=40:=by kernel_rfl
       simp only [Prod.mk.injEq] at hx
       have h2:=hx.1
       subst h2
       have:=reach_of hs ht hj (by
        simp [DataW.weights,Tryz.underlying25]
        exact .inl rfl)
       rw [hb] at this
       simp only [reachBytes] at this
       omega
set_option maxRecDepth 100000 in
theorem t3int_of {r:Reach} {b0:Nat} {v:Value} {d:DataW H} {p:List MemPlace} (hv:Value.okWide Tryz.prog w r b0 67 v) (h:DataW.Trod enc Tryz.prog w 0 (fun _=>true) held 67 v d p) :
 ∃ (a0 a1 a2:Int),I64 a0∧I64 a1∧I64 a2∧v=.agg #[.int .i64 a0,.int .i64 a1,.int .i64 a2]:=by
 have hv':∃ cs,v=.agg cs∧cs.size=3:=by
  simp only [Value.okWide,Tryz.underlying67] at hv
  obtain ⟨cs,h1,h2,_⟩:=hv
  exact ⟨cs,h1,h2.trans (by kernel_rfl)⟩
 obtain ⟨cs,rfl,hsz⟩:=hv'
 obtain ⟨fuel,hf⟩:=h
 obtain ⟨l⟩:=cs
 obtain ⟨xs,m,_,_,_,hl,hel⟩:=DataW.trod_array Tryz.underlying67 hf
 match l,hsz with
 | [c0,c1,c2],_ =>
   match xs,hl with
   | [x0,x1,x2],_ =>
     have hC:Tryz.prog.cellsOf 3=1:=by kernel_rfl
     have e0:DataW.trod enc Tryz.prog w 0 (fun _=>true) held m 3 [c0]=some x0:=by have:=hel 0 (by decide); rw [hC] at this; exact this
     have e1:DataW.trod enc Tryz.prog w 0 (fun _=>true) held m 3 [c1]=some x1:=by have:=hel 1 (by decide); rw [hC] at this; exact this
     have e2:DataW.trod enc Tryz.prog w 0 (fun _=>true) held m 3 [c2]=some x2:=by have:=hel 2 (by decide); rw [hC] at this; exact this
     obtain ⟨b0,h0,_,w0⟩:=DataW.trod_int Tryz.underlying3 e0
     obtain ⟨b1,h1,_,w1⟩:=DataW.trod_int Tryz.underlying3 e1
     obtain ⟨b2,h2,_,w2⟩:=DataW.trod_int Tryz.underlying3 e2
     simp only [List.cons.injEq,and_true] at h0 h1 h2
     subst h0 h1 h2
     exact ⟨b0,b1,b2,wf_i64 w0,wf_i64 w1,wf_i64 w2,rfl⟩
end
end Go.Proofs.YtmalncfcgcebhaaGreatDoor
namespace Go.Proofs.YtmalncfcgcebhaaGreatDoor
set_option linter.unusedVariables false
open Go.Proofs Go.RowKit
set_option maxRecDepth 100000
def laid7 : List (String × DataW Unit) := [("math/bits.deBruijn32tab", Rows.laid_math_bits_deBruijn32tab), ("math/bits.deBruijn64tab", Rows.laid_math_bits_deBruijn64tab), ("internal/strconv.uint64pow10", Rows.laid_internal_strconv_uint64pow10), ("unicode/utf8.acceptRanges", Rows.laid_unicode_utf8_acceptRanges), ("strconv.ErrRange", Rows.laid_strconv_ErrRange), ("strconv.ErrSyntax", Rows.laid_strconv_ErrSyntax), ("unicode/utf8.first", Rows.laid_unicode_utf8_first)]
theorem first_is:Rows.laid_unicode_utf8_first=Lib.firstData:=by kernel_rfl
theorem accept_is:(Rows.laid_unicode_utf8_acceptRanges:DataW Unit)=Lib.acceptData:=by kernel_rfl
theorem pow_is:(Rows.laid_internal_strconv_uint64pow10:DataW Unit)=Lib.tabData .u64 Lib.pow10Tab:=by kernel_rfl
theorem g_pow : Tryz.prog.globalNamed "internal/strconv.uint64pow10" = some 4 := by kernel_rfl
theorem t_pow:(Tryz.prog.globals[4]?).map (·.type)=some 364:=by kernel_rfl
theorem g_first : Tryz.prog.globalNamed "unicode/utf8.first" = some 2 := by kernel_rfl
theorem t_first:(Tryz.prog.globals[2]?).map (·.type)=some 329:=by kernel_rfl
theorem g_acc : Tryz.prog.globalNamed "unicode/utf8.acceptRanges" = some 3 := by kernel_rfl
theorem t_acc:(Tryz.prog.globals[3]?).map (·.type)=some 332:=by kernel_rfl
theorem g_syn : Tryz.prog.globalNamed "strconv.ErrSyntax" = some 8 := by kernel_rfl
theorem t_syn:(Tryz.prog.globals[8]?).map (·.type)=some 199:=by kernel_rfl
theorem g_rng : Tryz.prog.globalNamed "strconv.ErrRange" = some 9 := by kernel_rfl
theorem t_rng:(Tryz.prog.globals[9]?).map (·.type)=some 199:=by kernel_rfl
theorem star : "*errors.errorString" = "*" ++ "errors.errorString" := rfl
theorem es_row : ∀ u, Tryz.prog.typeName? 3 u = some "*errors.errorString" → u = 410 := fun u h =>
 typeName_ptr_named (nm := "errors.errorString") (by rw [← star]; kernel_rfl) (by kernel_rfl) (by decide) u (by rw [← star]; exact h)
theorem sent_cell {n : String} {text : List UInt8} {r : List (String × DataW Unit)} {W : World} {g : Nat} (h : laidMet Tryz.prog ((n, .iface "*errors.errorString" (.ptr (.agg [.lit (.string text)]))) :: r) W)
 (hg:Tryz.prog.globalNamed n=some g) (ht:(Tryz.prog.globals[g]?).map (·.type)=some 199):∃ te pe,W.cell? ⟨g,0,none⟩=some (.iface te pe):=by
 obtain ⟨a,s,hv,_⟩:=laid_sentinel h hg ht Tryz.underlying199 es_row Tryz.underlying410 Tryz.underlying412 rfl rfl Tryz.underlying9 (by kernel_rfl) (by kernel_rfl)
 exact ⟨_,_,(World.var?_cell hg hv 0).trans rfl⟩
theorem tabs_laid {W:World} (h:laidMet Tryz.prog laid7 W):Tabs W:=by
 refine ⟨?_,⟨fun c hc=>?_,fun i hi=>?_⟩, ?_, ?_⟩
 · have hr : Lib.VarReads Tryz.prog W "internal/strconv.uint64pow10" (Lib.tabData .u64 Lib.pow10Tab) := by
    rw [← pow_is]; exact Lib.laidMet.reads h (by unfold laid7; simp)
   obtain ⟨g,t,cs,fuel,p,hg,hty,hvar,hd⟩:=hr
   obtain rfl:=Option.some.inj (g_pow.symm.trans hg)
   obtain rfl:=Option.some.inj (t_pow.symm.trans hty)
   unfold Lib.TabIs
   rw [hvar,← Lib.cells_of_tab Tryz.underlying364 Tryz.underlying22 (by kernel_rfl) (by kernel_rfl) hd]
 · have hr : Lib.VarReads Tryz.prog W "unicode/utf8.first" Lib.firstData := by
    rw [← first_is]; exact Lib.laidMet.reads h (by unfold laid7; simp)
   obtain ⟨g,t,cs,fuel,p,hg,hty,hvar,hd⟩:=hr
   obtain rfl:=Option.some.inj (g_first.symm.trans hg)
   obtain rfl:=Option.some.inj (t_first.symm.trans hty)
   have hcs:=Lib.cells_of_tab Tryz.underlying329 Tryz.underlying5 (by kernel_rfl) (by kernel_rfl) hd
   have:=World.var?_cell hg hvar c
   rw [this,← Array.getElem?_toList,hcs]
   simp [Lib.firstTab,hc]
 · have hr : Lib.VarReads Tryz.prog W "unicode/utf8.acceptRanges" Lib.acceptData := by
    rw [← accept_is]; exact Lib.laidMet.reads h (by unfold laid7; simp)
   obtain ⟨g,t,cs,fuel,p,hg,hty,hvar,hd⟩:=hr
   obtain rfl:=Option.some.inj (g_acc.symm.trans hg)
   obtain rfl:=Option.some.inj (t_acc.symm.trans hty)
   obtain ⟨fuel',d,q,hdi,he⟩:=Lib.array_elem Tryz.underlying332 hd i hi
   simp only [List.getElem?_map,List.getElem?_range hi,Option.map_some,Option.some.injEq] at hdi
   subst hdi
   have c2:Tryz.prog.cellsOf 331=2:=by kernel_rfl
   have c1:Tryz.prog.cellsOf 5=1:=by kernel_rfl
   rw [c2] at he
   have hcs:=Lib.ints_of_struct Tryz.underlying331 (fun j f hj=>by
    match j,hj with
    | 0,hj=>simp at hj; subst hj; exact ⟨Tryz.underlying5,rfl,c1⟩
    | 1,hj=>simp at hj; subst hj; exact ⟨Tryz.underlying5,rfl,c1⟩
    | j+2,hj=>simp at hj) (by rw [c2]; rfl) he
   have e0:=congrArg (·[0]?) hcs
   have e1:=congrArg (·[1]?) hcs
   simp only [List.getElem?_take,List.getElem?_drop] at e0 e1
   constructor
   · rw [World.var?_cell hg hvar (2*i),← Array.getElem?_toList]
     simpa [Nat.mul_comm] using e0
   · rw [World.var?_cell hg hvar (2*i+1),← Array.getElem?_toList]
     simpa [Nat.mul_comm] using e1
 · exact sent_cell (laidMet.tail (laidMet.tail (laidMet.tail (laidMet.tail (laidMet.tail h))))) g_syn t_syn
 · exact sent_cell (laidMet.tail (laidMet.tail (laidMet.tail (laidMet.tail h)))) g_rng t_rng
end Go.Proofs.YtmalncfcgcebhaaGreatDoor
