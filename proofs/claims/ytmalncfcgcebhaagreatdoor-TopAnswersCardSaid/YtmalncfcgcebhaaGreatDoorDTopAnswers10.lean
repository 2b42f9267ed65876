/- Part. No condition. -/
import Derived.Test.YtmalncfcgcebhaaGreatDoorDTopAnswers3
import Derived.Test.YtmalncfcgcebhaaGreatDoorDTopAnswers4
import Derived.Test.YtmalncfcgcebhaaGreatDoorDTopAnswers6
import Derived.Test.YtmalncfcgcebhaaGreatDoorDTopAnswers7
import Derived.Test.YtmalncfcgcebhaaGreatDoorDTopAnswers9
import Derived.Test.YtmalncfcgcebhaaGreatDoorDTopAnswers8
import Derived.Defers
import Derived.Laws.EntriesVeiled
namespace Go.Proofs.YtmalncfcgcebhaaGreatDoor
set_option linter.unusedVariables false
open Go.RowKit
def rvF (ps:List (Nat × Int)) (k m:Nat):Nat × Int:=if m < k ∨ ps.length≤m+k then ps.getD (ps.length - 1 - m) (0,0) else ps.getD m (0,0)
theorem rvF_zero (ps:List (Nat × Int)) {m:Nat} (h:m < ps.length):rvF ps 0 m=ps.getD m (0,0):=by
 unfold rvF; rw [if_neg (by omega)]
theorem rvF_end (ps:List (Nat × Int)) {k m:Nat} (h:m < ps.length) (hk:ps.length≤2 * k+1):rvF ps k m=ps.reverse.getD m (0,0):=by
 have e:ps.reverse.getD m (0,0)=ps.getD (ps.length - 1 - m) (0,0):=by
  rw [List.getD_eq_getElem?_getD,List.getD_eq_getElem?_getD,List.getElem?_reverse h]
 rw [e]
 unfold rvF
 by_cases hc:m < k ∨ ps.length≤m+k
 · rw [if_pos hc]
 · rw [if_neg hc]
   congr 1
   omega
def CellsF (cur:Array Value) (n:Nat) (f:Nat → Nat × Int):Prop:=∀ m,m < n → cur[m * 2]?=some (.int .i64 ((f m).1:Int))∧cur[m * 2+1]?=some (.int .u64 (f m).2)
theorem cellsF_swap {cur:Array Value} {ps:List (Nat × Int)} {k j:Nat} (hc:CellsF cur ps.length (rvF ps k)) (hs:ps.length * 2≤cur.size) (hkj:k < j) (hj:j+k+1=ps.length) :
 CellsF ((((cur.setIfInBounds (k * 2) (.int .i64 ((rvF ps k j).1:Int))).setIfInBounds (k * 2+1) (.int .u64 (rvF ps k j).2)).setIfInBounds (j * 2) (.int .i64 ((rvF ps k k).1:Int))).setIfInBounds (j * 2+1) (.int .u64 (rvF ps k k).2)) ps.length (rvF ps (k+1)):=by
 intro m hm
 have e1:rvF ps k j=ps.getD j (0,0):=by unfold rvF; rw [if_neg (by omega)]
 have e2:rvF ps k k=ps.getD k (0,0):=by unfold rvF; rw [if_neg (by omega)]
 rw [e1,e2]
 obtain ⟨a1,a2⟩:=hc m hm
 by_cases hmk:m=k
 · subst hmk
   have e:rvF ps (m+1) m=ps.getD j (0,0):=by unfold rvF; rw [if_pos (by omega)]; congr 1; omega
   rw [e]
   constructor
   · rw [Array.getElem?_setIfInBounds_ne (by omega),Array.getElem?_setIfInBounds_ne (by omega),Array.getElem?_setIfInBounds_ne (by omega),Array.getElem?_setIfInBounds_self_of_lt (by omega)]
   · rw [Array.getElem?_setIfInBounds_ne (by omega),Array.getElem?_setIfInBounds_ne (by omega),Array.getElem?_setIfInBounds_self_of_lt (by rw [Array.size_setIfInBounds]; omega)]
 · by_cases hmj:m=j
   · subst hmj
     have e:rvF ps (k+1) m=ps.getD k (0,0):=by unfold rvF; rw [if_pos (by omega)]; congr 1; omega
     rw [e]
     constructor
     · rw [Array.getElem?_setIfInBounds_ne (by omega),Array.getElem?_setIfInBounds_self_of_lt (by simp only [Array.size_setIfInBounds]; omega)]
     · rw [Array.getElem?_setIfInBounds_self_of_lt (by simp only [Array.size_setIfInBounds]; omega)]
   · have e:rvF ps (k+1) m=rvF ps k m:=by
      unfold rvF
      by_cases hc:m < k ∨ ps.length≤m+k
      · rw [if_pos hc,if_pos (by omega)]
      · rw [if_neg hc,if_neg (by omega)]
     rw [e]
     constructor
     · rw [Array.getElem?_setIfInBounds_ne (by omega),Array.getElem?_setIfInBounds_ne (by omega),Array.getElem?_setIfInBounds_ne (by omega),Array.getElem?_setIfInBounds_ne (by omega)]; exact a1
     · rw [Array.getElem?_setIfInBounds_ne (by omega),Array.getElem?_setIfInBounds_ne (by omega),Array.getElem?_setIfInBounds_ne (by omega),Array.getElem?_setIfInBounds_ne (by omega)]; exact a2
theorem cellsF_take {cur:Array Value} {n:Nat} {f:Nat → Nat × Int} {ps:List (Nat × Int)} (hc:CellsF cur n f) (hl:ps.length=n) (hf:∀ m,m < n → f m=ps.getD m (0,0)):cur.toList.take (n * 2)=pcV ps:=by
 subst hl
 apply List.ext_getElem?
 intro i
 by_cases hi:i < ps.length * 2
 · rw [List.getElem?_take_of_lt hi,Array.getElem?_toList]
   obtain ⟨b1,b2⟩:=hc (i / 2) (by omega)
   obtain ⟨a1,a2⟩:=pcV_at (ps:=ps) (k:=i / 2) (by omega)
   rw [hf (i / 2) (by omega)] at b1 b2
   by_cases he:i % 2=0
   · rw [show i=i / 2 * 2 by omega,b1,a1]
   · rw [show i=i / 2 * 2+1 by omega,b2,a2]
 · rw [List.getElem?_eq_none (by rw [List.length_take]; omega),List.getElem?_eq_none (by rw [pcV_len]; omega)]
theorem cellsF_of {cur:Array Value} {ps:List (Nat × Int)} (h:cur.toList.take (ps.length * 2)=pcV ps):CellsF cur ps.length (rvF ps 0):=by
 intro m hm
 obtain ⟨a1,a2⟩:=pcV_at hm
 rw [← h] at a1 a2
 rw [List.getElem?_take_of_lt (by omega)] at a1 a2
 simp only [Array.getElem?_toList] at a1 a2
 rw [rvF_zero _ hm]
 exact ⟨a1,a2⟩
def RvAt (w:World) (g:Nat) (ps:List (Nat × Int)) (cs k:Nat) (W:World):Prop :=
 (∃ cur,W.heap[g]?=some (.cells cur 52 (0,0))∧cur.size=cs∧CellsF cur ps.length (rvF ps k))∧Mod (fun b=>b=g) w W
theorem rv_next {w W:World} {g:Nat} {ps:List (Nat × Int)} {cs k j:Nat} (h:RvAt w g ps cs k W) (hs:ps.length * 2≤cs) (hkj:k < j) (hj:j+k+1=ps.length) {a c:Nat × Int} (ha:rvF ps k j=a) (hc:rvF ps k k=c) :
 RvAt w g ps cs (k+1) ((((W.setCell ⟨g,k * 2,none⟩ (.int .i64 (a.1:Int))).setCell ⟨g,k * 2+1,none⟩ (.int .u64 a.2)).setCell ⟨g,j * 2,none⟩ (.int .i64 (c.1:Int))).setCell ⟨g,j * 2+1,none⟩ (.int .u64 c.2)).drew:=by
 subst ha hc
 obtain ⟨⟨cur,h1,h2,h3⟩,hm⟩:=h
 have q:=setCell_same (setCell_same (setCell_same (setCell_same h1 (k * 2) (.int .i64 ((rvF ps k j).1:Int))) (k * 2+1) (.int .u64 (rvF ps k j).2)) (j * 2) (.int .i64 ((rvF ps k k).1:Int))) (j * 2+1) (.int .u64 (rvF ps k k).2)
 refine ⟨⟨_,q,by simp only [Array.size_setIfInBounds]; exact h2,cellsF_swap h3 (by omega) hkj hj⟩, ?_⟩
 exact ((((hm.trans (mod_set _ _ _ _)).trans (mod_set _ _ _ _)).trans (mod_set _ _ _ _)).trans (mod_set _ _ _ _)).trans ((Ext.refl _).drewR.mod _)
def RevPost (w:World) (v:Value) (base:Nat) (ps:List (Nat × Int)) (e:Ending) (w':World):Prop :=
 e=.returned (.tuple #[])∧w'.ownsRow base 52 2 v ps.length (pcV ps.reverse)∧Mod (fun k=>v.ownBlock=some k) w w'
set_option maxRecDepth 20000 in
set_option maxHeartbeats 4000000 in
theorem Reverse_c (ps:List (Nat × Int)) (v:Value) (base:Nat) (w:World) (h:w.ownsRow base 52 2 v ps.length (pcV ps)) (hl:ps.length≤1000000) :
 Calls Tryz.prog 249 #[v] w (RevPost w v base ps):=by
 rcases h.2 with ⟨rfl,h0⟩ | ⟨g,cap,cur,rfl,hb,hh,hnc,hcm,hcs,htk⟩
 · have e:ps=[]:=List.length_eq_zero_iff.1 h0
   subst e
   have h':=h
   clear h h0
   go_enter Tryz.func249,Tryz.ntmps249
   go_wp2
   go_loopw [2,3] (fun i j wr=>i=.int .i64 0∧j=.int .i64 (-1)∧wr=w) (fun _ _ _=>0)
   case atStart=>exact ⟨rfl,rfl,rfl⟩
   case round =>
    obtain ⟨rfl,rfl,rfl⟩:=hrel
    go_wp2
    go_end0
    exact ⟨rfl,h',Mod.refl _ _⟩
 · have hr0:RvAt w g ps (cap * 2) 0 w:=⟨⟨cur,hh,hcs,cellsF_of htk⟩,Mod.refl _ _⟩
   have HR0:=Lib.hid hr0
   have hcap:=hcm
   unfold maxLen at hcap
   clear h hr0 htk hh hcs
   generalize hn:ps.length=n at *
   have HN:=Lib.hid hn
   clear hn
   go_enter Tryz.func249,Tryz.ntmps249
   go_wp2
   go_loopw [2,3] (fun i j wr=>∃ (k:Nat) (z:Int),z+k+1=n∧2 * k≤n∧i=.int .i64 k∧j=.int .i64 z∧RvAt w g ps (cap * 2) k wr) (fun i _ _=>n - (intOf i).toNat)
   case atStart=>exact ⟨0,(n:Int) - 1,by omega,by omega,rfl,rfl,HR0.out⟩
   case round =>
    obtain ⟨k,z,hz,hk2,rfl,rfl,hR⟩:=hrel
    by_cases hlt:(k:Int) < z
    · obtain ⟨j,rfl⟩:∃ j:Nat,z=j:=⟨z.toNat,by omega⟩
      obtain ⟨cur',hh,hcs,hcf⟩:=hR.1
      have hgl:g < wr.heap.size:=lt_of hh
      obtain ⟨k0,k1⟩:=hcf k (by rw [HN.out]; omega)
      obtain ⟨j0,j1⟩:=hcf j (by rw [HN.out]; omega)
      rw [← cell_of hh] at k0 k1 j0 j1
      have fz:=fun o=>frozen_of hh o
      have HH:=Lib.hid hh
      have HR:=Lib.hid hR
      clear hR hh hcs hcf
      generalize hvk:rvF ps k k=vk at *
      generalize hvj:rvF ps k j=vj at *
      have HV:=Lib.hid (And.intro hvk hvj)
      clear hvk hvj
      obtain ⟨vk1,vk2⟩:=vk
      obtain ⟨vj1,vj2⟩:=vj
      dsimp only at k0 k1 j0 j1
      go_wp2_with fail
      have hC0:=af_drew wr
      refine pi_start (fun w'=>∃ x:After wr,w'=x.w) [13,15] (by kernel_rfl) ?_
      refine pi_t 0 rfl (by kernel_rfl) (by kernel_rfl) (fun _ _ _ _ h=>h) (fun K hK=>?_)
      go_big_quiet_op
      refine hK _ ?_
      clear hK K
      refine pi_t 1 rfl (by kernel_rfl) (by kernel_rfl) (fun _ _ _ _ h=>h) (fun K hK=>?_)
      go_big_quiet_op
      refine hK _ ?_
      clear hK K
      refine pi_t 2 rfl (by kernel_rfl) (by kernel_rfl) (fun _ _ _ _ h=>h) (fun K hK=>?_)
      go_big_quiet_op
      refine hK _ ?_
      clear hK K
      refine pi_t 3 rfl (by kernel_rfl) (by kernel_rfl) (fun _ _ _ _ h=>h) (fun K hK=>?_)
      go_big_quiet_op
      refine hK _ ?_
      clear hK K
      refine pi_t 4 rfl (by kernel_rfl) (by kernel_rfl) (fun _ _ _ _ h=>h) (fun K hK=>?_)
      go_big_quiet_op
      refine hK _ ?_
      clear hK K
      refine pi_t 5 rfl (by kernel_rfl) (by kernel_rfl) (fun _ _ _ _ h=>h) (fun K hK=>?_)
      go_big_quiet_op
      refine hK _ ?_
      clear hK K
      refine pi_t 6 rfl (by kernel_rfl) (by kernel_rfl) (fun _ _ _ _ h=>h) (fun K hK=>?_)
      go_big_quiet_op
      refine hK _ ?_
      clear hK K
      refine pi_t 8 rfl (by kernel_rfl) (by kernel_rfl) (fun _ _ _ _ h=>h) (fun K hK=>?_)
      go_big_quiet_op
      refine hK _ ?_
      clear hK K
      refine pi_t 9 rfl (by kernel_rfl) (by kernel_rfl) (fun _ _ _ _ h=>h) (fun K hK=>?_)
      go_big_quiet_op
      refine hK _ ?_
      clear hK K
      refine pi_t 10 rfl (by kernel_rfl) (by kernel_rfl) (fun _ _ _ _ h=>h) (fun K hK=>?_)
      go_big_quiet_op
      refine hK _ ?_
      clear hK K
      refine pi_c 7 (by assumption) rfl (by kernel_rfl) (by kernel_rfl) (fun _ _ _ _ h=>h) (fun K hK=>?_)
      go_big_quiet_op
      refine hK _ ?_
      clear hK K
      refine pi_c 11 (by assumption) rfl (by kernel_rfl) (by kernel_rfl) (fun _ _ _ _ h=>h) (fun K hK=>?_)
      go_big_quiet_op
      refine hK _ ?_
      clear hK K
      refine pi_t 12 rfl (by kernel_rfl) (by kernel_rfl) (fun _ _ _ _ h=>h) (fun K hK=>?_)
      go_big_quiet_op
      refine hK _ ?_
      clear hK K
      refine pi_l 13 rfl (by kernel_rfl) (fun K hK=>?_)
      go_wp2
      refine hK _ _ (by simp) ?_
      clear hK K
      refine pi_t 14 rfl (by kernel_rfl) (by kernel_rfl) (fun _ _ _ _ h=>h) (fun K hK=>?_)
      go_big_quiet_op
      refine hK _ ?_
      clear hK K
      refine pi_l 15 rfl (by kernel_rfl) (fun K hK=>?_)
      go_wp2
      refine hK _ _ (by simp) ?_
      clear hK K
      refine pi_end (by kernel_rfl) ?_
      go_wp2_with fail
      go_roundw
      case rel =>
       have hN:=rv_next (a:=(vj1,vj2)) (c:=(vk1,vk2)) HR.out (by rw [HN.out]; omega) (by omega) (by rw [HN.out]; omega) HV.out.2 HV.out.1
       exact ⟨k+1,(j:Int) - 1,by omega,by omega,by go_num,by go_num,hN⟩
      case measure=>simp [intOf]; omega
    · have hk3:n≤2 * k+1:=by omega
      obtain ⟨⟨cur',h1,h2,h3⟩,hm⟩:=hR
      have hfin:wr.ownsRow base 52 2 (.slice (some ⟨g,0,none⟩) n cap) n (pcV ps.reverse) :=
       ⟨by rw [pcV_len,List.length_reverse,HN.out],.inr ⟨g,cap,cur',rfl,hb,h1,hnc,hcm,h2,by rw [← HN.out]; exact cellsF_take h3 (List.length_reverse) (fun m hm=>rvF_end ps hm (by rw [HN.out]; exact hk3))⟩⟩
      go_wp2
      go_end0
      exact ⟨rfl,by rw [HN.out]; exact hfin,hm.mono (fun k hk _=>by rw [hk]; rfl)⟩
end Go.Proofs.YtmalncfcgcebhaaGreatDoor
namespace Go.Proofs.YtmalncfcgcebhaaGreatDoor
set_option linter.unusedVariables false
open Go.RowKit
def covL:Nat → Nat → Int → Int → List (Nat × Int)
 | 0,l,lo,_=>[(l,lo)]
 | f+1,l,lo,hi =>
   if lo=hi then [(l,lo)]
   else (if lo % 2=1 then [(l,lo)] else []) ++
    ((if (if hi % 2=0 then hi - 1 else hi) < (if lo % 2=1 then lo+1 else lo) then [] else covL f (l+1) ((if lo % 2=1 then lo+1 else lo) / 2) ((if hi % 2=0 then hi - 1 else hi) / 2)) ++
    (if hi % 2=0 then [(l,hi)] else []))
def Chain (lo e:Int):List (Nat × Int) → Prop
 | []=>lo=e
 | p :: ps=>p.2 * 2 ^ p.1=lo∧Chain (lo+2 ^ p.1) e ps
def Great (lo e:Int) (p:Nat × Int):Prop:=¬ (lo≤p.2 / 2 * 2 ^ (p.1+1)∧(p.2 / 2+1) * 2 ^ (p.1+1)≤e)
theorem pw (n:Nat):(0:Int) < 2 ^ n:=Int.pow_pos (by decide)
theorem chain_le {lo e:Int}:∀ {ps:List (Nat × Int)},Chain lo e ps → lo≤e
 | [],h=>Int.le_of_eq h
 | p :: ps,⟨_,h⟩=>by have:=chain_le h; have:=pw p.1; omega
theorem chain_app {m e:Int} {qs:List (Nat × Int)} (h2:Chain m e qs):∀ {lo:Int} {ps:List (Nat × Int)},Chain lo m ps → Chain lo e (ps ++ qs)
 | lo,[],h=>by have h':lo=m:=h; subst h'; exact h2
 | lo,p :: ps,⟨h,h1⟩=>⟨h,chain_app h2 h1⟩
theorem chain_one (l:Nat) (i:Int):Chain (i * 2 ^ l) ((i+1) * 2 ^ l) [(l,i)]:=⟨rfl,by show i * 2 ^ l+2 ^ l=(i+1) * 2 ^ l; rw [Int.add_mul,Int.one_mul]⟩
theorem pw_succ (n:Nat):(2:Int) ^ (n+1)=2 * 2 ^ n:=by rw [Int.pow_succ,Int.mul_comm]
theorem cov_chain:∀ (f l:Nat) (lo hi:Int),0≤lo → lo≤hi → hi < 2 ^ f → Chain (lo * 2 ^ l) ((hi+1) * 2 ^ l) (covL f l lo hi)
 | 0,l,lo,hi,h0,h1,h2=>by
   have:hi < 1:=h2
   have e:hi=lo:=by omega
   subst e
   exact chain_one l hi
 | f+1,l,lo,hi,h0,h1,h2=>by
   rw [pw_succ] at h2
   unfold covL
   by_cases he:lo=hi
   · subst he
     rw [if_pos rfl]
     exact chain_one l lo
   · rw [if_neg he]
     have ha:Chain (lo * 2 ^ l) ((if lo % 2=1 then lo+1 else lo) * 2 ^ l) (if lo % 2=1 then [(l,lo)] else []):=by
      by_cases h:lo % 2=1
      · rw [if_pos h,if_pos h]; exact chain_one l lo
      · rw [if_neg h,if_neg h]; rfl
     have hb:Chain (((if hi % 2=0 then hi - 1 else hi)+1) * 2 ^ l) ((hi+1) * 2 ^ l) (if hi % 2=0 then [(l,hi)] else []):=by
      by_cases h:hi % 2=0
      · rw [if_pos h,if_pos h,show hi - 1+1=hi by omega]; exact chain_one l hi
      · rw [if_neg h,if_neg h]; rfl
     have h3:(if lo % 2=1 then lo+1 else lo) % 2=0∧0≤(if lo % 2=1 then lo+1 else lo)∧(if lo % 2=1 then lo+1 else lo)≤hi:=by split <;> omega
     have h4:(if hi % 2=0 then hi - 1 else hi) % 2=1∧(if hi % 2=0 then hi - 1 else hi)≤hi∧lo≤(if hi % 2=0 then hi - 1 else hi):=by split <;> omega
     have h5:(if lo % 2=1 then lo+1 else lo)≤(if hi % 2=0 then hi - 1 else hi)+1:=by split <;> split <;> omega
     refine chain_app (chain_app hb ?_) ha
     generalize (if lo % 2=1 then lo+1 else lo)=a at *
     generalize (if hi % 2=0 then hi - 1 else hi)=b at *
     by_cases hlt:b < a
     · rw [if_pos hlt]
       have:a=b+1:=by omega
       rw [this]; rfl
     · rw [if_neg hlt]
       have ih:=cov_chain f (l+1) (a / 2) (b / 2) (by omega) (by omega) (by omega)
       rw [pw_succ,show a / 2 * (2 * 2 ^ l)=a * 2 ^ l by rw [← Int.mul_assoc]; congr 1; omega,show (b / 2+1) * (2 * 2 ^ l)=(b+1) * 2 ^ l by rw [← Int.mul_assoc]; congr 1; omega] at ih
       exact ih
theorem cov_lev:∀ (f l:Nat) (lo hi:Int),∀ p ∈ covL f l lo hi,l≤p.1∧p.1≤l+f
 | 0,l,lo,hi,p,hp=>by
   simp only [covL,List.mem_singleton] at hp
   subst hp
   exact ⟨Nat.le_refl _,Nat.le_refl _⟩
 | f+1,l,lo,hi,p,hp=>by
   unfold covL at hp
   by_cases he:lo=hi
   · rw [if_pos he] at hp
     simp only [List.mem_singleton] at hp
     subst hp
     exact ⟨Nat.le_refl _,by simp⟩
   · rw [if_neg he] at hp
     simp only [List.mem_append] at hp
     rcases hp with hp | hp | hp
     · split at hp
       · simp only [List.mem_singleton] at hp; subst hp; exact ⟨Nat.le_refl _,by simp⟩
       · cases hp
     · by_cases hc:(if hi % 2=0 then hi - 1 else hi) < (if lo % 2=1 then lo+1 else lo)
       · rw [if_pos hc] at hp; cases hp
       · rw [if_neg hc] at hp
         have:=cov_lev f (l+1) _ _ p hp
         omega
     · split at hp
       · simp only [List.mem_singleton] at hp; subst hp; exact ⟨Nat.le_refl _,by simp⟩
       · cases hp
theorem grow_l {P k x lo:Int} {m:Nat} (hP:0 < P) (hk:k=2 ^ (m+1) * P) (h:lo * P≤x * k) (ho:lo % 2=1):(lo+1) * P≤x * k:=by
 have e:x * k=(2 * (x * 2 ^ m)) * P:=by rw [hk,pw_succ]; ac_rfl
 rw [e] at h ⊢
 have:=Int.le_of_mul_le_mul_right h hP
 exact Int.mul_le_mul_of_nonneg_right (by omega) (Int.le_of_lt hP)
theorem grow_r {P k x e:Int} {m:Nat} (hP:0 < P) (hk:k=2 ^ (m+1) * P) (h:x * k≤(e+1) * P) (ho:e % 2=0):x * k≤e * P:=by
 have e':x * k=(2 * (x * 2 ^ m)) * P:=by rw [hk,pw_succ]; ac_rfl
 rw [e'] at h ⊢
 have:=Int.le_of_mul_le_mul_right h hP
 exact Int.mul_le_mul_of_nonneg_right (by omega) (Int.le_of_lt hP)
theorem cov_great:∀ (f l:Nat) (lo hi:Int),0≤lo → lo≤hi → hi < 2 ^ f → ∀ p ∈ covL f l lo hi,Great (lo * 2 ^ l) ((hi+1) * 2 ^ l) p
 | f,l,lo,hi,h0,h1,h2=>by
   have hP:=pw l
   have one_l:lo % 2=1 → Great (lo * 2 ^ l) ((hi+1) * 2 ^ l) (l,lo):=by
    rintro h ⟨h3,_⟩
    simp only [pw_succ] at h3
    rw [show lo / 2 * (2 * 2 ^ l)=(lo - 1) * 2 ^ l by rw [← Int.mul_assoc]; congr 1; omega] at h3
    have:=Int.le_of_mul_le_mul_right h3 hP
    omega
   have one_r:hi % 2=0 → Great (lo * 2 ^ l) ((hi+1) * 2 ^ l) (l,hi):=by
    rintro h ⟨_,h3⟩
    simp only [pw_succ] at h3
    rw [show (hi / 2+1) * (2 * 2 ^ l)=(hi+2) * 2 ^ l by rw [← Int.mul_assoc]; congr 1; omega] at h3
    have:=Int.le_of_mul_le_mul_right h3 hP
    omega
   have same:lo=hi → Great (lo * 2 ^ l) ((hi+1) * 2 ^ l) (l,lo):=by
    intro e
    by_cases h:lo % 2=1
    · exact one_l h
    · have:=one_r (by omega)
      rw [← e] at this ⊢
      exact this
   cases f with
   | zero =>
     have:hi < 1:=h2
     intro p hp
     simp only [covL,List.mem_singleton] at hp
     subst hp
     exact same (by omega)
   | succ f =>
     rw [pw_succ] at h2
     intro p hp
     unfold covL at hp
     by_cases he:lo=hi
     · rw [if_pos he] at hp
       simp only [List.mem_singleton] at hp
       subst hp
       exact same he
     · rw [if_neg he] at hp
       simp only [List.mem_append] at hp
       rcases hp with hp | hp | hp
       · by_cases h:lo % 2=1
         · rw [if_pos h] at hp
           simp only [List.mem_singleton] at hp
           subst hp
           exact one_l h
         · rw [if_neg h] at hp; cases hp
       · have h3:(if lo % 2=1 then lo+1 else lo) % 2=0∧0≤(if lo % 2=1 then lo+1 else lo)∧((if lo % 2=1 then lo+1 else lo)=lo ∨ lo % 2=1∧(if lo % 2=1 then lo+1 else lo)=lo+1):=by split <;> omega
         have h4:(if hi % 2=0 then hi - 1 else hi) % 2=1∧(if hi % 2=0 then hi - 1 else hi)≤hi∧((if hi % 2=0 then hi - 1 else hi)=hi ∨ hi % 2=0∧(if hi % 2=0 then hi - 1 else hi)=hi - 1):=by split <;> omega
         generalize (if lo % 2=1 then lo+1 else lo)=a at *
         generalize (if hi % 2=0 then hi - 1 else hi)=b at *
         by_cases hc:b < a
         · rw [if_pos hc] at hp; cases hp
         · rw [if_neg hc] at hp
           have ih:=cov_great f (l+1) (a / 2) (b / 2) (by omega) (by omega) (by omega) p hp
           obtain ⟨hl,_⟩:=cov_lev f (l+1) _ _ p hp
           rw [pw_succ,show a / 2 * (2 * 2 ^ l)=a * 2 ^ l by rw [← Int.mul_assoc]; congr 1; omega,show (b / 2+1) * (2 * 2 ^ l)=(b+1) * 2 ^ l by rw [← Int.mul_assoc]; congr 1; omega] at ih
           rintro ⟨g1,g2⟩
           have hk:(2:Int) ^ (p.1+1)=2 ^ (p.1 - l+1) * 2 ^ l:=by
            rw [← Int.pow_add]; congr 1; omega
           refine ih ⟨?_, ?_⟩
           · rcases h3.2.2 with e | ⟨ho,e⟩
             · rw [e]; exact g1
             · rw [e]; exact grow_l hP hk g1 ho
           · rcases h4.2.2 with e | ⟨ho,e⟩
             · rw [e]; exact g2
             · rw [e,show hi - 1+1=hi by omega]; exact grow_r hP hk g2 ho
       · by_cases h:hi % 2=0
         · rw [if_pos h] at hp
           simp only [List.mem_singleton] at hp
           subst hp
           exact one_r h
         · rw [if_neg h] at hp; cases hp
def gLev (lo hi:Int):Nat → Nat → Nat
 | 0,l=>l
 | f+1,l=>if lo % 2 ^ (l+1)=0∧2 ^ (l+1) - 1≤hi - lo then gLev lo hi f (l+1) else l
def gCov (B:Nat) (hi:Int):Nat → Int → List (Nat × Int)
 | 0,_=>[]
 | f+1,lo=>if lo≤hi then (gLev lo hi B 0,lo / 2 ^ gLev lo hi B 0) :: gCov B hi f (lo+2 ^ gLev lo hi B 0) else []
theorem gLev_eq {lo hi:Int} {m:Nat} (hm:∀ j,j≤m → lo % 2 ^ j=0∧2 ^ j - 1≤hi - lo):∀ (f l:Nat),l≤m → m≤l+f → (m=l+f ∨ ¬ (lo % 2 ^ (m+1)=0∧2 ^ (m+1) - 1≤hi - lo)) → gLev lo hi f l=m
 | 0,l,h1,h2,_=>by show l=m; omega
 | f+1,l,h1,h2,h3=>by
   unfold gLev
   by_cases e:l=m
   · subst e
     rw [if_neg (h3.resolve_left (by omega))]
   · rw [if_pos (hm (l+1) (by omega))]
     exact gLev_eq hm f (l+1) (by omega) (by omega) (by omega)
theorem great_mono {lo lo' e:Int} {p:Nat × Int} (h:Great lo e p) (hl:lo≤lo'):Great lo' e p:=fun ⟨a,b⟩=>h ⟨by omega,b⟩
theorem gCov_eq {B:Nat} {hi:Int}:∀ (ps:List (Nat × Int)) (f:Nat) (lo:Int),Chain lo (hi+1) ps → (∀ p ∈ ps,Great lo (hi+1) p∧p.1≤B) → ps.length < f → gCov B hi f lo=ps
 | _,0,_,_,_,hf=>by omega
 | [],f+1,lo,hc,_,_=>by
   have:lo=hi+1:=hc
   unfold gCov
   rw [if_neg (by omega)]
 | p :: ps,f+1,lo,hc,hg,hf=>by
   obtain ⟨hp1,hc'⟩:=hc
   have hle:=chain_le hc'
   have hpp:=pw p.1
   obtain ⟨hgr,hpB⟩:=hg p (by simp)
   have hlev:gLev lo hi B 0=p.1:=by
    refine gLev_eq (m:=p.1) (fun j hj=>?_) B 0 (Nat.zero_le _) (by omega) ?_
    · have e:(2:Int) ^ p.1=2 ^ (p.1 - j) * 2 ^ j:=by rw [← Int.pow_add]; congr 1; omega
      have h1:(1:Int)≤2 ^ (p.1 - j):=pw (p.1 - j)
      have h2:(2:Int) ^ j≤2 ^ p.1:=by
       rw [e]
       have:=Int.mul_le_mul_of_nonneg_right h1 (Int.le_of_lt (pw j))
       omega
      refine ⟨?_,by omega⟩
      rw [← hp1,e,← Int.mul_assoc]
      exact Int.mul_emod_left _ _
    · refine .inr ?_
      rintro ⟨h1,h2⟩
      refine hgr ?_
      rw [pw_succ] at h1 h2 ⊢
      have he:p.2 % 2=0:=by
       rw [← hp1] at h1
       have:=Int.mul_emod_mul_of_pos p.2 2 hpp
       rw [Int.mul_comm,Int.mul_comm 2] at h1
       rw [this] at h1
       rcases Int.mul_eq_zero.1 h1 with h | h
       · omega
       · exact h
      have e1:p.2 / 2 * (2 * 2 ^ p.1)=lo:=by
       rw [← hp1,← Int.mul_assoc]; congr 1; omega
      rw [Int.add_mul,e1]
      omega
   unfold gCov
   rw [if_pos (by omega),hlev,gCov_eq ps f _ hc' (fun q hq=>⟨great_mono (hg q (by simp [hq])).1 (by omega),(hg q (by simp [hq])).2⟩) (by simp at hf; omega)]
   congr 1
   rw [← hp1,Int.mul_ediv_cancel _ (by omega)]
theorem cov_len:∀ (f l:Nat) (lo hi:Int),(covL f l lo hi).length≤2 * f+1
 | 0,_,_,_=>Nat.le_refl _
 | f+1,l,lo,hi=>by
   unfold covL
   split
   · simp
   · have:=cov_len f (l+1) ((if lo % 2=1 then lo+1 else lo) / 2) ((if hi % 2=0 then hi - 1 else hi) / 2)
     simp only [List.length_append]
     split <;> split <;> split <;> simp_all <;> omega
theorem cov_same {B:Nat} {lo hi:Int} (h0:0≤lo) (h1:lo≤hi) (h2:hi < 2 ^ B) {f:Nat} (hf:2 * B+1 < f):gCov B hi f lo=covL B 0 lo hi:=by
 have hc:=cov_chain B 0 lo hi h0 h1 h2
 have hg:=cov_great B 0 lo hi h0 h1 h2
 simp only [Int.pow_zero,Int.mul_one] at hc hg
 refine gCov_eq _ f lo hc (fun p hp=>⟨hg p hp,by have:=cov_lev B 0 lo hi p hp; omega⟩) (by have:=cov_len B 0 lo hi; omega)
theorem cov_bd:∀ (f l:Nat) (lo hi:Int),0≤lo → lo≤hi → hi < 2 ^ f → ∀ p ∈ covL f l lo hi,0≤p.2∧p.2 < 2 ^ (l+f - p.1)
 | 0,l,lo,hi,h0,h1,h2,p,hp=>by
   have h2':hi < 1:=h2
   simp only [covL,List.mem_singleton] at hp
   subst hp
   refine ⟨h0, ?_⟩
   show lo < 2 ^ (l+0 - l)
   rw [Nat.add_zero,Nat.sub_self]
   show lo < 1
   omega
 | f+1,l,lo,hi,h0,h1,h2,p,hp=>by
   have hh:=h2
   rw [pw_succ] at h2
   unfold covL at hp
   by_cases he:lo=hi
   · rw [if_pos he] at hp
     simp only [List.mem_singleton] at hp
     subst hp
     refine ⟨h0, ?_⟩
     show lo < 2 ^ (l+(f+1) - l)
     rw [show l+(f+1) - l=f+1 by omega]; omega
   · rw [if_neg he] at hp
     simp only [List.mem_append] at hp
     rcases hp with hp | hp | hp
     · split at hp
       · simp only [List.mem_singleton] at hp; subst hp
         refine ⟨h0, ?_⟩
         show lo < 2 ^ (l+(f+1) - l)
         rw [show l+(f+1) - l=f+1 by omega]; omega
       · cases hp
     · have h3:0≤(if lo % 2=1 then lo+1 else lo):=by split <;> omega
       have h4:(if hi % 2=0 then hi - 1 else hi)≤hi:=by split <;> omega
       generalize (if lo % 2=1 then lo+1 else lo)=a at *
       generalize (if hi % 2=0 then hi - 1 else hi)=b at *
       by_cases hc:b < a
       · rw [if_pos hc] at hp; cases hp
       · rw [if_neg hc] at hp
         have:=cov_bd f (l+1) (a / 2) (b / 2) (by omega) (by omega) (by omega) p hp
         rw [show l+1+f=l+(f+1) by omega] at this
         exact this
     · split at hp
       · simp only [List.mem_singleton] at hp; subst hp
         refine ⟨by omega, ?_⟩
         show hi < 2 ^ (l+(f+1) - l)
         rw [show l+(f+1) - l=f+1 by omega]; omega
       · cases hp
theorem lsum_one (x:Int):lsum [x]=x:=by rw [lsum_cons,lsum_nil]; omega
theorem cov_self (f l:Nat) (i:Int):covL f l i i=[(l,i)]:=by
 cases f with
 | zero=>rfl
 | succ f=>unfold covL; rw [if_pos rfl]
end Go.Proofs.YtmalncfcgcebhaaGreatDoor
namespace Go.Proofs.YtmalncfcgcebhaaGreatDoor
set_option linter.unusedVariables false
open Go.RowKit
def CloPost (w W:World) (b6:Nat) (pre suf:List (Nat × Int)) (e:Ending) (w':World):Prop :=
 e=.returned (.tuple #[])∧∃ v',w'.heap[b6]?=some (.cells #[v'] 62 (0,0))∧w'.ownsRow w.heap.size 52 2 v' (pre ++ suf.reverse).length (pcV (pre ++ suf.reverse))∧Ext w w'
theorem CovW.rev {w W w1:World} {b6 b8:Nat} {v6 v8:Value} {pre suf:List (Nat × Int)} (h:CovW w W b6 b8 v6 v8 pre suf)
 (h1:w1.ownsRow w.heap.size 52 2 v8 suf.length (pcV suf.reverse)) (hm:Mod (fun k=>v8.ownBlock=some k) W w1):CovW w w1 b6 b8 v6 v8 pre suf.reverse:=by
 have k6:=(hm.block b6 (lt_of h.x6) (fun e=>own_notB h.o8 h.x6 (by decide) e)).trans h.x6
 have k8:=(hm.block b8 (lt_of h.x8) (fun e=>own_notB h.o8 h.x8 (by decide) e)).trans h.x8
 refine ⟨k6,k8,own_keepB h.o6 (fun k hk=>hm.block k (own_lt h.o6 hk) (fun e=>h.dj k hk e)),by rw [List.length_reverse]; exact h1,h.dj,h.g6,h.g8,h.ne, ?_⟩
 exact ⟨hm.os.trans h.ext.os,hm.tape.trans h.ext.tape,hm.output.trans h.ext.output,Nat.le_trans h.ext.size hm.size,fun k hk=>(hm.block k (Nat.lt_of_lt_of_le hk h.ext.size) (fun e=>by have:=own_blk h.o8 e; omega)).trans (h.ext.block k hk)⟩
set_option maxRecDepth 20000 in
set_option maxHeartbeats 2000000 in
theorem CoverD_c (w W:World) (b6 b8:Nat) (v6 v8:Value) (pre suf:List (Nat × Int)) (u:FrameMode) (h:CovW w W b6 b8 v6 v8 pre suf) (hp:pre.length≤100000) (hs:suf.length≤100000) :
 CallsD Tryz.prog 248 #[.pointer (some ⟨b8,0,none⟩),.pointer (some ⟨b6,0,none⟩)] u W fun e u' w'=>u'=u∧CloPost w W b6 pre suf e w':=by
 obtain ⟨i0,z0,hi,hz0,hz1,hz2,hzs⟩:=info_pc
 have c8:=(cell_of h.x8 0).trans rfl
 have l8:=lt_of h.x8
 have HH:=Lib.hid h
 clear h
 go_enter_d Tryz.func248,Tryz.ntmps248
 go_wp2_with fail
 refine Calls.mono (Reverse_c suf v8 w.heap.size W HH.out.o8 (by omega)) ?_
 rintro e w1 ⟨rfl,ho,hm⟩
 have h1:=HH.out.rev ho hm
 clear c8 l8 ho hm
 have c6:=(cell_of h1.x6 0).trans rfl
 have c8:=(cell_of h1.x8 0).trans rfl
 have l6:=lt_of h1.x6
 have l8:=lt_of h1.x8
 have f6:=frozen_of h1.x6 0
 have H1:=Lib.hid h1
 clear h1
 go_wp2_with (at_builtin; refine wpList_apppz _ suf.reverse pre v6 w.heap.size 52 H1.out.o6 62 rfl _ _ rfl i0 z0 hi hz0 hz1 hz2 hzs Tryz.underlying62 rfl v8 rfl w.heap.size H1.out.o8 (by rw [List.length_reverse]; omega) H1.out.ext.size ?_)
 intro v' w2 hown hext hcells
 have k6:=hcells _ _ _ H1.out.x6 (by decide)
 have hE:=hext w H1.out.ext (Nat.le_refl _)
 have HK:=Lib.hid k6
 have c62:=(cell_of k6 0).trans rfl
 have l62:=lt_of k6
 have f62:=frozen_of k6 0
 obtain ⟨pv,cv,rfl⟩:=own_sl hown
 clear hext hcells k6
 go_wp2
 go_end0
 have hlen:(pre ++ suf.reverse).length=pre.length+suf.length:=by simp
 refine ⟨rfl,_,by rw [setCell_same HK.out]; rfl, ?_,hE.setR (p:=⟨b6,0,none⟩) H1.out.g6 _⟩
 rw [hlen]
 exact own_keepB hown (fun k hk=>setCell_other _ _ (fun e=>own_notB hown HK.out (by decide) (e ▸ hk)))
def CoverPost (w:World) (B:Nat) (lo hi:Int) (e:Ending) (w':World):Prop :=
 ((hi < lo ∨ 2 ^ B≤hi)∧e=.returned (.tuple #[.slice none 0 0,.bool false])∧Ext w w') ∨
 ((lo≤hi∧hi < 2 ^ B)∧∃ v,e=.returned (.tuple #[v,.bool true])∧w'.ownsRow w.heap.size 52 2 v (covL B 0 lo hi).length (pcV (covL B 0 lo hi))∧Ext w w')
theorem cov_step {B l:Nat} {a b:Int} (hl:l < B) (hne:a ≠ b):covL (B - l) l a b=(if a % 2=1 then [(l,a)] else []) ++
 ((if (if b % 2=0 then b - 1 else b) < (if a % 2=1 then a+1 else a) then [] else covL (B - (l+1)) (l+1) ((if a % 2=1 then a+1 else a) / 2) ((if b % 2=0 then b - 1 else b) / 2)) ++ (if b % 2=0 then [(l,b)] else [])):=by
 rw [show B - l=(B - (l+1))+1 by omega]
 conv=>lhs; unfold covL
 rw [if_neg hne]
theorem rev_one (c:Prop) [Decidable c] (p:Nat × Int):(if c then [p] else []).reverse=if c then [p] else []:=by split <;> rfl
set_option maxRecDepth 20000 in
set_option maxHeartbeats 4000000 in
theorem Cover_c (B:Nat) (hB1:1≤B) (hB2:B≤59) (lo hi:Int) (hlo:U64 lo) (hhi:U64 hi) (w:World) :
 Calls Tryz.prog 211 #[.int .i64 B,.int .u64 lo,.int .u64 hi] w (CoverPost w B lo hi):=by
 have hmf:∀ (fn:Fn) (first cap:Array Value) (w:World),(Instr.makeFunc fn first cap).run Tryz.prog w=.ok (.func fn first cap) w:=fun _ _ _ _=>rfl
 obtain ⟨hlo0,hlo1⟩:=hlo
 obtain ⟨hhi0,hhi1⟩:=hhi
 have hpw:=pow_bd B hB2
 by_cases h1:hi < lo
 · go_enter_defers Tryz.func211,Tryz.ntmps211
   go_wp2
   exact ⟨.tuple #[.slice none 0 0,.bool false],by simp [results,Tryz.results211,go_sem],.inl ⟨.inl h1,rfl,Ext.alloc' _ _⟩⟩
 · by_cases h2:2 ^ B≤hi
   · go_enter_defers Tryz.func211,Tryz.ntmps211
     go_wp2
     exact ⟨.tuple #[.slice none 0 0,.bool false],by simp [results,Tryz.results211,go_sem],.inl ⟨.inr h2,rfl,Ext.alloc' _ _⟩⟩
   · have hcv:CovW w ((w.alloc (.cells #[.slice none 0 0] 62)).alloc (.cells #[.slice none 0 0] 62)) w.heap.size (w.heap.size+1) (.slice none 0 0) (.slice none 0 0) [] [] :=
      ⟨by rw [heap_old _ _ (by rw [size_alloc]; omega)]; exact heap_at _ _ rfl,heap_at _ _ (size_alloc _ _).symm,⟨rfl,.inl ⟨rfl,rfl⟩⟩,⟨rfl,.inl ⟨rfl,rfl⟩⟩,(fun i hi=>by simp [Value.ownBlock] at hi),Nat.le_refl _,by omega,by omega,(Ext.alloc' _ _).allocR _⟩
     have HCV:=Lib.hid hcv
     have HF:=Lib.hid (show (lo≤hi∧hi < 2 ^ B) from ⟨by omega,by omega⟩)
     obtain ⟨i0,z0,hi0,hz0,hz1,hz2,hzs⟩:=info_pc
     have door:∀ (W:World) (v6 v8:Value) (pre suf:List (Nat × Int)) (tm:Array Value),CovW w W w.heap.size (w.heap.size+1) v6 v8 pre suf → pre.length≤100 → suf.length≤100 → covL B 0 lo hi=pre ++ suf.reverse → tm[6]?=some (.pointer (some ⟨w.heap.size,0,none⟩)) → tm[7]?=some (.bool true) →
      bodyPostD Tryz.prog Tryz.f211 (CoverPost w B lo hi) .ret { tmps:=tm,defers:=[{ target:=.fn (.func 248) #[.pointer (some ⟨w.heap.size+1,0,none⟩),.pointer (some ⟨w.heap.size,0,none⟩)],args:=#[] }] } W:=by
      intro W v6 v8 pre suf tm h hp hs hcv t6 t7
      refine leaves_cons (f:=248) (args:=#[.pointer (some ⟨w.heap.size+1,0,none⟩),.pointer (some ⟨w.heap.size,0,none⟩)]) (by simp) (by simp [go_sem]) ?_
      refine (CoverD_c w W _ _ v6 v8 pre suf .returning h (by omega) (by omega)).mono ?_
      rintro e u' w'' ⟨rfl,rfl,v',hk,ho,hE⟩
      have hc:=(cell_of hk 0).trans rfl
      exact ⟨.tuple #[v',.bool true],by simp [results,Tryz.results211,go_sem,t6,t7,hc],.inr ⟨HF.out,v',rfl,by rw [hcv]; exact ho,hE⟩⟩
     have HD:=Lib.hid door
     clear door hcv
     go_enter_defers Tryz.func211,Tryz.ntmps211
     go_wp2_with fail
     go_loopw [1,2,9] (fun s1 s2 s9 wr=>∃ (a b:Int) (l:Nat) (pre suf:List (Nat × Int)) (v6 v8:Value),s1=.int .u64 a∧s2=.int .u64 b∧s9=.int .i64 l∧l≤B∧0≤a∧a≤b∧b < 2 ^ (B - l)∧pre.length≤l∧suf.length≤l ∧
      covL B 0 lo hi=pre ++ (covL (B - l) l a b ++ suf.reverse)∧CovW w wr w.heap.size (w.heap.size+1) v6 v8 pre suf) (fun _ _ s9 _=>B - (intOf s9).toNat)
     case atStart=>exact ⟨lo,hi,0,[],[],_,_,rfl,rfl,rfl,Nat.zero_le _,hlo0,by omega,by rw [Nat.sub_zero]; omega,Nat.le_refl _,Nat.le_refl _,by simp,HCV.out⟩
     case round =>
      obtain ⟨a,b,l,pre,suf,v6,v8,rfl,rfl,rfl,hl,ha0,hab,hbb,hpl,hsl,hcov,hW⟩:=hrel
      have hpw2:=pow_bd (B - l) (by omega)
      have HC:=Lib.hid hcov
      have c6:=(cell_of hW.x6 0).trans rfl
      have c8:=(cell_of hW.x8 0).trans rfl
      have l6:=lt_of hW.x6
      have l8:=lt_of hW.x8
      have f6:=frozen_of hW.x6 0
      have f8:=frozen_of hW.x8 0
      have hsz:=hW.ext.size
      have HW:=Lib.hid hW
      clear hcov hW
      by_cases he:a=b
      · subst he
        go_wp2_with (at_builtin; refine wpList_appp _ (l,a) pre v6 w.heap.size 52 52 HW.out.o6 62 rfl _ _ rfl i0 z0 hi0 hz0 hz1 hz2 hzs Tryz.underlying62 rfl rfl (by omega) HW.out.ext.size ?_)
        intro v' w' hw1 hw2 hw3
        have hW1:=HW.out.app hw1 hw2 hw3
        have hk0:=HW.out.app0 hw2
        obtain ⟨pv,cv,rfl⟩:=own_sl hw1
        have W1:=Lib.hid hW1
        have j6:=(cell_of hk0 0).trans rfl
        have j6l:=lt_of hk0
        have j6f:=frozen_of hk0 0
        have k6:=(cell_of hW1.x6 0).trans rfl
        have k6l:=lt_of hW1.x6
        have k6f:=frozen_of hW1.x6 0
        clear hw1 hw2 hw3 hW1 hk0
        go_wp2
        refine HD.out _ _ _ _ _ _ W1.out.set ?_ ?_ ?_ rfl rfl
        · rw [List.length_append,List.length_singleton]; omega
        · omega
        · rw [HC.out,cov_self,List.append_assoc]
      · have hl2:l < B:=by
         rcases Nat.lt_or_ge l B with h | h
         · exact h
         · rw [show B - l=0 by omega] at hbb
           have:b < 1:=hbb
           omega
        have ha1:=and_1 a ha0 (by omega)
        have hb1:=and_1 b (by omega) (by omega)
        have hstep:=cov_step hl2 he
        have h3:(if a % 2=1 then a+1 else a) % 2=0∧a≤(if a % 2=1 then a+1 else a)∧(if a % 2=1 then a+1 else a)≤b:=by split <;> omega
        have h4:(if b % 2=0 then b - 1 else b) % 2=1∧(if b % 2=0 then b - 1 else b)≤b∧a≤(if b % 2=0 then b - 1 else b):=by split <;> omega
        have h5:(if a % 2=1 then a+1 else a)≤(if b % 2=0 then b - 1 else b)+1:=by split <;> split <;> omega
        have h6:(if a % 2=1 then [(l,a)] else []).length≤1∧(if b % 2=0 then [(l,b)] else []).length≤1:=by constructor <;> split <;> simp
        have h7:=rev_one (b % 2=0) (l,b)
        obtain ⟨a2,ha2⟩:∃ a2,(if a % 2=1 then a+1 else a)=a2:=⟨_,rfl⟩
        obtain ⟨b2,hb2⟩:∃ b2,(if b % 2=0 then b - 1 else b)=b2:=⟨_,rfl⟩
        obtain ⟨L,hL⟩:∃ L,(if a % 2=1 then [(l,a)] else [])=L:=⟨_,rfl⟩
        obtain ⟨R,hR⟩:∃ R,(if b % 2=0 then [(l,b)] else [])=R:=⟨_,rfl⟩
        rw [ha2] at h3 h5
        rw [hb2] at h4 h5
        rw [hL,hR] at h6
        rw [hR] at h7
        rw [ha2,hb2,hL,hR] at hstep
        obtain ⟨h31,h32,h33⟩:=h3
        obtain ⟨h41,h42,h43⟩:=h4
        have HS:=Lib.hid hstep
        have H6:=Lib.hid h6
        have H7:=Lib.hid h7
        have HA:=Lib.hid ha2
        have HBB:=Lib.hid hb2
        have HL:=Lib.hid hL
        have HR:=Lib.hid hR
        clear hstep h6 h7 ha2 hb2 hL hR
        go_upto_if 42 with (fail)
        go_cut [1] from 30 to 69 (fun s1 wx=>∃ v6':Value,s1=.int .u64 a2∧CovW w wx w.heap.size (w.heap.size+1) v6' v8 (pre ++ L) suf)
        case first =>
         have hA2:=HA.out
         have hL2:=HL.out
         by_cases ho:a % 2=1
         · rw [if_pos ho] at hA2 hL2
           subst hA2 hL2
           go_wp2_with (at_builtin; refine wpList_appp _ (l,a) pre v6 w.heap.size 52 52 HW.out.o6 62 rfl _ _ rfl i0 z0 hi0 hz0 hz1 hz2 hzs Tryz.underlying62 rfl rfl (by omega) HW.out.ext.size ?_)
           intro v' w' hw1 hw2 hw3
           have hW1:=HW.out.app hw1 hw2 hw3
           have hk0:=HW.out.app0 hw2
           obtain ⟨pv,cv,rfl⟩:=own_sl hw1
           have W1:=Lib.hid hW1
           have j6:=(cell_of hk0 0).trans rfl
           have j6l:=lt_of hk0
           have j6f:=frozen_of hk0 0
           clear hw1 hw2 hw3 hW1 hk0
           go_wp2
           go_meet
           exact ⟨_,rfl,W1.out⟩
         · rw [if_neg ho] at hA2 hL2
           subst hA2 hL2
           have ho2:(a % 2 == 1)=false:=by simp; omega
           go_wp2_with fail
           go_meet
           exact ⟨v6,rfl,by rw [List.append_nil]; exact HW.out⟩
        case rest =>
         obtain ⟨v6',rfl,hW2⟩:=hcut
         clear HW c6 c8 l6 l8 f6 f8 ha1
         have c8:=(cell_of hW2.x8 0).trans rfl
         have l8:=lt_of hW2.x8
         have f8:=frozen_of hW2.x8 0
         have HW2:=Lib.hid hW2
         clear hW2
         go_upto_if 53 with (fail)
         go_cut [2] from 30 to 69 (fun s2 wx=>∃ v8':Value,s2=.int .u64 b2∧CovW w wx w.heap.size (w.heap.size+1) v6' v8' (pre ++ L) (suf ++ R))
         case first =>
          have hB2:=HBB.out
          have hR2:=HR.out
          by_cases ho:b % 2=0
          · rw [if_pos ho] at hB2 hR2
            subst hB2 hR2
            go_wp2_with (at_builtin; refine wpList_appp _ (l,b) suf v8 w.heap.size 52 52 HW2.out.o8 62 rfl _ _ rfl i0 z0 hi0 hz0 hz1 hz2 hzs Tryz.underlying62 rfl rfl (by omega) HW2.out.ext.size ?_)
            intro v' w' hw1 hw2 hw3
            have hW1:=HW2.out.symm.app hw1 hw2 hw3
            have hk0:=HW2.out.symm.app0 hw2
            obtain ⟨pv,cv,rfl⟩:=own_sl hw1
            have W1:=Lib.hid hW1
            have j8:=(cell_of hk0 0).trans rfl
            have j8l:=lt_of hk0
            have j8f:=frozen_of hk0 0
            clear hw1 hw2 hw3 hW1 hk0
            go_wp2
            go_meet
            exact ⟨_,rfl,W1.out.symm⟩
          · rw [if_neg ho] at hB2 hR2
            subst hB2 hR2
            have ho2:(b % 2 == 0)=false:=by simp; omega
            go_wp2_with fail
            go_meet
            exact ⟨v8,rfl,by rw [List.append_nil]; exact HW2.out⟩
         case rest =>
          obtain ⟨v8',rfl,hW3⟩:=hcut
          clear HW2 c8 l8 f8 hb1
          have c6:=(cell_of hW3.x6 0).trans rfl
          have l6:=lt_of hW3.x6
          have f6:=frozen_of hW3.x6 0
          have HW3:=Lib.hid hW3
          clear hW3
          by_cases hlt:b2 < a2
          · obtain ⟨p6,n6,q6,hv6⟩:∃ p n c,v6'=.slice p n c:=by obtain ⟨p,c,h⟩:=own_sl HW3.out.o6; exact ⟨p,_,c,h⟩
            subst hv6
            go_wp2_with fail
            refine HD.out _ _ _ _ _ _ HW3.out.set ?_ ?_ ?_ rfl rfl
            · rw [List.length_append]; have:=H6.out.1; omega
            · rw [List.length_append]; have:=H6.out.2; omega
            · rw [HC.out,HS.out,if_pos hlt,List.reverse_append,H7.out,List.nil_append,List.append_assoc,List.append_assoc]
          · go_wp2_with fail
            go_roundw
            case rel =>
             refine ⟨a2 / 2,b2 / 2,l+1,pre ++ L,suf ++ R,v6',v8',by go_num,by go_num,by go_num,by omega,by omega,by omega, ?_, ?_, ?_, ?_,HW3.out⟩
             · have e:(2:Int) ^ (B - l)=2 * 2 ^ (B - (l+1)):=by rw [show B - l=B - (l+1)+1 by omega]; exact pw_succ _
               omega
             · rw [List.length_append]; have:=H6.out.1; omega
             · rw [List.length_append]; have:=H6.out.2; omega
             · rw [HC.out,HS.out,if_neg hlt,List.reverse_append,H7.out]; simp only [List.append_assoc]
            case measure=>simp [intOf]; omega
end Go.Proofs.YtmalncfcgcebhaaGreatDoor
namespace Go.Proofs.YtmalncfcgcebhaaGreatDoor
set_option linter.unusedVariables false
open Go.RowKit
attribute [local go_sem] Oper.semAt_some
def Uniq (C:Cfg) (B:Nat) (ls:Nat → List Int) (pt:Nat → Int → Int):Prop:=∀ (n:Nat) (i x:Int),n≤B → 0≤i → i < keys C n → lvPt C n (ls n) i x → x=pt n i
def cvV (pt:Nat → Int → Int) (B:Nat) (lo hi:Int):List Int:=(covL B 0 lo hi).map fun p=>pt p.1 p.2
def PartsPost (w:World) (B:Nat) (pt:Nat → Int → Int) (lo hi:Int) (e:Ending) (w':World):Prop :=
 (hi < lo∧e=.returned (.tuple #[.slice none 0 0,.int .i64 1])∧Ext w w') ∨
 ((lo≤hi∧2 ^ B≤hi)∧e=.returned (.tuple #[.slice none 0 0,.int .i64 2])∧Ext w w') ∨
 ((lo≤hi∧hi < 2 ^ B)∧∃ v,e=.returned (.tuple #[v,.int .i64 0])∧w'.ownsRow w.heap.size 2 1 v (cvV pt B lo hi).length (ints (cvV pt B lo hi))∧Ext w w')
set_option maxRecDepth 20000 in
set_option maxHeartbeats 1000000 in
theorem PartsAsk_c (s g:Nat) (C:Cfg) (B:Nat) (L:Nat → Lev) (ls:Nat → List Int) (pt:Nat → Int → Int) (hU:Uniq C B ls pt) (b:Nat) (n:Nat) (i:Int) (hn:n≤B) (h0:0≤i) (h1:i < keys C n) (w:World) (h:KAt w s g C B L ls)
 (hb:w.cell? ⟨b,0,none⟩=some (.pointer (some ⟨s,0,none⟩))) (hbl:b < w.heap.size) :
 Calls Tryz.prog 212 #[.agg #[.int .i64 n,.int .u64 i],.pointer (some ⟨b,0,none⟩)] w fun e w'=>e=.returned (.int .i64 (pt n i))∧Ext w w':=by
 have HH:=Lib.hid h
 clear h
 go_enter Tryz.func212,Tryz.ntmps212
 go_wp2_with fail
 refine Calls.mono (KPoint_c s g C B L ls _ (HH.out.ext (Ext.alloc' _ _)) n hn i h0 h1) ?_
 rintro e w1 ⟨x,rfl,hx,hx1⟩
 have hE:Ext w w1:=(Ext.alloc' _ _).trans' hx1
 obtain rfl:=hU n i x hn h0 h1 hx
 go_wp2
 go_ret
 exact ⟨rfl,hE⟩
set_option maxRecDepth 100000 in
set_option maxHeartbeats 4000000 in
theorem Parts_c (s g:Nat) (C:Cfg) (B:Nat) (L:Nat → Lev) (ls:Nat → List Int) (w:World) (h:KAt w s g C B L ls) (pt:Nat → Int → Int) (hU:Uniq C B ls pt) (lo hi:Int) (hlo:U64 lo) (hhi:U64 hi) :
 Calls Tryz.prog 172 #[.pointer (some ⟨s,0,none⟩),.int .u64 lo,.int .u64 hi] w (PartsPost w B pt lo hi):=by
 have hmf:∀ (fn:Fn) (first cap:Array Value) (w:World),(Instr.makeFunc fn first cap).run Tryz.prog w=.ok (.func fn first cap) w:=fun _ _ _ _=>rfl
 have hok:=h.ok
 have hB:=h.hB
 have hb1:=hok.b1
 have hb2:=hok.b2
 have hls:=h.lts
 have HH:=Lib.hid h
 have hkk:∀ n:Nat,n≤B → keys C n=2 ^ (B - n):=fun n hn=>by unfold keys; rw [hB]; congr 1; omega
 have HB:=Lib.hid hB
 have HK:=Lib.hid hkk
 clear h hkk
 refine (callsIn_wide (n:=5)).1 ?_
 refine callsIn_of_wp_marks Tryz.func172 rfl trivial ?_ rfl
 simp only [Tryz.ntmps172,List.size_toArray,List.length_cons,List.length_nil,Nat.reduceAdd,Nat.reduceSub,Array.replicate_succ,Array.replicate_zero,List.push_toArray,List.append_toArray,List.nil_append,List.cons_append]
 by_cases hlt:hi < lo
 · gi_wp2_with fail
   exact ⟨_,results_tmp2 rfl _ _ _,.inl ⟨hlt,rfl,Ext.alloc' _ _⟩⟩
 · gi_wp2_with fail
   refine ⟨trivial,(callsIn_wide.2 (SKConfig_c s g C B L ls _ (HH.out.ext (Ext.alloc' _ _)))).mono ?_⟩
   rintro e w1 ⟨rfl,hx1⟩
   have hE1:Ext w w1:=(Ext.alloc' _ _).trans' hx1
   have hp1:=hx1.keep (heap_at w (.cells #[.pointer (some ⟨s,0,none⟩)] 40) rfl)
   clear hx1
   rw [HB.out]
   gi_wp2_with fail
   refine ⟨trivial,(callsIn_wide.2 (Cover_c B (by omega) (by omega) lo hi hlo hhi _)).mono ?_⟩
   rintro e w2 (⟨hc,rfl,hx2⟩ | ⟨hc,v,rfl,ho,hx2⟩)
   · gi_wp2_with fail
     exact ⟨_,results_tmp2 rfl _ _ _,.inr (.inl ⟨by omega,rfl,hE1.trans' hx2⟩)⟩
   · have hE2:=hE1.trans' hx2
     have hp2:=hx2.keep hp1
     obtain ⟨pv,cv,rfl⟩:=own_sl ho
     have hsz2:=hE2.size
     have HO:=Lib.hid ho
     clear ho hx2 hE1 hp1
     gi_wp2_with fail
     refine ⟨trivial,(callsIn_wide.2 (Values_c pv _ cv _)).mono ?_⟩
     rintro e w3 ⟨rfl,rfl⟩
     gi_wp2_with fail
     obtain ⟨W0,hW0⟩:∃ W0,((w2.alloc (.cells #[.func (.func 212) #[] #[.pointer (some ⟨w.heap.size,0,none⟩)]] 342)).alloc (.cells #[.slice none 0 0] 47)).alloc (.cells #[.slice pv (covL B 0 lo hi).length cv] 62)=W0:=⟨_,rfl⟩
     have hsz0:W0.heap.size=w2.heap.size+3:=by rw [← hW0]; simp
     have hx0:Ext w2 W0:=by rw [← hW0]; exact ((Ext.alloc' _ _).allocR _).allocR _
     have b0:Boxed W0 w2.heap.size 342 (.func (.func 212) #[] #[.pointer (some ⟨w.heap.size,0,none⟩)]):=by rw [← hW0]; exact ((Boxed.new w2 _ _).alloc _).alloc _
     have b1:Boxed W0 (w2.heap.size+1) 47 (.slice none 0 0):=by
      have:=(Boxed.new (w2.alloc (.cells #[.func (.func 212) #[] #[.pointer (some ⟨w.heap.size,0,none⟩)]] 342)) 47 (.slice none 0 0)).alloc (.cells #[.slice pv (covL B 0 lo hi).length cv] 62)
      rw [World.size_alloc] at this
      rw [← hW0]; exact this
     have b2:W0.cell? ⟨w2.heap.size+1+1,0,none⟩=some (.slice pv (covL B 0 lo hi).length cv):=by
      rw [← hW0]
      exact (cell_of (heap_at _ _ (by simp)) 0).trans rfl
     rw [hW0]
     clear hW0
     have hpcs:PcsAt w2.heap.size W0 (.slice pv (covL B 0 lo hi).length cv) (covL B 0 lo hi):=(PcsAt.of_own HO.out (Nat.le_refl _)).below hx0
     have hbd:=cov_bd B 0 lo hi hlo.1 hc.1 hc.2
     have hlv:=cov_lev B 0 lo hi
     have hlen:=cov_len B 0 lo hi
     have HBD:=Lib.hid hbd
     have HLV:=Lib.hid hlv
     have HLEN:=Lib.hid hlen
     have HC:=Lib.hid hc
     clear hbd hlv hc hlen
     refine wpIn_rangeFunc_ownH rfl (by decide) (gf:=250) (lb:=#[.pointer (some ⟨w2.heap.size+1+1,0,none⟩)]) rfl trivial (enters_of Tryz.func250 (by kernel_rfl) rfl)
      (values_stops 4 (w2.heap.size+1+1) w2.heap.size _ (covL B 0 lo hi) (by have:=HLEN.out; omega) W0 (by omega) (by omega) b2 hpcs) belowK_t (belowK_b (by omega)) (Below.refl _ _) (fun _=>rfl)
      (fun pre W=>((∃ v,Boxed W (w2.heap.size+1) 47 v∧W.ownsRow w2.heap.size 2 1 v (pre.map (fun x=>pt x.1.1 x.1.2)).length (ints (pre.map (fun x=>pt x.1.1 x.1.2)))∧True)∧Boxed W w2.heap.size 342 (.func (.func 212) #[] #[.pointer (some ⟨w.heap.size,0,none⟩)]))∧Below w2.heap.size w2 W)
      (fun _ _ _=>False)
      (OwnFrom.and (OwnFrom.and (Own.from (holdsRow_own w2.heap.size (w2.heap.size+1) 47 2 1 (fun pre:List {p:Nat × Int // p ∈ covL B 0 lo hi}=>(pre.map (fun x=>pt x.1.1 x.1.2)).length) (fun pre=>ints (pre.map (fun x=>pt x.1.1 x.1.2))) (fun _ _=>True)) _) (Own.from (boxed_own _ _ _) _)) (ownFrom_below (Nat.le_refl _) (by omega)))
      (fun _ _ _ _ _ hs _ _=>hs)
      ⟨⟨⟨_,b1,⟨rfl,.inl ⟨rfl,rfl⟩⟩,trivial⟩,b0⟩,hx0⟩
      (fun x a' W=>∃ Bx,w2.heap.size+1 < Bx∧W.heap[Bx]?=some (.cells #[.int .i64 (x.1.1:Int),.int .u64 x.1.2] 52 (0,0))∧a'={ tmps:=#[.pointer (some ⟨s,0,none⟩),.int .u64 lo,.int .u64 hi,.pointer (some ⟨w.heap.size,0,none⟩),undef,undef,.slice none 0 0,.int .i64 0,.slice pv (covL B 0 lo hi).length cv,.bool true,.pointer (some ⟨w2.heap.size,0,none⟩),.pointer (some ⟨w2.heap.size+1,0,none⟩),.pointer (some ⟨Bx,0,none⟩),.int .u64 lo,.int .u64 hi,.bool false,.tuple #[.slice pv (covL B 0 lo hi).length cv,.bool true],.pointer (some ⟨s,0,none⟩),.agg #[.int .i64 B,.int .i64 C.rows,.int .i64 C.width,.int .i64 C.mode,.int .u64 C.seed],.int .i64 B,.int .u64 lo,.int .u64 hi,.tuple #[.slice pv (covL B 0 lo hi).length cv,.bool true],.slice pv (covL B 0 lo hi).length cv,.bool true,.bool true,.bool false,.func (.func 212) #[] #[.pointer (some ⟨w.heap.size,0,none⟩)],.slice pv (covL B 0 lo hi).length cv,.func (.func 250) #[] #[.pointer (some ⟨w2.heap.size+1+1,0,none⟩)],.agg #[.int .i64 (x.1.1:Int),.int .u64 x.1.2],undef,undef,undef,undef,undef,undef,undef],defers:=[] })
      (fun x a' _ X Y row hs hg hr=>by
       obtain ⟨Bx,h1,h2,h3⟩:=hs
       refine ⟨Bx,h1,(hg.block Bx (lt_of h2) (fun e=>?_)).trans h2,h3⟩
       obtain ⟨_,o,ho,hc⟩:=hr Bx e.symm
       rw [h2] at ho; cases ho; cases hc)
      ?assign ?body ?done ?stop
     case assign =>
      rintro l pre x W K ⟨⟨⟨v,hv,hrow,_⟩,hf⟩,hB1⟩ hK
      have:=hB1.size
      have:=hv.lt
      dsimp only [pcEnc]
      gi_wp2
      exact hK _ _ ((KeepsOthers.alloc _ _).from _) ((Below.refl _ W).alloc hB1.size _) ⟨⟨⟨v,hv.alloc _,hrow.alloc _,trivial⟩,hf.alloc _⟩,hB1.alloc hB1.size _⟩ ⟨W.heap.size,hv.lt,heap_at _ _ rfl,rfl⟩
     case body =>
      rintro l pre x a' W hl _ ⟨⟨⟨v,hv,hrow,_⟩,hf⟩,hB1⟩ ⟨Bx,hBx,hx,rfl⟩ hlen
      have hlv:=HLV.out x.1 x.2
      have hbd:=HBD.out x.1 x.2
      have hlv2:x.1.1≤B:=by omega
      have hlt2:x.1.2 < keys C x.1.1:=by rw [HK.out _ hlv2]; rw [Nat.zero_add] at hbd; exact hbd.2
      have hK1:=(HH.out.ext hE2).ext hB1
      have hE4:Ext w2 W:=hB1
      have hp3:=hE4.keep hp2
      have hpl:=lt_of hp3
      have hpc:=(cell_of hp3 0).trans rfl
      have hvl:=hv.lt
      have hvc:=hv.cell
      have hfl:=hf.lt
      have hfc:=hf.cell
      have hxl:=lt_of hx
      have x0:=(cell_of hx 0).trans rfl
      have x1:=(cell_of hx 1).trans rfl
      have hsW:=hB1.size
      obtain ⟨pw,nw,cw,hvw⟩:∃ p n c,v=.slice p n c:=by obtain ⟨p,c,h⟩:=own_sl hrow; exact ⟨p,_,c,h⟩
      subst hvw
      obtain ⟨S,hS⟩:∃ S:Nat → Prop,S=fun k=>(Value.slice pw nw cw).ownBlock=some k:=⟨_,rfl⟩
      have nS1:¬ S (w2.heap.size+1):=by rw [hS]; exact fun e=>hv.not_row (by decide) hrow e.symm
      have nS0:¬ S w2.heap.size:=by rw [hS]; exact fun e=>hf.not_row (by decide) hrow e.symm
      have nSx:¬ S Bx:=by rw [hS]; exact own_notB hrow hx (by decide)
      have HS:=Lib.hid hS
      clear hS
      have HV:=Lib.hid hv
      have HF:=Lib.hid hf
      have HR:=Lib.hid hrow
      have HX:=Lib.hid hx
      clear hv hf hrow hx hp3
      gi_wp2
      refine pi_startR (fun w'=>∃ x:AftS S W,w'=x.w) [6] (by kernel_rfl) (fun ⟨_,_,hh⟩=>hh) (by kernel_rfl) ?_
      have hC0:=afs_drew S W
      refine pi_c 0 (by assumption) rfl (by kernel_rfl) (by kernel_rfl) (fun _ _ _ _ h=>h) (fun K hK=>?_)
      go_big_quiet_op
      refine hK _ ?_
      clear hK K
      refine pi_c 1 (by assumption) rfl (by kernel_rfl) (by kernel_rfl) (fun _ _ _ _ h=>h) (fun K hK=>?_)
      go_big_quiet_op
      refine hK _ ?_
      clear hK K
      refine pi_c 2 (by assumption) rfl (by kernel_rfl) (by kernel_rfl) (fun _ _ _ _ h=>h) (fun K hK=>?_)
      go_big_quiet_op
      refine hK _ ?_
      clear hK K
      refine pi_l 3 rfl (by kernel_rfl) (fun K hK=>?_)
      go_wp2_with fail
      refine Calls.mono (PartsAsk_c s g C B L ls pt hU w.heap.size x.1.1 x.1.2 hlv2 hbd.1 hlt2 _ (hK1.ext (Below.drew (Ext.refl W))) hpc hpl) ?_
      rintro e w3 ⟨rfl,hx3⟩
      go_wp2
      refine hK _ _ (fun _ h=>afs_step h hx3) ?_
      clear hK K
      refine pi_l 4 rfl (by kernel_rfl) (fun K hK=>?_)
      go_wp2
      refine hK _ _ (fun _ h=>afs_step h (Ext.alloc' _ _)) ?_
      clear hK K
      have hE3:Ext W w3:=Ext.trans' (Below.drew (Ext.refl W)) hx3
      have hv3:Boxed w3 (w2.heap.size+1) 47 _:=hE3.keep HV.out
      have hr3:=own_ext HR.out hE3
      have hs3:=hE3.size
      refine pi_l 5 rfl (by kernel_rfl) (fun K hK=>?_)
      go_wp2_with (at_builtin; refine wpList_app1 w3 (pt x.1.1 x.1.2) _ _ w2.heap.size 2 hr3 47 rfl _ _ rfl info_i64 Tryz.underlying47 rfl rfl ?a1 ?a2 ?_)
      case a1=>have:=HLEN.out; rw [List.length_map]; omega
      case a2=>omega
      intro v' w4 hown4 hg4 _
      obtain ⟨q1,q2,q3,q4,q5⟩:=Boxed.appended hv3 (by decide) hr3 (by omega) (by omega) hown4 hg4
      obtain ⟨pv4,nv4,cv4,hv4⟩:∃ p n c,v'=.slice p n c:=by obtain ⟨p,c,h⟩:=own_sl hown4; exact ⟨p,_,c,h⟩
      subst hv4
      have q1c:=q1.cell
      have q1l:=q1.lt
      have q1f:=q1.frozen
      have Q:=Lib.hid (And.intro q2 (And.intro q3 (And.intro q4 q5)))
      have hf4:Boxed w4 w2.heap.size 342 (.func (.func 212) #[] #[.pointer (some ⟨w.heap.size,0,none⟩)]):=((show Boxed w3 w2.heap.size _ _ from hE3.keep HF.out).alloc _).kept hg4 ((show Boxed w3 w2.heap.size _ _ from hE3.keep HF.out).not_row (by decide) hr3)
      have HF4:=Lib.hid hf4
      have hcl:∃ x:AftS S W,w4=x.w:=⟨⟨w4,mod_grown (hE3.mod S) hg4 (fun i hi=>by rw [HS.out]; exact hi)⟩,rfl⟩
      clear hown4 hg4 q1 q2 q3 q4 q5 hf4
      go_wp2
      refine hK _ _ (fun _ _=>hcl) ?_
      clear hK K
      refine pi_l 6 rfl (by kernel_rfl) (fun K hK=>?_)
      go_wp2
      refine hK _ _ (by simp) ?_
      clear hK K
      refine pi_end (by kernel_rfl) ?_
      obtain ⟨q2,q3,q4,q5⟩:=Q.out
      have hbw:Below w2.heap.size W (w4.setCell ⟨w2.heap.size+1,0,none⟩ (.slice pv4 nv4 cv4)):=Below.trans (hE3.mono hsW) q5
      refine ⟨((keepsO_ext hE3).trans q4).from _,hbw,⟨⟨_,q2, ?_,trivial⟩,HF4.out.other (by omega) _⟩,hB1.trans hbw⟩
      rw [List.map_append,List.length_append,List.length_map]
      exact q3
     case done =>
      rintro D xs W hD hxs ⟨⟨⟨v,hv,hrow,_⟩,hf⟩,hB1⟩ hK
      have hvl:=hv.lt
      have hvc:=hv.cell
      have hsW:=hB1.size
      have HR:=Lib.hid hrow
      clear hrow hv hf
      gi_wp2
      refine ⟨by simp,.inl ⟨_,_,rfl,run_takeDeferred hK, ?_⟩⟩
      have hcv:xs.map (fun x=>pt x.1.1 x.1.2)=cvV pt B lo hi:=by
       unfold cvV
       have hxs':xs.map (fun x:{p:Nat × Int // p ∈ covL B 0 lo hi}=>x.1)=covL B 0 lo hi:=hxs
       conv=>rhs; rw [← hxs']
       rw [List.map_map]; rfl
      have hr:=ownsRow_putObj HR.out (.deferred none) hK rfl
      rw [hcv] at hr
      exact ⟨_,results_tmp2 rfl _ _ _,.inr (.inr ⟨HC.out,v,rfl,own_mono hr hsz2,(hE2.trans' hB1).trans (belowK_b (w:=w) (Nat.le_refl _) W D _ _ (by omega) hK rfl rfl)⟩)⟩
     case stop =>
      rintro D c pre W _ _ h _
      exact h.elim
def RangePost (w:World) (B:Nat) (pt:Nat → Int → Int) (lo hi:Int) (e:Ending) (w':World):Prop :=
 ((hi < lo∧e=.returned (.tuple #[.int .i64 0,.int .i64 1])) ∨ ((lo≤hi∧2 ^ B≤hi)∧e=.returned (.tuple #[.int .i64 0,.int .i64 2])) ∨
 ((lo≤hi∧hi < 2 ^ B)∧I64 (lsum (cvV pt B lo hi))∧e=.returned (.tuple #[.int .i64 (lsum (cvV pt B lo hi)),.int .i64 0])) ∨
 ((lo≤hi∧hi < 2 ^ B)∧¬ I64 (lsum (cvV pt B lo hi))∧e=.returned (.tuple #[.int .i64 0,.int .i64 4])))∧Ext w w'
set_option maxRecDepth 20000 in
set_option maxHeartbeats 2000000 in
theorem Range_c (s g:Nat) (C:Cfg) (B:Nat) (L:Nat → Lev) (ls:Nat → List Int) (w:World) (h:KAt w s g C B L ls) (pt:Nat → Int → Int) (hU:Uniq C B ls pt) (hI:∀ n i,I64 (pt n i)) (lo hi:Int) (hlo:U64 lo) (hhi:U64 hi) :
 Calls Tryz.prog 134 #[.pointer (some ⟨s,0,none⟩),.int .u64 lo,.int .u64 hi] w (RangePost w B pt lo hi):=by
 have hlen:(cvV pt B lo hi).length≤1152921504606846976:=by
  unfold cvV
  rw [List.length_map]
  have:=cov_len B 0 lo hi
  have h2:=h.ok.b2
  have h3:=h.hB
  omega
 have hall:∀ x ∈ cvV pt B lo hi,I64 x:=by
  intro x hx
  unfold cvV at hx
  simp only [List.mem_map] at hx
  obtain ⟨p,_,rfl⟩:=hx
  exact hI _ _
 have HH:=Lib.hid h
 have HL:=Lib.hid hlen
 have HA:=Lib.hid hall
 clear h hlen hall
 go_enter Tryz.func134,Tryz.ntmps134
 go_wp2_with fail
 refine Calls.mono (Parts_c s g C B L ls _ HH.out pt hU lo hi hlo hhi) ?_
 rintro e w1 (⟨hc,rfl,hx⟩ | ⟨hc,rfl,hx⟩ | ⟨hc,v,rfl,ho,hx⟩)
 · go_wp2_with fail
   go_ret2
   exact ⟨.inl ⟨hc,rfl⟩,hx⟩
 · go_wp2_with fail
   go_ret2
   exact ⟨.inr (.inl ⟨hc,rfl⟩),hx⟩
 · have HC:=Lib.hid hc
   clear hc
   go_wp2_with fail
   refine Calls.mono (Sum_c _ v w1 HA.out HL.out (IntsAt.of_row ho)) ?_
   rintro e w2 ⟨rfl,hx2⟩
   by_cases hT:I64 (lsum (cvV pt B lo hi))
   · rw [fitB_yes hT,fitN_yes hT]
     go_wp2_with fail
     go_ret2
     exact ⟨.inr (.inr (.inl ⟨HC.out,hT,rfl⟩)),hx.trans' hx2⟩
   · rw [fitB_no hT]
     go_wp2_with fail
     go_ret2
     exact ⟨.inr (.inr (.inr ⟨HC.out,hT,rfl⟩)),hx.trans' hx2⟩
end Go.Proofs.YtmalncfcgcebhaaGreatDoor
namespace Go.Proofs.YtmalncfcgcebhaaGreatDoor
set_option linter.unusedVariables false
open Go.RowKit
set_option maxRecDepth 20000 in
set_option maxHeartbeats 2000000 in
theorem Halves_0 (C:Cfg) (h:C.Ok) (j:Int) (hj0:0≤j) (hj1:j < keys C (0:Nat)) (w:World) :
 Calls Tryz.prog 175 #[.int .i64 C.bits,.agg #[.int .i64 0,.int .u64 j]] w fun e w'=>e=.returned (.tuple #[.agg #[.int .i64 0,.int .u64 0],.agg #[.int .i64 0,.int .u64 0],.bool false])∧Ext w w':=by
 have b1:=h.b1
 have b2:=h.b2
 go_enter Tryz.func175,Tryz.ntmps175
 go_wp2_with fail
 refine (is_c C h 0 (by omega) j hj0 hj1 _).mono ?_
 rintro e w1 ⟨rfl,hb⟩
 have hE:Ext w w1:=by (repeat' (first | exact Ext.refl _ | assumption | apply Ext.allocR | apply Ext.drewR | apply Ext.drewNR | (refine Ext.trans' ?_ (by assumption))))
 have hbx:w1.heap[w.heap.size]?=some (.cells #[.int .i64 0,.int .u64 j] 52 (0,0)):=by
  rw [hb.block _ (by simp only [size_alloc]; omega),heap_old _ _ (by simp only [size_alloc]; omega),heap_old _ _ (by rw [size_alloc]; omega)]
  exact heap_at _ _ rfl
 have hbl:w1.heap[w.heap.size+1]?=some (.cells #[.int .i64 0,.int .u64 0] 52 (0,0)):=by
  rw [hb.block _ (by simp only [size_alloc]; omega),heap_old _ _ (by simp only [size_alloc]; omega)]
  exact heap_at _ _ (by rw [size_alloc])
 have hbr:w1.heap[w.heap.size+2]?=some (.cells #[.int .i64 0,.int .u64 0] 52 (0,0)):=by
  rw [hb.block _ (by simp only [size_alloc]; omega)]
  exact heap_at _ _ (by simp only [size_alloc])
 have c0:=(cell_of hbx 0).trans rfl
 have c1:=(cell_of hbx 1).trans rfl
 have cl:=lt_of hbx
 have l0:=(cell_of hbl 0).trans rfl
 have l1:=(cell_of hbl 1).trans rfl
 have ll:=lt_of hbl
 have r0:=(cell_of hbr 0).trans rfl
 have r1:=(cell_of hbr 1).trans rfl
 have rl:=lt_of hbr
 have fl0:=frozen_of hbl 0
 have fl1:=frozen_of hbl 1
 have fr0:=frozen_of hbr 0
 have fr1:=frozen_of hbr 1
 clear hb
 go_wp2
 have hEf:Ext w ((((w1.setCell ⟨w.heap.size+1,0,none⟩ (.int .i64 0)).setCell ⟨w.heap.size+1,1,none⟩ (.int .u64 0)).setCell ⟨w.heap.size+1+1,0,none⟩ (.int .i64 0)).setCell ⟨w.heap.size+1+1,1,none⟩ (.int .u64 0)) :=
  (((hE.setR (p:=⟨w.heap.size+1,0,none⟩) (by show w.heap.size≤w.heap.size+1; omega) _).setR (p:=⟨w.heap.size+1,1,none⟩) (by show w.heap.size≤w.heap.size+1; omega) _).setR (p:=⟨w.heap.size+1+1,0,none⟩) (by show w.heap.size≤w.heap.size+1+1; omega) _).setR (p:=⟨w.heap.size+1+1,1,none⟩) (by show w.heap.size≤w.heap.size+1+1; omega) _
 have e1:((((w1.setCell ⟨w.heap.size+1,0,none⟩ (.int .i64 0)).setCell ⟨w.heap.size+1,1,none⟩ (.int .u64 0)).setCell ⟨w.heap.size+1+1,0,none⟩ (.int .i64 0)).setCell ⟨w.heap.size+1+1,1,none⟩ (.int .u64 0)).heap[w.heap.size+1]?=some (.cells #[.int .i64 0,.int .u64 0] 52 (0,0)):=by
  rw [setCell_other _ _ (by omega),setCell_other _ _ (by omega)]
  exact set2 hbl _ _
 have e2:((((w1.setCell ⟨w.heap.size+1,0,none⟩ (.int .i64 0)).setCell ⟨w.heap.size+1,1,none⟩ (.int .u64 0)).setCell ⟨w.heap.size+1+1,0,none⟩ (.int .i64 0)).setCell ⟨w.heap.size+1+1,1,none⟩ (.int .u64 0)).heap[w.heap.size+1+1]?=some (.cells #[.int .i64 0,.int .u64 0] 52 (0,0)) :=
  set2 (by rw [setCell_other _ _ (by omega),setCell_other _ _ (by omega)]; exact hbr) _ _
 generalize (((w1.setCell ⟨w.heap.size+1,0,none⟩ (.int .i64 0)).setCell ⟨w.heap.size+1,1,none⟩ (.int .u64 0)).setCell ⟨w.heap.size+1+1,0,none⟩ (.int .i64 0)).setCell ⟨w.heap.size+1+1,1,none⟩ (.int .u64 0)=Wf at *
 have r0:=(cell_of e1 0).trans rfl
 have r1:=(cell_of e1 1).trans rfl
 have r2:=(cell_of e2 0).trans rfl
 have r3:=(cell_of e2 1).trans rfl
 exact bodyPost_ret (v:=.tuple #[.agg #[.int .i64 0,.int .u64 0],.agg #[.int .i64 0,.int .u64 0],.bool false]) (by simp [results,Tryz.results175,go_sem,r0,r1,r2,r3]) rfl ⟨rfl,hEf⟩
theorem HalvesAny_c (C:Cfg) (h:C.Ok) (n:Nat) (hn:(n:Int)≤C.bits) (j:Int) (hj0:0≤j) (hj1:j < keys C n) (w:World) :
 Calls Tryz.prog 175 #[.int .i64 C.bits,.agg #[.int .i64 n,.int .u64 j]] w fun e w'=>∃ x u v:Int,e=.returned (.tuple #[.agg #[.int .i64 x,.int .u64 u],.agg #[.int .i64 x,.int .u64 v],.bool (decide (0 < n))])∧(∀ m:Nat,n=m+1 → x=m∧u=2 * j∧v=2 * j+1)∧Ext w w':=by
 match n,hn,hj1 with
 | 0,hn,hj1 =>
   refine (Halves_0 C h j hj0 hj1 w).mono ?_
   rintro e w' ⟨rfl,hE⟩
   exact ⟨0,0,0,rfl,fun m hm=>by omega,hE⟩
 | m+1,hn,hj1 =>
   refine (Halves_c C h m hn j hj0 hj1 w).mono ?_
   rintro e w' ⟨rfl,hE⟩
   refine ⟨m,2 * j,2 * j+1,by simp,fun m' hm=>?_,hE⟩
   obtain rfl:m=m':=by omega
   exact ⟨rfl,rfl,rfl⟩
end Go.Proofs.YtmalncfcgcebhaaGreatDoor
namespace Go.Proofs.YtmalncfcgcebhaaGreatDoor
set_option linter.unusedVariables false
open Go.RowKit
theorem info_fd:∃ i z,Tryz.prog.info? 203=some i∧i.zero=some z∧i.size=3∧i.bytes=24∧z.cells.size=3:=by
 have h:(Tryz.prog.info? 203).map (fun i=>(i.zero,i.size,i.bytes))=some (some (.agg #[.int .i64 0,.int .u64 0,.int .i64 0]),3,24):=by kernel_rfl
 match hi:Tryz.prog.info? 203,h with
 | some i,h =>
   simp only [Option.map_some,Option.some.injEq,Prod.mk.injEq] at h
   exact ⟨i,_,rfl,h.1,h.2.1,h.2.2,rfl⟩
def hvRes (o:Option (List Fd)):List Fd × Int:=match o with | none=>([],7) | some l=>(l,0)
theorem heavyP_bad {pt:Nat → Int → Int} {least budget:Int} {B:Nat} (h:least < 1 ∨ 4096 < budget):heavyP pt least budget B=([],1):=by unfold heavyP; rw [if_pos h]
theorem heavyP_go {pt:Nat → Int → Int} {least budget:Int} {B:Nat} (h1:1≤least) (h2:budget≤4096):heavyP pt least budget B=hvRes (hvGo pt least budget (B+1) 0 [0] []):=by
 unfold heavyP hvRes
 rw [if_neg (by omega)] <;> cases hvGo pt least budget (B+1) 0 [0] [] <;> rfl
theorem hvGo_no {pt:Nat → Int → Int} {least budget:Int} {n:Nat} {asked:Int} {row:List Int} {out:List Fd} (h:budget < asked+row.length):hvGo pt least budget (n+1) asked row out=none:=by
 show (if _ then _ else _)=_
 rw [if_pos h]
theorem hvGo_yes {pt:Nat → Int → Int} {least budget:Int} {n:Nat} {asked:Int} {row:List Int} {out:List Fd} (h:asked+row.length≤budget):hvGo pt least budget (n+1) asked row out=hvGo pt least budget n (asked+row.length) (hvN pt least n row) (out ++ hvF pt least n row):=by
 conv=>lhs; unfold hvGo
 rw [if_neg (by omega)]
def HeavyPost (w:World) (B:Nat) (pt:Nat → Int → Int) (least budget:Int) (e:Ending) (w':World):Prop :=
 ∃ v,e=.returned (.tuple #[v,.int .i64 (heavyP pt least budget B).2])∧w'.ownsRow w.heap.size 203 3 v (heavyP pt least budget B).1.length (fdV (heavyP pt least budget B).1)∧Ext w w'
set_option maxRecDepth 20000 in
set_option maxHeartbeats 8000000 in
theorem Heavy_c (s g:Nat) (C:Cfg) (B:Nat) (L:Nat → Lev) (ls:Nat → List Int) (w:World) (h:KAt w s g C B L ls) (pt:Nat → Int → Int) (hU:Uniq C B ls pt) (least budget:Int) :
 Calls Tryz.prog 136 #[.pointer (some ⟨s,0,none⟩),.int .i64 least,.int .i64 budget] w (HeavyPost w B pt least budget):=by
 by_cases h1:least < 1
 · go_enter Tryz.func136,Tryz.ntmps136
   go_wp2
   go_ret2
   refine ⟨.slice none 0 0, ?_, ?_,Ext.refl _⟩
   · rw [heavyP_bad (.inl h1)]; rfl
   · rw [heavyP_bad (.inl h1)]; exact ⟨rfl,.inl ⟨rfl,rfl⟩⟩
 by_cases h2:4096 < budget
 · go_enter Tryz.func136,Tryz.ntmps136
   go_wp2
   go_ret2
   refine ⟨.slice none 0 0, ?_, ?_,Ext.refl _⟩
   · rw [heavyP_bad (.inr h2)]; rfl
   · rw [heavyP_bad (.inr h2)]; exact ⟨rfl,.inl ⟨rfl,rfl⟩⟩
 have hP:=heavyP_go (pt:=pt) (B:=B) (show 1≤least by omega) (show budget≤4096 by omega)
 have HP:=Lib.hid hP
 have hB:=h.hB
 have hok:=h.ok
 have hBd:B≤59:=by have:=hok.b2; omega
 have HB:=Lib.hid hB
 have HH:=Lib.hid h
 have HU:=Lib.hid hU
 have HOK:=Lib.hid hok
 clear hP hB h hU hok
 go_enter Tryz.func136,Tryz.ntmps136
 go_wp2_with fail
 refine (SKConfig_c s g C B L ls _ HH.out).mono ?_
 rintro e w1 ⟨rfl,hx1⟩
 rw [HB.out]
 have hE1:=hx1
 clear hx1
 have hsz1:=hE1.size
 have hr1:(w1.alloc (.cells #[.int .i64 (B:Nat),.int .u64 0] 52)).ownsRow w.heap.size 52 2 (.slice (some ⟨w1.heap.size,0,none⟩) 1 1) 1 (pcV (lvl B [0])):=own_newK w1 w.heap.size hsz1 52 2 1 _ (by decide) rfl
 have hE2:Ext w (w1.alloc (.cells #[.int .i64 (B:Nat),.int .u64 0] 52)):=hE1.allocR _
 have HR1:=Lib.hid hr1
 have HE2:=Lib.hid hE2
 clear hr1 hE2 hE1
 go_wp2_with fail
 generalize w1.alloc (.cells #[.int .i64 (B:Nat),.int .u64 0] 52)=wq at *
 go_loopw [9,10,11,34] (fun u9 u10 u11 u34 wr=>∃ (r m:Nat) (asked:Int) (row:List Int) (out:List Fd),r+m=B+1∧u34=.int .i64 r∧u9=.int .i64 asked∧0≤asked∧asked≤4096∧(out.length:Int)≤asked∧row.length≤8192∧(∀ i ∈ row,0≤i∧i < keys C (m - 1:Nat))∧hvGo pt least budget (B+1) 0 [0] []=hvGo pt least budget m asked row out∧wr.ownsRow w.heap.size 203 3 u10 out.length (fdV out)∧wr.ownsRow w.heap.size 52 2 u11 row.length (pcV (lvl (m - 1) row))∧Ext w wr) (fun _ _ _ u34 _=>B+1 - (intOf u34).toNat)
 case atStart=>exact ⟨0,B+1,0,[0],[],by omega,rfl,rfl,by omega,by omega,by simp,by simp,by
  intro i hi
  have:i=0:=by simpa using hi
  subst this
  rw [show B+1 - 1=B by omega,keys_top HB.out]; decide,rfl,⟨rfl,.inl ⟨rfl,rfl⟩⟩,HR1.out,HE2.out⟩
 case round =>
  clear HR1 HE2
  obtain ⟨r,m,asked,row,out,hrm,rfl,rfl,ha0,ha1,hol,hrl,hmem,hgo,howo,howr,hE⟩:=hrel
  obtain ⟨po,co,rfl⟩:=own_sl howo
  obtain ⟨pr,cr,rfl⟩:=own_sl howr
  have HO:=Lib.hid howo
  have HR:=Lib.hid howr
  have HGO:=Lib.hid hgo
  have HM:=Lib.hid hmem
  clear howo howr hgo hmem
  by_cases hlt:r < B+1
  · obtain ⟨n,rfl⟩:∃ n,m=n+1:=⟨m - 1,by omega⟩
    rw [Nat.add_sub_cancel] at HR HM
    by_cases hbg:budget < asked+row.length
    · have hres:heavyP pt least budget B=([],7):=by rw [HP.out,HGO.out,hvGo_no hbg]; rfl
      have HRES:=Lib.hid hres
      clear hres
      go_wp2
      go_ret2
      refine ⟨.slice none 0 0, ?_, ?_,hE⟩
      · rw [HRES.out]; rfl
      · rw [HRES.out]; exact ⟨rfl,.inl ⟨rfl,rfl⟩⟩
    · have hgo2:=HGO.out.trans (hvGo_yes (by omega))
      have HGO2:=Lib.hid hgo2
      clear hgo2 HGO
      obtain ⟨b1,hb1⟩:∃ b,b=wr.heap.size:=⟨_,rfl⟩
      have HBW:=Lib.hid (show w.heap.size≤b1 by rw [hb1]; exact hE.size)
      go_wp2_with fail
      go_loopw [10,12,45] (fun u10 u12 u45 wi=>∃ k,k≤row.length∧u45=.int .i64 k∧wi.ownsRow w.heap.size 203 3 u10 (out ++ hvF pt least n (row.take k)).length (fdV (out ++ hvF pt least n (row.take k)))∧wi.ownsRow b1 52 2 u12 (hvN pt least n (row.take k)).length (pcV (lvl (n - 1) (hvN pt least n (row.take k))))∧wi.ownsRow w.heap.size 52 2 (.slice pr row.length cr) row.length (pcV (lvl n row))∧(∀ j,(Value.slice pr row.length cr).ownBlock=some j → j < b1)∧Ext w wi∧b1≤wi.heap.size) (fun _ _ u45 _=>row.length - (intOf u45).toNat)
      case atStart=>exact ⟨0,Nat.zero_le _,rfl,by simpa [hvF] using HO.out,by simp [hvN]; exact ⟨rfl,.inl ⟨rfl,rfl⟩⟩,HR.out,fun j hj=>by rw [hb1]; exact own_lt HR.out hj,hE,by omega⟩
      case round =>
       clear HO HR
       obtain ⟨k,hk,rfl,ho,hx,hr,hjl,hEi,hsi⟩:=hrel
       obtain ⟨po2,co2,rfl⟩:=own_sl ho
       obtain ⟨px,cx,rfl⟩:=own_sl hx
       by_cases hkl:k < row.length
       · obtain ⟨gr,cr',hv,hbr,hgl,hcell⟩:=own_row_cells hr (by omega)
         cases hv
         have hcs:=pcV_lvl (n:=n) hkl
         have c0:=(hcell (k * 2) (by omega)).trans hcs.1
         have c1:=(hcell (k * 2+1) (by omega)).trans hcs.2
         have hts:=take_snocH hkl
         have hi:=HM.out row[k] (List.getElem_mem hkl)
         have htl:(row.take k).length=k:=by rw [List.length_take]; omega
         have HTS:=Lib.hid hts
         have HTL:=Lib.hid htl
         have HX:=Lib.hid hx
         have HO:=Lib.hid ho
         have HR:=Lib.hid hr
         have HJL:=Lib.hid hjl
         clear hts htl hx ho hr hcell hcs hjl hb1
         generalize row[k]=i at *
         generalize row.take k=pre at *
         generalize hlo:(out ++ hvF pt least n pre).length=lo at *
         generalize hlx:(hvN pt least n pre).length=lx at *
         have HLO:=Lib.hid hlo
         have HLX:=Lib.hid hlx
         clear hlo hlx
         go_wp2_with fail
         have hEq:Ext w (wr.alloc (.cells #[.int .i64 n,.int .u64 i] 52)):=hEi.allocR _
         have hnB:n≤B:=by omega
         refine Calls.mono (KPoint_c s g C B L ls _ (HH.out.ext hEq) n hnB i hi.1 hi.2) ?_
         rintro e w3 ⟨x,rfl,hp,hx3⟩
         obtain rfl:x=pt n i:=HU.out n i x hnB hi.1 hi.2 hp
         have hbp:w3.heap[wr.heap.size]?=some (.cells #[.int .i64 n,.int .u64 i] 52 (0,0)):=hx3.keep (heap_at _ _ rfl)
         have HO3:=Lib.hid (own_ext (HO.out.alloc (.cells #[.int .i64 n,.int .u64 i] 52)) hx3)
         have HX3:=Lib.hid (own_ext (HX.out.alloc (.cells #[.int .i64 n,.int .u64 i] 52)) hx3)
         have HR3:=Lib.hid (own_ext (HR.out.alloc (.cells #[.int .i64 n,.int .u64 i] 52)) hx3)
         have hE3:=hEq.trans' hx3
         have hs3:=hx3.size
         rw [size_alloc] at hs3
         clear hx3 hp hEq HO HX HR
         by_cases hle:pt n i < least
         · go_wp2
           go_roundw
           case rel=>exact ⟨k+1,by omega,by go_num,by rw [HTS.out,hvF_snoc_no hle,HLO.out]; exact HO3.out,by rw [HTS.out,hvN_snoc_no hle,HLX.out]; exact HX3.out,HR3.out,HJL.out,hE3,by omega⟩
           case measure=>simp [intOf]; omega
         · have hF:=hvF_snoc_yes (pt:=pt) (least:=least) (n:=n) (row:=pre) (i:=i) (by omega)
           have HF:=Lib.hid hF
           have hln:lo≤9000:=by
            have:=hvF_len pt least n pre
            have:=HTL.out
            rw [← HLO.out,List.length_append]
            omega
           have c0:=(cell_of hbp 0).trans rfl
           have c1:=(cell_of hbp 1).trans rfl
           have cl:=lt_of hbp
           clear hF
           have hs1:=hE3.size
           go_wp2_with (at_builtin; refine wpList_appK w3 3 24 1 (by decide) (by decide) [.int .i64 n,.int .u64 i,.int .i64 (pt n i)] rfl (by simp [Value.oneCell']) _ _ _ w.heap.size 203 _ HO3.out 139 rfl _ _ rfl info_fd Tryz.underlying139 _ rfl (by rfl) (by rfl) ?a1 ?a2 ?_)
           case a1=>omega
           case a2=>exact hs1
           intro v' w4 g1 g2 _
           have hx4:=own_grownT (HX3.out.alloc _) (HO3.out.alloc _) (by decide) g2
           have hr4:=own_grownT (HR3.out.alloc _) (HO3.out.alloc _) (by decide) g2
           have hE4:Ext w w4:=ext_grown hE3 g2 (fun j hj=>own_geB HO3.out hj)
           have hbp4:w4.heap[wr.heap.size]?=some (.cells #[.int .i64 n,.int .u64 i] 52 (0,0)):=by
            rw [g2.block _ (by rw [size_alloc]; omega) (fun e=>own_notB HO3.out hbp (by decide) e.symm),heap_old _ _ (by omega)]
            exact hbp
           have ho4:w4.ownsRow w.heap.size 203 3 v' (out ++ hvF pt least n (pre ++ [i])).length (fdV (out ++ hvF pt least n (pre ++ [i])))∧(out ++ hvF pt least n (pre ++ [i])).length=lo+1:=by
            rw [HF.out,← List.append_assoc,fdV_append,List.length_append (bs:=[(n,i,pt n i)]),HLO.out]
            exact ⟨g1,rfl⟩
           have hs4:=g2.size
           rw [size_alloc] at hs4
           obtain ⟨po3,co3,rfl⟩:=own_sl g1
           have HO4:=Lib.hid ho4.1
           have HL4:=Lib.hid ho4.2
           have HX4:=Lib.hid hx4
           have HR4:=Lib.hid hr4
           have hHv:Calls Tryz.prog 175 #[.int .i64 B,.agg #[.int .i64 n,.int .u64 i]] w4 fun e w'=>∃ x u v:Int,e=.returned (.tuple #[.agg #[.int .i64 x,.int .u64 u],.agg #[.int .i64 x,.int .u64 v],.bool (decide (0 < n))])∧(∀ m:Nat,n=m+1 → x=m∧u=2 * i∧v=2 * i+1)∧Ext w4 w':=by
            have:=HalvesAny_c C HOK.out n (by have:=HB.out; omega) i hi.1 hi.2 w4
            rw [HB.out] at this
            exact this
           have HHV:=Lib.hid hHv
           have d0:=(cell_of hbp4 0).trans rfl
           have d1:=(cell_of hbp4 1).trans rfl
           have dl:=lt_of hbp4
           clear g1 g2 hx4 hr4 ho4 hHv HO3 HX3 HR3 hbp hbp4 c0 c1 cl
           go_wp2_with fail
           refine Calls.mono HHV.out ?_
           rintro e w5 ⟨x,u,v,rfl,hxuv,hx5⟩
           have HO5:=Lib.hid (own_ext HO4.out hx5)
           have HX5:=Lib.hid (own_ext HX4.out hx5)
           have HR5:=Lib.hid (own_ext HR4.out hx5)
           have hE5:=hE4.trans' hx5
           have hs5:=hx5.size
           clear hx5 HHV HO4 HX4 HR4 d0 d1 dl
           by_cases hn0:0 < n
           · obtain ⟨m,rfl⟩:∃ m,n=m+1:=⟨n - 1,by omega⟩
             obtain ⟨rfl,rfl,rfl⟩:=hxuv m rfl
             rw [decide_eq_true hn0]
             have HO6:=Lib.hid ((HO5.out.alloc (.cells #[.int .i64 (m:Int),.int .u64 (2 * i)] 52)).alloc (.cells #[.int .i64 (m:Int),.int .u64 (2 * i+1)] 52))
             have HX6:=Lib.hid ((HX5.out.alloc (.cells #[.int .i64 (m:Int),.int .u64 (2 * i)] 52)).alloc (.cells #[.int .i64 (m:Int),.int .u64 (2 * i+1)] 52))
             have HR6:=Lib.hid ((HR5.out.alloc (.cells #[.int .i64 (m:Int),.int .u64 (2 * i)] 52)).alloc (.cells #[.int .i64 (m:Int),.int .u64 (2 * i+1)] 52))
             have hE6:Ext w ((w5.alloc (.cells #[.int .i64 (m:Int),.int .u64 (2 * i)] 52)).alloc (.cells #[.int .i64 (m:Int),.int .u64 (2 * i+1)] 52)):=(hE5.allocR _).allocR _
             have hs6:((w5.alloc (.cells #[.int .i64 (m:Int),.int .u64 (2 * i)] 52)).alloc (.cells #[.int .i64 (m:Int),.int .u64 (2 * i+1)] 52)).heap.size=w5.heap.size+2:=by simp only [size_alloc]
             have hlx:lx≤20000:=by
              have:=hvN_len pt least (m+1) pre
              have:=HTL.out
              have:=HLX.out
              omega
             clear HO5 HX5 HR5
             go_wp2_with (at_builtin; (refine wpList_appK ((w5.alloc (.cells #[.int .i64 (m:Int),.int .u64 (2 * i)] 52)).alloc (.cells #[.int .i64 (m:Int),.int .u64 (2 * i+1)] 52)) 2 16 2 (by decide) (by decide) [.int .i64 m,.int .u64 (2 * i),.int .i64 m,.int .u64 (2 * i+1)] rfl (by simp [Value.oneCell']) _ _ _ b1 52 _ HX6.out 62 rfl _ _ rfl info_pc Tryz.underlying62 _ rfl (by rfl) (by rw [hs6]; rfl) ?b1 ?b2 ?_))
             case b1=>omega
             case b2=>omega
             intro v2 w6 g3 g4 _
             have ho6:=own_grownT (HO6.out.alloc _) (HX6.out.alloc _) (by decide) g4
             have hr6:=own_grownL (HR6.out.alloc _) (HX6.out.alloc _) HJL.out g4
             have hE7:Ext w w6:=ext_grown hE6 g4 (fun j hj=>Nat.le_trans HBW.out (own_geB HX6.out hj))
             have hs7:=g4.size
             rw [size_alloc] at hs7
             obtain ⟨px2,cx2,rfl⟩:=own_sl g3
             have HO7:=Lib.hid ho6
             have HR7:=Lib.hid hr6
             have G3:=Lib.hid g3
             clear ho6 hr6 g3 g4 HO6 HX6 HR6
             go_wp2
             go_roundw
             case rel=>exact ⟨k+1,by omega,by go_num,by rw [HTS.out]; exact HO7.out,by rw [HTS.out,hvN_snoc_yes (by omega),List.length_append,pcV_lvl_append,HLX.out]; exact G3.out,HR7.out,HJL.out,hE7,by omega⟩
             case measure=>simp [intOf]; omega
           · rw [decide_eq_false hn0]
             obtain rfl:n=0:=by omega
             go_wp2
             go_roundw
             case rel=>exact ⟨k+1,by omega,by go_num,by rw [HTS.out]; exact (HO5.out.alloc _).alloc _,by rw [HTS.out,show hvN pt least 0 (pre ++ [i])=hvN pt least 0 pre from rfl,HLX.out]; exact (HX5.out.alloc _).alloc _,(HR5.out.alloc _).alloc _,HJL.out,(hE5.allocR _).allocR _,by simp only [size_alloc]; omega⟩
             case measure=>simp [intOf]; omega
       · obtain rfl:k=row.length:=by omega
         have htk:row.take row.length=row:=List.take_length
         rw [htk] at hx ho ⊢
         generalize hlo:(out ++ hvF pt least n row).length=lo at *
         generalize hlx:(hvN pt least n row).length=lx at *
         have HLO:=Lib.hid hlo
         have HLX:=Lib.hid hlx
         clear hlo hlx
         have HX:=Lib.hid hx
         have HO:=Lib.hid ho
         clear hx ho hr htk
         go_wp2
         go_roundw
         case rel =>
          have h1:=hvF_len pt least n row
          have h2:=hvN_len pt least n row
          refine ⟨r+1,n,asked+row.length,hvN pt least n row,out ++ hvF pt least n row,by omega,by go_num,rfl,by omega,by omega,by rw [List.length_append]; omega,by omega, ?_,HGO2.out,by rw [HLO.out]; exact HO.out,by rw [HLX.out]; exact own_bmono HX.out HBW.out,hEi⟩
          intro j hj
          match n,hj with
          | 0,hj=>simp [hvN] at hj
          | n'+1,hj =>
            obtain ⟨i,hi,_,h3⟩:=hvN_mem hj
            have h4:=HM.out i hi
            have h5:=keys_half (C:=C) (m:=n') (by have:=HB.out; omega)
            show 0≤j∧j < keys C (n':Nat)
            rcases h3 with rfl | rfl <;> omega
         case measure=>simp [intOf]; omega
  · obtain rfl:m=0:=by omega
    have hres:heavyP pt least budget B=(out,0):=by rw [HP.out,HGO.out]; rfl
    have HRES:=Lib.hid hres
    clear hres
    go_wp2
    go_ret2
    refine ⟨.slice po out.length co, ?_, ?_,hE⟩
    · rw [HRES.out]; rfl
    · rw [HRES.out]; exact HO.out
end Go.Proofs.YtmalncfcgcebhaaGreatDoor
