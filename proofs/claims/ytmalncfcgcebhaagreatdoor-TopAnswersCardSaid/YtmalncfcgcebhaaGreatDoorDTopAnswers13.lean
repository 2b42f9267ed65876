/- Part. No condition. -/
import Derived.Test.YtmalncfcgcebhaaGreatDoorDTopAnswers4
import Derived.Test.YtmalncfcgcebhaaGreatDoorDTopAnswers12
import Derived.Test.YtmalncfcgcebhaaGreatDoorDTopAnswers5
import Derived.Test.YtmalncfcgcebhaaGreatDoorDTopAnswers6
import Derived.Test.YtmalncfcgcebhaaGreatDoorDTopAnswers8
import Derived.Test.YtmalncfcgcebhaaGreatDoorDTopAnswers9
import Derived.Maps.AppendAt
namespace Go.Proofs.YtmalncfcgcebhaaGreatDoor
set_option linter.unusedVariables false
open Go.Proofs Go.RowKit
attribute [local go_sem] Oper.semAt_some
theorem info_str:∃ i,Tryz.prog.info? 9=some i∧i.zero=some (.string ⟨#[]⟩)∧i.size=1∧i.bytes=16:=by
 obtain ⟨i,h1,h2,h3,h4⟩:=info_parts (by kernel_rfl:(Tryz.prog.info? 9).map (fun i=>(i.zero,i.size,i.bytes))=some (some (.string ⟨#[]⟩),1,16))
 exact ⟨i,h1,h2,h3,h4⟩
theorem splitL_len (l:List UInt8):(splitL l).length≤l.length+1:=by
 induction l with
 | nil=>simp [splitL]
 | cons c l ih =>
   unfold splitL
   split
   · simp; omega
   · simp; omega
theorem runK_len (F:St → List UInt8 → Option (List UInt8) × St) (S:St) (L:List (List UInt8)):(runK F S L).1.length≤L.length:=by
 have key:∀ (L:List (List UInt8)) (q:List (List UInt8) × St),(L.foldl (stepR F) q).1.length≤q.1.length+L.length:=by
  intro L
  induction L with
  | nil=>intro q; simp
  | cons x L ih =>
    intro q
    rw [List.foldl_cons]
    have:=ih (stepR F q x)
    have h2:(stepR F q x).1.length≤q.1.length+1:=by
     unfold stepR
     rw [List.length_append]
     cases (F q.2 x).1 <;> simp
    rw [List.length_cons]
    omega
 have:=key L ([],S)
 simpa [runK] using this
structure BoxI (Bq Bs Bv n:Nat) (W:World):Prop where
 q:∃ c,W.heap[Bq]?=some (.cells c 9 (0,0))
 s:∃ c,W.heap[Bs]?=some (.cells c 9 (0,0))
 v:∃ c,W.heap[Bv]?=some (.cells c 3 (0,0))
 sz:n≤W.heap.size
theorem BoxI.set {Bq Bs Bv n:Nat} {W:World} (h:BoxI Bq Bs Bv n W) (h1:Bq ≠ Bs) (h2:Bv ≠ Bs) (v:Value):BoxI Bq Bs Bv n (W.setCell ⟨Bs,0,none⟩ v):=by
 obtain ⟨⟨a,ha⟩,⟨b,hb⟩,⟨c,hc⟩,hs⟩:=h
 exact ⟨⟨a,(setCell_other _ _ h1).trans ha⟩,⟨_,setCell_same hb 0 _⟩,⟨c,(setCell_other _ _ h2).trans hc⟩,by rw [size_setCell]; exact hs⟩
theorem BoxI.mod {Bq Bs Bv n:Nat} {S:Nat → Prop} {W W':World} (h:BoxI Bq Bs Bv n W) (hM:Mod S W W') (h1:∀ k c t,W.heap[k]?=some (.cells c t (0,0)) → t=9 ∨ t=3 → k=Bq ∨ k=Bs ∨ k=Bv → ¬ S k):BoxI Bq Bs Bv n W':=by
 obtain ⟨⟨a,ha⟩,⟨b,hb⟩,⟨c,hc⟩,hs⟩:=h
 exact ⟨⟨a,hM.keep ha (h1 _ _ _ ha (.inl rfl) (.inl rfl))⟩,⟨b,hM.keep hb (h1 _ _ _ hb (.inl rfl) (.inr (.inl rfl)))⟩,⟨c,hM.keep hc (h1 _ _ _ hc (.inr rfl) (.inr (.inr rfl)))⟩,Nat.le_trans hs hM.size⟩
set_option maxRecDepth 100000 in
set_option maxHeartbeats 4000000 in
theorem Run_c (F:St → List UInt8 → Option (List UInt8) × St) (t:ByteArray) (ht:t.size≤100000)
 (hF:∀ (k:Nat) (s:ByteArray),(splitL t.data.toList)[k]?=some s.data.toList → LineIs (runK F st0 ((splitL t.data.toList).take k)).2 s (F (runK F st0 ((splitL t.data.toList).take k)).2 s.data.toList))
 (hlast:∀ k,(runK F st0 ((splitL t.data.toList).take k)).2.last < 1000000) (w:World) (hT:Tabs w) :
 Calls Tryz.prog 41 #[.string t] w fun e w'=>∃ v,e=.returned v∧w'.ownsRow w.heap.size 9 1 v (runK F st0 (splitL t.data.toList)).1.length (strVs (runK F st0 (splitL t.data.toList)).1)∧Ext w w':=by
 have hB:=hT.size
 have HF:=Lib.hid hF
 have HLA:=Lib.hid hlast
 have HT:=Lib.hid hT
 clear hF hlast hT
 refine (callsIn_wide (n:=5)).1 ?_
 refine callsIn_of_wp_marks Tryz.func41 rfl trivial ?_ rfl
 simp only [Tryz.ntmps41,List.size_toArray,List.length_cons,List.length_nil,Nat.reduceAdd,Nat.reduceSub,Array.replicate_succ,Array.replicate_zero,List.push_toArray,List.append_toArray,List.nil_append,List.cons_append]
 gi_wp2_with fail
 refine ⟨trivial,(callsIn_wide.2 (ANew_c _)).mono ?_⟩
 rintro e w1 ⟨rfl,hA,hx1⟩
 obtain ⟨Wa,hWa⟩:∃ Wa,w.alloc (.cells #[.slice none 0 0] 75)=Wa:=⟨_,rfl⟩
 rw [hWa] at hA hx1 ⊢
 have hsa:Wa.heap.size=w.heap.size+1:=by rw [← hWa,size_alloc]
 have hxa:Ext w Wa:=by rw [← hWa]; exact Ext.alloc' _ _
 have hoa:Wa.heap[w.heap.size]?=some (.cells #[.slice none 0 0] 75 (0,0)):=by rw [← hWa]; exact heap_at _ _ rfl
 have ho1:=hx1.keep hoa
 have HA:=Lib.hid hA
 have hx1':=hxa.trans' hx1
 have hs1:=hx1'.size
 have hlt1:=lt_of ho1
 clear hA hoa hxa hx1 hWa
 gi_wp2_with fail
 refine ⟨trivial,(callsIn_wide.2 (SplitSeq_c t _)).mono ?_⟩
 rintro e w2 ⟨rfl,hw2⟩
 gi_wp2_with fail
 rw [← hw2]
 have hE2:Ext w1 w2:=by rw [hw2]; exact (((Ext.alloc' _ _).allocR _).allocR _).allocR _
 have hs2:w2.heap.size=w1.heap.size+4:=by rw [hw2]; simp
 have hBa:w2.heap[w1.heap.size]?=some (.cells #[.pointer (some ⟨w.heap.size+1+1,0,none⟩)] 32 (0,0)):=by
  rw [hw2,heap_old _ _ (by simp; omega),heap_old _ _ (by simp; omega),heap_old _ _ (by simp)]; exact heap_at _ _ rfl
 have hBs:w2.heap[w1.heap.size+1]?=some (.cells #[.string t] 9 (0,0)):=by
  rw [hw2,heap_old _ _ (by simp),heap_old _ _ (by simp)]; exact heap_at _ _ (by simp)
 have hBq:w2.heap[w1.heap.size+1+1]?=some (.cells #[.string ⟨#[10]⟩] 9 (0,0)):=by
  rw [hw2,heap_old _ _ (by simp)]; exact heap_at _ _ (by simp)
 have hBv:w2.heap[w1.heap.size+1+2]?=some (.cells #[.int .i64 0] 3 (0,0)):=by
  rw [hw2]; exact heap_at _ _ (by simp)
 have hAx:AgAt w2 (w.heap.size+1) (w.heap.size+1+1) (w.heap.size+1) [] 0:=by
  have:=HA.out.ext hE2
  rw [hsa] at this
  exact this
 have ho2:=hE2.keep ho1
 have hx2:=hx1'.trans' hE2
 clear hw2 HA
 have hLl:=splitL_len t.data.toList
 rw [← Lib.size_eq] at hLl
 obtain ⟨i0,hi,hz0,hz1,hz2⟩:=info_str
 generalize hL:splitL t.data.toList=L at *
 have hnil:∀ k x,L[k]?=some x → L.take (k+1)=L.take k ++ [x]:=fun k x h=>by
  obtain ⟨h1,rfl⟩:=List.getElem?_eq_some_iff.1 h
  exact List.take_succ_eq_append_getElem h1
 have hit:=split_in 4 (w1.heap.size+1+1) (w1.heap.size+1) (w1.heap.size+1+2) t (by omega) w2 hBq hBs hBv (by omega) (by omega)
 rw [hL] at hit
 refine wpIn_range_cells (n:=5) (by omega) (gf:=159) rfl (enters_of Tryz.func159 (by kernel_rfl) rfl) (by rintro b (rfl | rfl | rfl) <;> omega) (by omega) hit
  (fun k W=>RunI (w.heap.size+1) w2.heap.size (w.heap.size+1+1) (w.heap.size+1) w1.heap.size w.heap.size (runK F st0 (L.take k)) w W∧BoxI (w1.heap.size+1+1) (w1.heap.size+1) (w1.heap.size+1+2) w2.heap.size W)
  ?h0 ?hI1 ?hI2 ?hI3 (fun x=>{ tmps:=#[.string t,undef,.slice none 0 0,.pointer (some ⟨w.heap.size,0,none⟩),.pointer (some ⟨w1.heap.size,0,none⟩),x,undef,undef,.string t,.int .i64 t.size,.bool (decide ((1048576:Int) < t.size)),undef,undef,undef,.pointer (some ⟨w.heap.size+1+1,0,none⟩),.string t,.func (.func 159) #[] #[.pointer (some ⟨w1.heap.size+1+1,0,none⟩),.pointer (some ⟨w1.heap.size+1,0,none⟩),.pointer (some ⟨w1.heap.size+1+2,0,none⟩)],x,undef,undef,undef,undef,undef,undef,undef,undef,undef,undef,undef,undef],defers:=[] }) ?assign ?body ?done
 case h0 =>
  refine ⟨⟨⟨[],0,hAx,rfl⟩,hBa,⟨_,ho2,rfl,.inl ⟨rfl,rfl⟩⟩,hx2⟩,⟨_,hBq⟩,⟨_,hBs⟩,⟨_,hBv⟩,Nat.le_refl _⟩
 case hI1 =>
  rintro k W v ⟨hI,hbx⟩
  obtain ⟨c,hbs⟩:=hbx.s
  have hM:Mod (fun k=>k=w1.heap.size+1) W (W.setCell ⟨w1.heap.size+1,0,none⟩ v):=⟨rfl,rfl,rfl,by rw [size_setCell]; exact Nat.le_refl _,fun k hk hn=>setCell_other _ _ hn⟩
  refine ⟨⟨?_,hM.keep hI.ba (by omega),hI.out.keep fun j hx hj=>hM.block j ?_ ?_,Below.trans hI.ext (hM.below hI.ext.size fun j hj=>by omega)⟩,hbx.set (by omega) (by omega) _⟩
  · obtain ⟨l,last,h1,h2⟩:=hI.ag
    exact ⟨l,last,h1.beside hM (fun j hj _=>by subst hj; exact ⟨_,_,_,hbs,.inl rfl⟩),h2⟩
  · obtain ⟨_,_,_,hx,_⟩:=hx
    exact lt_of hx
  · omega
 case hI2 =>
  rintro k W o ⟨hI,hbx⟩
  have hX:Ext W (W.alloc o):=Ext.alloc' _ _
  refine ⟨⟨?_,hX.keep hI.ba,hI.out.keep fun j ⟨_,_,_,hx,_⟩ _=>hX.block j (lt_of hx),hI.ext.allocR o⟩,hbx.mod (hX.mod fun _=>False) fun _ _ _ _ _ _ h=>h⟩
  obtain ⟨l,last,h1,h2⟩:=hI.ag
  exact ⟨l,last,h1.ext hX,h2⟩
 case hI3 =>
  rintro k W b o o' ⟨hI,hbx⟩ hb hbo ho
  have hM:Mod (fun k=>k=b) W (W.putObj b o'):=⟨rfl,rfl,rfl,by simp [World.putObj],fun k hk hn=>World.putObj_heap_other hn⟩
  refine ⟨⟨?_,hM.keep hI.ba (cells_not hI.ba hbo ho),hI.out.keep fun j ⟨_,_,_,hx,_⟩ _=>hM.block j (lt_of hx) (cells_not hx hbo ho),Below.trans hI.ext (hM.below hI.ext.size fun j hj=>by omega)⟩,hbx.mod hM fun k c t h1 _ _=>cells_not h1 hbo ho⟩
  obtain ⟨l,last,h1,h2⟩:=hI.ag
  exact ⟨l,last,h1.putO hbo ho (by omega),h2⟩
 case assign =>
  intro l x W K hK
  gi_wp2
  exact hK
 case body =>
  rintro l k x W ⟨hI,hbx⟩ hk ⟨s,rfl,hs⟩
  have hpa:=(cell_of hI.ba 0).trans rfl
  obtain ⟨la,last,hag,hst⟩:=hI.ag
  have hlst:last < 1000000:=by
   have:=HLA.out k
   rw [← hst] at this
   exact this
  have HLN:=Lib.hid (HF.out k s hs W _ _ _ la last hag hst (by omega) (HT.out.ext hI.ext) hlst)
  have hsn:=hnil k _ hs
  have hq:runK F st0 (L.take (k+1))=stepR F (runK F st0 (L.take k)) s.data.toList:=by rw [hsn,runK_snoc]
  have HQ:=Lib.hid hq
  have HI:=Lib.hid hI
  have HAG:=Lib.hid hag
  have HBX:=Lib.hid hbx
  have hw2W:=hI.ext.size
  have hw22:=hbx.sz
  have hbal:=lt_of hI.ba
  clear hI hag hbx hq hsn hs hst
  generalize hR:F (runK F st0 (L.take k)).2 s.data.toList=R at *
  have HR:=Lib.hid hR
  clear hR
  obtain ⟨ro,S'⟩:=R
  gi_wp2_with fail
  refine ⟨trivial,(callsR HLN.out).mono ?_⟩
  rintro e w3 ⟨⟨l',last',rfl,hA',hst',hfn⟩,hM⟩
  have hI3:=HI.out.line (by omega) HAG.out hM hA' hst'
  have hnF:∀ k c t,W.heap[k]?=some (.cells c t (0,0)) → t=9 ∨ t=3 → ¬ AgF (w.heap.size+1+1) (w.heap.size+1) la k:=fun k c t h1 h2=>HAG.out.notF h1 (by rcases h2 with rfl | rfl <;> decide) (by rcases h2 with rfl | rfl <;> decide) (by rcases h2 with rfl | rfl <;> decide) (by rcases h2 with rfl | rfl <;> decide)
  have hB3:=HBX.out.mod hM fun k c t h1 h2 _=>hnF k c t h1 h2
  have hK3:KeepsFrom w2.heap.size W w3:=KeepsFrom.modC hM fun k o hk hB ho=>HAG.out.cellsF hk (by omega) ho
  have hb3:∀ b,bx3 (w1.heap.size+1+1) (w1.heap.size+1) (w1.heap.size+1+2) b → w3.heap[b]?=W.heap[b]?:=by
   intro b hb
   obtain ⟨⟨_,g1⟩,⟨_,g2⟩,⟨_,g3⟩,_⟩:=HBX.out
   rcases hb with rfl | rfl | rfl
   · exact hM.block _ (lt_of g1) (hnF _ _ _ g1 (.inl rfl))
   · exact hM.block _ (lt_of g2) (hnF _ _ _ g2 (.inl rfl))
   · exact hM.block _ (lt_of g3) (hnF _ _ _ g3 (.inr rfl))
  have H3:=Lib.hid hI3
  have HB3:=Lib.hid hB3
  have HK3:=Lib.hid hK3
  have HBB:=Lib.hid hb3
  clear hB3 hK3 hb3 hnF
  cases ro with
  | none =>
    clear hI3 hM hA' hst' hfn hpa
    gi_wp2
    refine ⟨rfl,HK3.out,⟨?_,HB3.out⟩,HBB.out⟩
    rw [HQ.out]
    unfold stepR
    rw [HR.out]
    simpa using H3.out
  | some y =>
    obtain ⟨v,hv,hown⟩:=hI3.out
    have hvc:=(cell_of hv 0).trans rfl
    have hvf:=frozen_of hv 0
    have hvl:=lt_of hv
    have hs3:=hI3.ext.size
    have hql:=runK_len F st0 (L.take k)
    rw [List.length_take] at hql
    have hm3:=hM.size
    have HO:=Lib.hid hown
    have HV:=Lib.hid hv
    clear hI3 hown hv hM hA' hst' hfn hpa
    obtain ⟨yb,hyb⟩:∃ yb,strV y=.string yb:=⟨_,rfl⟩
    rw [show strV ((some y,S').fst.getD [])=.string yb from hyb]
    gi_wp2_with (gi_at_builtin; refine wpListIn_append_own _ rfl _ _ 75 rfl w2.heap.size 9 i0 (.string ⟨#[]⟩) 1 16 Tryz.underlying75 hi hz0 hz1 hz2 rfl (by decide) _ _ _ rfl (HO.out.alloc _) ⟨w3.heap.size,0,none⟩ 1 1 [.string yb] rfl rfl (cell_one_new _ _ _) (by simp [Value.oneCell']) (by unfold maxLen; omega) (by omega) (by simp; omega) ?_)
    intro v' w4 hown4 hg4 _
    have hown5:=own_bmono hown4 (show w2.heap.size≤w1.heap.size+4 by omega)
    obtain ⟨hI5,hM5⟩:=H3.out.app (by omega) (Nat.le_refl _) (by omega) HV.out HO.out hg4 (by rw [hyb]; exact hown5)
    have hne:∀ g,v.ownBlock=some g → g ≠ w.heap.size:=fun g hg2 e=>by
     obtain ⟨cur,h3⟩:=own_typ HO.out hg2
     subst e
     exact blk_ne h3 HV.out (by decide) rfl
    have hbo:w4.heap[w.heap.size]?=some (.cells #[v] 75 (0,0)):=by
     rw [hg4.block w.heap.size (by rw [size_alloc]; omega) (fun e=>hne _ e.symm rfl),heap_old _ _ hvl]
     exact HV.out
    have hc4:=(cell_of hbo 0).trans rfl
    have hf4:=frozen_of hbo 0
    have hl4:=lt_of hbo
    have hK5:KeepsFrom w2.heap.size w3 (w4.setCell ⟨w.heap.size,0,none⟩ v'):=KeepsFrom.modC hM5 fun k o hk hB ho=>by
     rcases hk with hk | rfl
     · obtain ⟨cur,h3⟩:=own_typ HO.out hk
       rw [h3] at ho; cases ho; rfl
     · omega
    have hnb:∀ b,bx3 (w1.heap.size+1+1) (w1.heap.size+1) (w1.heap.size+1+2) b → ¬ (v.ownBlock=some b ∨ b=w.heap.size):=by
     rintro b hb (hk | hk)
     · have:=own_geB HO.out hk
       rcases hb with rfl | rfl | rfl <;> omega
     · rcases hb with rfl | rfl | rfl <;> omega
    have hB5:=HB3.out.mod hM5 fun k c t h1 h2 h3=>hnb k h3
    have HI5:=Lib.hid hI5
    have HM5:=Lib.hid hM5
    have HK5:=Lib.hid hK5
    have HB5:=Lib.hid hB5
    clear hI5 hM5 hK5 hB5 hbo hne hg4 hown4
    obtain ⟨po,co,rfl⟩:=own_sl hown5
    clear hown5
    gi_wp2
    refine ⟨rfl,HK3.out.trans HK5.out,⟨?_,HB5.out⟩,fun b hb=>?_⟩
    · rw [HQ.out]
      unfold stepR
      rw [HR.out]
      exact HI5.out
    · refine (HM5.out.block b ?_ (hnb b hb)).trans (HBB.out b hb)
      obtain ⟨⟨_,g1⟩,⟨_,g2⟩,⟨_,g3⟩,_⟩:=HB3.out
      rcases hb with rfl | rfl | rfl
      · exact lt_of g1
      · exact lt_of g2
      · exact lt_of g3
 case done =>
  rintro D W hD ⟨hI,hbx⟩ hdef
  obtain ⟨v,hv,hown⟩:=hI.out
  have hvc:=(cell_of hv 0).trans rfl
  have hvl:=lt_of hv
  have HO:=Lib.hid hown
  have HE:=Lib.hid hI.ext
  clear hv hown hI hbx
  obtain ⟨po,co,rfl⟩:=own_sl HO.out
  gi_wp2
  refine ⟨by simp,.inl ⟨_,_,rfl,run_takeDeferred hdef, ?_⟩⟩
  have hM:Mod (fun k=>k=D) W (W.putObj D (.deferred none)):=⟨rfl,rfl,rfl,by simp [World.putObj],fun k hk hn=>World.putObj_heap_other hn⟩
  rw [hL]
  rw [List.take_length] at HO
  refine ⟨_,results_tmp rfl _ _ _,_,rfl,own_bmono (own_keep HO.out fun g hg=>hM.block g ?_ ?_) (by omega),Below.trans HE.out (hM.below HE.out.size fun j hj=>by have:=hE2.size; omega)⟩
  · obtain ⟨cur,h3⟩:=own_typ HO.out hg; exact lt_of h3
  · obtain ⟨cur,h3⟩:=own_typ HO.out hg; exact cells_not h3 hdef rfl
end Go.Proofs.YtmalncfcgcebhaaGreatDoor
namespace Go.Proofs.YtmalncfcgcebhaaGreatDoor
set_option linter.unusedVariables false
open Go.Proofs Go.RowKit
structure WordOk (l:List UInt8):Prop where
 ne:l ≠ []
 sp:∀ c ∈ l,c ≠ 32
 hd:l.getD 0 0 ≠ 34
def joinW:List (List UInt8) → List UInt8
 | []=>[]
 | [a]=>a
 | a :: l=>a ++ 32 :: joinW l
def plcW:Nat → List (List UInt8) → List (Nat × Nat)
 | _,[]=>[]
 | a,x :: l=>(a,a+x.length) :: plcW (a+x.length+1) l
theorem joinW_cons (a:List UInt8) {l:List (List UInt8)} (h:l ≠ []):joinW (a :: l)=a ++ 32 :: joinW l:=by
 cases l with
 | nil=>exact absurd rfl h
 | cons b l=>rfl
theorem wordEnd_at (s:ByteArray):∀ (x r pre:List UInt8) (f:Nat),s.data.toList=pre ++ (x ++ r) → (∀ c ∈ x,c ≠ 32) → (r=[] ∨ ∃ t,r=32 :: t) → x.length≤f → wordEnd s f pre.length=pre.length+x.length
 | [],r,pre,f,hs,_,hr,hf=>by
   cases f with
   | zero=>rfl
   | succ f =>
     unfold wordEnd
     rw [if_neg]
     · simp
     · rintro ⟨h1,h2⟩
       rw [Lib.size_eq,hs] at h1
       rw [hs] at h2
       rcases hr with rfl | ⟨t,rfl⟩
       · simp at h1
       · exact h2 (by simp [List.getD_eq_getElem?_getD])
 | c :: x,r,pre,f,hs,hx,hr,hf=>by
   obtain ⟨f,rfl⟩:∃ g,f=g+1:=⟨f - 1,by simp at hf; omega⟩
   have hs':s.data.toList=(pre ++ [c]) ++ (x ++ r):=by rw [hs]; simp
   unfold wordEnd
   rw [if_pos]
   · have:=wordEnd_at s x r (pre ++ [c]) f hs' (fun d hd=>hx d (by simp [hd])) hr (by simp at hf; omega)
     rw [List.length_append,List.length_singleton] at this
     rw [this,List.length_cons]
     omega
   · refine ⟨?_, ?_⟩
     · rw [Lib.size_eq,hs]; simp
     · rw [hs]
       have:(pre ++ (c :: x ++ r)).getD pre.length 0=c:=by simp [List.getD_eq_getElem?_getD]
       rw [this]
       exact hx c (by simp)
theorem words_one (s:ByteArray) {x r pre:List UInt8} {f:Nat} (hs:s.data.toList=pre ++ (x ++ r)) (hx:WordOk x) (hr:r=[] ∨ ∃ t,r=32 :: t) :
 wordsFrom s (f+1) pre.length=(pre.length,pre.length+x.length) :: wordsFrom s f (pre.length+x.length):=by
 have hxl:0 < x.length:=List.length_pos_iff.2 hx.ne
 have hlt:pre.length < s.size:=by rw [Lib.size_eq,hs]; simp; omega
 have hg:s.data.toList.getD pre.length 0=x.getD 0 0:=by
  rw [hs]
  simp [List.getD_eq_getElem?_getD,List.getElem?_append_right,List.getElem?_append_left hxl]
 have hm:x.getD 0 0 ∈ x:=by
  cases x with
  | nil=>exact absurd rfl hx.ne
  | cons c x=>simp
 have hsk:wordSkip s pre.length=pre.length:=by
  unfold wordSkip
  rw [if_neg (by rw [hg]; exact hx.hd)]
 have he:=wordEnd_at s x r pre s.size hs hx.sp hr (by rw [Lib.size_eq,hs]; simp; omega)
 rw [wordsFrom,if_pos hlt,if_neg (by rw [hg]; exact hx.sp _ hm),hsk,he]
theorem words_sp (s:ByteArray) {r pre:List UInt8} {f:Nat} (hs:s.data.toList=pre ++ (32 :: r)):wordsFrom s (f+1) pre.length=wordsFrom s f (pre.length+1):=by
 have hlt:pre.length < s.size:=by rw [Lib.size_eq,hs]; simp
 rw [wordsFrom,if_pos hlt,if_pos (by rw [hs]; simp [List.getD_eq_getElem?_getD])]
theorem words_end (s:ByteArray) (f:Nat):wordsFrom s f s.size=[]:=by
 cases f with
 | zero=>rfl
 | succ f=>rw [wordsFrom,if_neg (Nat.lt_irrefl _)]
theorem words_join (s:ByteArray):∀ (ws:List (List UInt8)) (pre:List UInt8) (f:Nat),s.data.toList=pre ++ joinW ws → ws ≠ [] → (∀ x ∈ ws,WordOk x) → 2 * ws.length≤f → wordsFrom s f pre.length=plcW pre.length ws
 | [],_,_,_,h,_,_=>absurd rfl h
 | [x],pre,f,hs,_,hx,hf=>by
   obtain ⟨f,rfl⟩:∃ g,f=g+1:=⟨f - 1,by simp at hf; omega⟩
   have hs':s.data.toList=pre ++ (x ++ []):=by rw [hs]; simp [joinW]
   rw [words_one s hs' (hx x (by simp)) (.inl rfl)]
   have e:pre.length+x.length=s.size:=by rw [Lib.size_eq,hs']; simp
   rw [e,words_end]
   simp [plcW,e]
 | x :: y :: ws,pre,f,hs,_,hx,hf=>by
   obtain ⟨f,rfl⟩:∃ g,f=g+1+1:=⟨f - 2,by simp at hf; omega⟩
   have hs':s.data.toList=pre ++ (x ++ 32 :: joinW (y :: ws)):=by rw [hs]; rfl
   rw [words_one s hs' (hx x (by simp)) (.inr ⟨_,rfl⟩)]
   have hs2:s.data.toList=(pre ++ x) ++ (32 :: joinW (y :: ws)):=by rw [hs']; simp
   have e2:=words_sp (f:=f) s hs2
   rw [List.length_append] at e2
   rw [e2]
   have hs3:s.data.toList=(pre ++ x ++ [32]) ++ joinW (y :: ws):=by rw [hs']; simp
   have e3:=words_join s (y :: ws) (pre ++ x ++ [32]) f hs3 (by simp) (fun z hz=>hx z (by simp [hz])) (by simp at hf ⊢; omega)
   rw [List.length_append,List.length_append,List.length_singleton] at e3
   rw [e3]
   rfl
def wpl:Nat → List (List UInt8) → List (ByteArray × Nat)
 | _,[]=>[]
 | a,x :: l=>(⟨x.toArray⟩,a) :: wpl (a+x.length+1) l
theorem wpl_len:∀ (ws:List (List UInt8)) (a:Nat),(wpl a ws).length=ws.length
 | [],_=>rfl
 | x :: l,a=>by unfold wpl; rw [List.length_cons,wpl_len l,List.length_cons]
theorem joinW_len {ws:List (List UInt8)} (h:∀ x ∈ ws,WordOk x):2 * ws.length≤(joinW ws).length+1:=by
 induction ws with
 | nil=>simp
 | cons x ws ih =>
   have hx:0 < x.length:=List.length_pos_iff.2 (h x (by simp)).ne
   by_cases hw:ws=[]
   · subst hw; simp [joinW]; omega
   · rw [joinW_cons x hw]
     have:=ih (fun y hy=>h y (by simp [hy]))
     simp
     omega
theorem ext_words (s:ByteArray):∀ (ws:List (List UInt8)) (pre:List UInt8),s.data.toList=pre ++ joinW ws → (plcW pre.length ws).map (fun p=>(s.extract p.1 p.2,p.1))=wpl pre.length ws
 | [],_,_=>rfl
 | [x],pre,hs=>by
   have e:s.extract pre.length (pre.length+x.length)=⟨x.toArray⟩:=by
    have h1:(s.extract pre.length (pre.length+x.length)).data.toList=x:=by
     rw [Lib.extract_data,hs]; simp [joinW]
    cases hh:s.extract pre.length (pre.length+x.length) with
    | mk d =>
      rw [hh] at h1
      rw [← h1]
   simp only [plcW,wpl,List.map_cons,List.map_nil,e]
 | x :: y :: ws,pre,hs=>by
   have hs':s.data.toList=pre ++ (x ++ 32 :: joinW (y :: ws)):=by rw [hs]; rfl
   have e:s.extract pre.length (pre.length+x.length)=⟨x.toArray⟩:=by
    have h1:(s.extract pre.length (pre.length+x.length)).data.toList=x:=by
     rw [Lib.extract_data,hs']; simp
    cases hh:s.extract pre.length (pre.length+x.length) with
    | mk d =>
      rw [hh] at h1
      rw [← h1]
   have hs3:s.data.toList=(pre ++ x ++ [32]) ++ joinW (y :: ws):=by rw [hs']; simp
   have e3:=ext_words s (y :: ws) (pre ++ x ++ [32]) hs3
   rw [List.length_append,List.length_append,List.length_singleton] at e3
   rw [plcW,List.map_cons,e,e3]
   rfl
theorem wds_join {s:ByteArray} {ws:List (List UInt8)} (hs:s.data.toList=joinW ws) (hw:ws ≠ []) (h:∀ x ∈ ws,WordOk x):wds s=wpl 0 ws:=by
 have h1:=words_join s ws [] (s.size+1) (by rw [hs]; rfl) hw h (by rw [Lib.size_eq,hs]; exact joinW_len h)
 have h2:=ext_words s ws [] (by rw [hs]; rfl)
 unfold wds wordsS
 rw [show (0:Nat)=([]:List UInt8).length from rfl,h1]
 exact h2
theorem itoa_word (n:Int):WordOk (Lib.itoa n):=by
 refine ⟨itoa_ne n,fun c hc e=>?_,fun e=>?_⟩
 · subst e
   rcases itoa_mem n _ hc with h | h
   · exact absurd h (by decide)
   · exact absurd h.1 (by decide)
 · have hm:(Lib.itoa n).getD 0 0 ∈ Lib.itoa n:=by
    cases h:Lib.itoa n with
    | nil=>exact absurd h (itoa_ne n)
    | cons c x=>simp
   rw [e] at hm
   rcases itoa_mem n _ hm with h | h
   · exact absurd h (by decide)
   · exact absurd h.1 (by decide)
theorem num_itoa {n:Int} (h:I64 n):numOf (Lib.itoa n)=some n:=by
 rw [numOf_ok (parse_itoa h.1 h.2),if_pos rfl]
end Go.Proofs.YtmalncfcgcebhaaGreatDoor
namespace Go.Proofs.YtmalncfcgcebhaaGreatDoor
set_option linter.unusedVariables false
open Go.Proofs Go.RowKit
theorem tornFrom_ascii (s:ByteArray) (h:∀ c ∈ s.data.toList,c.toNat < 128):∀ (f pos:Nat),tornFrom s f pos=-1
 | 0,_=>rfl
 | f+1,pos=>by
   unfold tornFrom
   by_cases hp:pos < s.size
   · rw [if_pos hp]
     have ha:(s[pos]'hp).toNat < 128:=by
      refine h _ ?_
      have:s.data.toList[pos]'(by rw [← Lib.size_eq]; exact hp)=s[pos]'hp:=rfl
      rw [← this]
      exact List.getElem_mem _
     rw [decode_ascii s pos hp ha,if_neg,tornFrom_ascii s h f]
     intro e
     have:=congrArg Prod.fst e
     dsimp only at this
     omega
   · rw [if_neg hp]
theorem torn_ascii {s:ByteArray} (h:∀ c ∈ s.data.toList,c.toNat < 128):tornS s=-1:=tornFrom_ascii s h _ _
theorem numR_at {W:List (ByteArray × Nat)} {E a:Nat} {n:Int} (ha:a < W.length) (hw:W[a].1.data.toList=Lib.itoa n) (hn:I64 n):numR W E a none=(n,a+1,none):=by
 obtain ⟨e1,e2⟩:=next_yes (E:=E) ha
 unfold numR
 rw [e1,e2,hw,num_itoa hn]
def lineW (verb:List UInt8) (ns:List Int):List (List UInt8):=verb :: ns.map Lib.itoa
theorem wpl_get:∀ (ws:List (List UInt8)) (a i:Nat) (h:i < (wpl a ws).length),(wpl a ws)[i].1.data.toList=ws.getD i []
 | [],a,i,h=>by simp [wpl] at h
 | x :: l,a,0,h=>rfl
 | x :: l,a,i+1,h=>by
   have:=wpl_get l (a+x.length+1) i (by simp [wpl] at h; exact h)
   simpa [wpl] using this
theorem nums_at (verb:List UInt8) (ns:List Int) (hn:∀ n ∈ ns,I64 n) (E:Nat):∀ i,i≤ns.length → numsS (wpl 0 (lineW verb ns)) E 1 none i=(i+1,none)∧(i < ns.length → numsF (wpl 0 (lineW verb ns)) E 1 none i=ns.getD i 0):=by
 have hl:(wpl 0 (lineW verb ns)).length=ns.length+1:=by rw [wpl_len]; simp [lineW]
 have step:∀ i,i < ns.length → numR (wpl 0 (lineW verb ns)) E (i+1) none=(ns.getD i 0,i+2,none):=fun i hi=>by
  refine numR_at (by omega) ?_ (hn _ (getD_mem hi))
  rw [wpl_get]
  simp [lineW,hi]
 intro i
 induction i with
 | zero =>
   intro h
   refine ⟨rfl,fun h0=>?_⟩
   unfold numsF
   show (numR _ E (0+1) none).1=_
   rw [step 0 h0]
 | succ i ih =>
   intro h
   obtain ⟨h1,_⟩:=ih (by omega)
   have e1:numsS (wpl 0 (lineW verb ns)) E 1 none (i+1)=(i+1+1,none):=by
    show ((numR _ E _ _).2.1,(numR _ E _ _).2.2)=_
    rw [h1]
    dsimp only
    rw [step i (by omega)]
   refine ⟨e1,fun h2=>?_⟩
   unfold numsF
   rw [e1]
   dsimp only
   rw [step (i+1) h2]
theorem line_words {s:ByteArray} {verb:List UInt8} {ns:List Int} (hs:s.data.toList=joinW (lineW verb ns)) (hv:WordOk verb):wds s=wpl 0 (lineW verb ns) :=
 wds_join hs (by simp [lineW]) (fun x hx=>by
  rcases List.mem_cons.1 hx with rfl | hx
  · exact hv
  · obtain ⟨n,_,rfl⟩:=List.mem_map.1 hx
    exact itoa_word n)
theorem join_mem {P:UInt8 → Prop} (h32:P 32):∀ {ws:List (List UInt8)},(∀ x ∈ ws,∀ c ∈ x,P c) → ∀ c ∈ joinW ws,P c
 | [],_,c,hc=>by simp [joinW] at hc
 | [x],h,c,hc=>h x (by simp) c hc
 | x :: y :: l,h,c,hc=>by
   rw [joinW_cons x (by simp)] at hc
   rcases List.mem_append.1 hc with hc | hc
   · exact h x (by simp) c hc
   · rcases List.mem_cons.1 hc with rfl | hc
     · exact h32
     · exact join_mem h32 (fun z hz=>h z (by simp [hz])) c hc
theorem line_says {s:ByteArray} {verb:List UInt8} {ns:List Int} {c:Cmd} (hs:s.data.toList=joinW (lineW verb ns)) (hv:WordOk verb) (ha:∀ c ∈ verb,c.toNat < 128) (hz:s.size≤65536)
 (hc:cmdR (wpl 0 (lineW verb ns)) s.size=(some c,ns.length+1,none)):parseS s=(some c,0,0):=by
 have hw:=line_words hs hv
 have ht:¬ 0≤tornS s:=by
  rw [torn_ascii (s:=s) (fun c hc=>by
   rw [hs] at hc
   refine join_mem (P:=fun c=>c.toNat < 128) (by decide) (fun x hx c hc=>?_) c hc
   rcases List.mem_cons.1 hx with hx | hx
   · rw [hx] at hc; exact ha _ hc
   · obtain ⟨n,_,rfl⟩:=List.mem_map.1 hx
     rcases itoa_mem n _ hc with h | h <;> omega)]
  decide
 have hn:wds s ≠ []:=by
  rw [hw]; unfold lineW wpl; simp
 have hb:badS (wds s) s.size=none:=by
  rw [hw]
  unfold badS
  rw [hc]
  dsimp only
  rw [if_neg]
  rw [wpl_len]
  simp [lineW]
 rw [parse_none (by omega) ht hn hb,hw,hc]
theorem line_v0 (verb:List UInt8) (ns:List Int):(nextT (wpl 0 (lineW verb ns)) 0 none).toList=verb:=by
 have h:0 < (wpl 0 (lineW verb ns)).length:=by rw [wpl_len]; simp [lineW]
 rw [(next_yes (E:=0) h).1,Lib.toList_data,wpl_get]
 rfl
theorem cmd_create (ns:List Int) (hl:ns.length=5) (hn:∀ n ∈ ns,I64 n) (E:Nat):cmdR (wpl 0 (lineW [99,114,101,97,116,101] ns)) E=(some (.create (ns.getD 0 0) (ns.getD 1 0) (ns.getD 2 0) (ns.getD 3 0) (ns.getD 4 0 % 18446744073709551616)),6,none):=by
 have h:=nums_at [99,114,101,97,116,101] ns hn E
 unfold cmdR
 rw [line_v0]
 dsimp only
 rw [if_pos rfl,(h 0 (by omega)).2 (by omega),(h 1 (by omega)).2 (by omega),(h 2 (by omega)).2 (by omega),(h 3 (by omega)).2 (by omega),(h 4 (by omega)).2 (by omega),(h 5 (by omega)).1]
end Go.Proofs.YtmalncfcgcebhaaGreatDoor
namespace Go.Proofs.YtmalncfcgcebhaaGreatDoor
set_option linter.unusedVariables false
open Go.Proofs Go.RowKit
set_option maxRecDepth 20000 in
set_option maxHeartbeats 4000000 in
theorem DoAdd_c {w:World} {N p m:Nat} {l:List (Nat × Th)} {last:Nat} {R:(Option Rep × Int) × St} (hpl:p < w.heap.size) (h:Int) (nm:Bool) (name:ByteArray) (key d:Int)
 (H:∀ w1,Ext w w1 → Calls Tryz.prog 84 #[.pointer (some ⟨p,0,none⟩),addCV h nm name key d] w1 (DoPost w1 N p m l last R)) :
 Calls Tryz.prog 43 #[.pointer (some ⟨p,0,none⟩),.iface 174 (addCV h nm name key d)] w (DoPost w N p m l last R):=by
 have HH:=Lib.hid H
 clear H
 unfold addCV at *
 go_enter Tryz.func43,Tryz.ntmps43
 go_wp2_with fail
 refine Calls.mono (HH.out _ (Ext.alloc' _ _)) ?_
 intro e w2 h5
 have h6:=h5.back (Ext.alloc' w _)
 obtain ⟨⟨v,l',last',rfl,_⟩,_⟩:=h5
 have H6:=Lib.hid h6
 clear h6
 go_wp2
 go_ret2
 exact H6.out
def DoIs (S:St) (c:Cmd) (R:(Option Rep × Int) × St):Prop :=
 ∀ (w:World) (N p m:Nat) (l:List (Nat × Th)) (last base:Nat) (v:Value),AgAt w N p m l last → stOf l last=S → 10≤N → Tabs w → last < 1000000 → CmdAt base w v c → Calls Tryz.prog 43 #[.pointer (some ⟨p,0,none⟩),v] w (DoPost w N p m l last R)
def TextIs (x:Rep):Prop:=∀ (base:Nat) (w1:World) (v:Value),RepAt base w1 v x → Tabs w1 → Calls Tryz.prog 46 #[v] w1 fun e w'=>e=.returned (strV (repT x))∧Ext w1 w'
def lineF (D:St → Cmd → (Option Rep × Int) × St) (S:St) (l:List UInt8):Option (List UInt8) × St :=
 match parseS ⟨l.toArray⟩ with
 | (r,at_,c)=>if c=0 then (match r with | none=>(none,S) | some x=>(some (ansT (D S x).1),(D S x).2)) else (some (errT c ++ [32,97,116,32] ++ Lib.itoa at_),S)
def OfAg (S:St):Prop:=∃ (w:World) (N p m:Nat) (l:List (Nat × Th)) (last:Nat),AgAt w N p m l last∧stOf l last=S
structure DoOk (S:St) (c:Cmd) (R:(Option Rep × Int) × St):Prop where
 is:DoIs S c R
 yes:R.1.2=0 → ∃ x,R.1.1=some x
 tx:OfAg S → ∀ x,R.1.1=some x → TextIs x
 ie:I64 R.1.2
theorem lineF_is {D:St → Cmd → (Option Rep × Int) × St} {S:St} {s:ByteArray} (hs:s.size≤100000000) (hI:I64 (parseS s).2.1∧I64 (parseS s).2.2) (hn:(parseS s).2.2 ≠ 0 → (parseS s).1=none) (h:∀ c,(parseS s).1=some c → DoOk S c (D S c)):LineIs S s (lineF D S s.data.toList):=by
 intro w N p m l last hA hS hN hT hl
 have e1:(⟨s.data.toList.toArray⟩:ByteArray)=s:=by cases s; simp
 unfold lineF
 rw [e1]
 generalize hp:parseS s=P at *
 obtain ⟨r,at_,c⟩:=P
 dsimp only at *
 by_cases h0:c=0
 · subst h0
   rw [if_pos rfl]
   cases r with
   | none=>rw [← hS]; exact ALine_none hA hT s hs hp
   | some x =>
     have hx:=h x rfl
     refine ALine_cmd hA hN hT s hs hp hx.yes hx.ie (fun w1 v hx1 hv=>hx.is w1 N p m l last _ v (hA.ext hx1) hS hN (hT.ext hx1) hl hv) fun y base w1 v hy hr hT1=>hx.tx ⟨w,N,p,m,l,last,hA,hS⟩ y hy base w1 v hr hT1
 · rw [if_neg h0]
   rw [hn h0] at hp
   rw [← hS]
   exact ALine_err hA hT s hs hp h0 hI.1 hI.2
def AllSt (S:St):Prop:=∀ x ∈ S.l,∃ C B ls,x.2=AT.st C B ls
theorem AllSt.th {l:List (Nat × Th)} {last:Nat} (h:AllSt (stOf l last)) {k:Int} {x:Nat × Th} (hf:fnd l k=some x):∃ i bk C B,x=(i,.st bk C B):=by
 obtain ⟨i,t⟩:=x
 obtain ⟨C,B,ls,h2⟩:=h (i,t.ab) (List.mem_map.2 ⟨_,(fnd_mem hf).1,rfl⟩)
 cases t with
 | st bk C B=>exact ⟨_,_,_,_,rfl⟩
 | wi=>cases h2
theorem stOf_find (l:List (Nat × Th)) (last:Nat) (k:Int):(stOf l last).l.find? (fun x=>decide ((x.1:Int)=k))=(fnd l k).map fun x=>(x.1,x.2.ab):=fnd_ab l k
def dropF (S:St) (h:Int):(Option Rep × Int) × St:=match S.l.find? (fun x=>decide ((x.1:Int)=h)) with
 | none=>((none,10),S)
 | some _=>((some .done,0),⟨dropL S.l h,S.last⟩)
def totalF (S:St) (h:Int):(Option Rep × Int) × St:=match S.l.find? (fun x=>decide ((x.1:Int)=h)) with
 | none=>((none,10),S)
 | some (_,T)=>((some (.number ((T.ls T.B).getD 0 0)),0),S)
theorem q_empty {base:Nat} {w:World} {v:Value} {what:ByteArray} {h:Int} {l:List Int} (hv:CmdAt base w v (.query what h l)):∃ q n c,v=.iface 179 (.agg #[.string what,.int .i64 h,.slice q n c]):=by
 obtain ⟨s,rfl,⟨_,rfl⟩ | ⟨g,f,rfl,_⟩⟩:=hv
 · exact ⟨_,_,_,rfl⟩
 · exact ⟨_,_,_,rfl⟩
theorem DoOk.create (S:St) (C:Cfg) (hs:U64 C.seed) (hl:S.last < 1000000):DoOk S (.create C.bits C.rows C.width C.mode C.seed) (createF S C):=by
 refine ⟨?_, ?_, ?_, ?_⟩
 · rintro w N p m l last base v hA rfl hN hT hl rfl
   exact DoCreate_c hA C hs hl
 · unfold createF madeF
   repeat' split
   all_goals simp
 · unfold createF madeF
   repeat' split
   · rintro _ x h; cases h
   · rintro _ x h
     cases h
     rintro base w v rfl hT
     exact AText_handle _ (by unfold I64; omega) w hT
   · rintro _ x h; cases h
 · unfold createF madeF I64
   repeat' split
   all_goals dsimp only; omega
theorem lvE_small (C:Cfg) (lv:Int) (l:List Int) (key d:Int):0≤lvE C lv l key d∧lvE C lv l key d≤4:=by
 have k:∀ (b:Bool) (x y:Int),(0≤x∧x≤4) → (0≤y∧y≤4) → 0≤(bif b then x else y)∧(bif b then x else y)≤4:=fun b x y h1 h2=>by cases b <;> assumption
 unfold lvE errX errU
 refine k _ _ _ (k _ _ _ (k _ _ _ ?_ (k _ _ _ ?_ ?_)) ?_) (k _ _ _ (k _ _ _ (k _ _ _ ?_ (k _ _ _ ?_ ?_)) (k _ _ _ ?_ ?_)) ?_)
 all_goals omega
theorem err_small (C:Cfg) (B:Nat) (ls:Nat → List Int) (key d:Int):0≤errK C B ls key d∧errK C B ls key d≤4:=by
 have k:∀ n,0≤errs C ls key d n∧errs C ls key d n≤4:=by
  intro n
  induction n with
  | zero=>simp [errs]
  | succ n ih =>
    unfold errs fst_
    cases decide (errs C ls key d n=0)
    · exact ih
    · exact lvE_small _ _ _ _ _
 unfold errK
 cases decide (keys C 0≤key)
 · exact k _
 · show 0≤(2:Int)∧(2:Int)≤4
   decide
theorem err_i {C:Cfg} {B:Nat} {ls:Nat → List Int} {key d:Int}:I64 (errK C B ls key d):=by
 have:=err_small C B ls key d
 unfold I64; omega
theorem DoOk.add (S:St) (hS:AllSt S) (h:Int) (nm:Bool) (name:ByteArray) (key d:Int) (hh:I64 h) (hk:U64 key) (hd:I64 d):DoOk S (.add h nm name key d) (addF S h nm key d):=by
 refine ⟨?_, ?_, ?_, ?_⟩
 · rintro w N p m l last base v hA rfl hN hT hl rfl
   refine DoAdd_c hA.ltp h nm name key d fun w1 hx=>?_
   cases hf:fnd l h with
   | none =>
     rw [addF_none hf]
     refine (AAdd_no (hA.ext hx) h nm name key d hh hf).mono ?_
     rintro e w' ⟨rfl,hx2⟩
     exact DoPost.same (hA.ext hx) hx2 (r:=none) rfl
   | some x =>
     obtain ⟨i,bk,C,B,rfl⟩:=hS.th hf
     exact AAdd_st (hA.ext hx) h nm name key d hh hk hd hf
 · unfold addF doneF
   repeat' split
   all_goals simp_all
 · unfold addF doneF
   rintro _ x hx
   have:x=.done:=by
    revert hx
    repeat' split
    all_goals simp_all
   subst this
   rintro base w v rfl hT
   exact AText_done w
 · unfold addF doneF
   repeat' split
   · unfold I64; dsimp only; omega
   · unfold I64; dsimp only; omega
   · rename_i i T hf he
     obtain ⟨C,B,ls,h2⟩:=hS _ (List.mem_of_find?_eq_some hf)
     dsimp only at h2
     subst h2
     exact err_i
theorem DoOk.drop (S:St) (h:Int) (hh:I64 h) (l:List Int):DoOk S (.query ⟨#[100,114,111,112]⟩ h l) (dropF S h):=by
 refine ⟨?_, ?_, ?_, ?_⟩
 · rintro w N p m l last base v hA rfl hN hT hl hv
   obtain ⟨q,n,c,rfl⟩:=q_empty hv
   refine DoQuery_c hA.ltp _ h q n c fun w1 hx=>?_
   unfold dropF
   rw [stOf_find]
   cases hf:fnd l h with
   | none =>
     refine (AQuery_no (hA.ext hx) _ h (.slice q n c) rfl hh hf).mono ?_
     rintro e w' ⟨rfl,hx2⟩
     exact DoPost.same (hA.ext hx) hx2 (r:=none) rfl
   | some x=>exact AQuery_drop (hA.ext hx) h _ rfl hh hf
 · unfold dropF
   split <;> simp
 · unfold dropF
   rintro _ x hx
   have:x=.done:=by
    revert hx
    split
    all_goals simp_all
   subst this
   rintro base w v rfl hT
   exact AText_done w
 · unfold dropF I64
   split <;> (dsimp only; omega)
theorem tot_i {S:St} (hO:OfAg S) {h:Int} {i:Nat} {T:AT} (hf:S.l.find? (fun x=>decide ((x.1:Int)=h))=some (i,T)):I64 ((T.ls T.B).getD 0 0):=by
 obtain ⟨w,N,p,m,l,last,hA,rfl⟩:=hO
 rw [stOf_find] at hf
 obtain ⟨x,hx,he⟩:=Option.map_eq_some_iff.1 hf
 cases he
 rw [Th.ab_B,Th.ab_ls]
 have hth:=hA.th x (fnd_mem hx).1
 have key:∀ (l:List Int),(∀ y ∈ l,I64 y) → I64 (l.getD 0 0):=fun l hl=>by
  cases l with
  | nil=>simp [I64]
  | cons a l=>simpa using hl a (by simp)
 obtain ⟨i,t⟩:=x
 cases t with
 | st bk C B=>exact key _ (KAt.lev (show bk.At w C B from hth) B (Nat.le_refl _)).fit
 | wi p b C B n sm bk=>exact key _ (KAt.lev (WAt.sum hth) B (Nat.le_refl _)).fit
theorem DoOk.total (S:St) (h:Int) (hh:I64 h) (l:List Int):DoOk S (.query ⟨#[116,111,116,97,108]⟩ h l) (totalF S h):=by
 refine ⟨?_, ?_, ?_, ?_⟩
 · rintro w N p m l last base v hA rfl hN hT hl hv
   obtain ⟨q,n,c,rfl⟩:=q_empty hv
   refine DoQuery_c hA.ltp _ h q n c fun w1 hx=>?_
   unfold totalF
   rw [stOf_find]
   cases hf:fnd l h with
   | none =>
     refine (AQuery_no (hA.ext hx) _ h (.slice q n c) rfl hh hf).mono ?_
     rintro e w' ⟨rfl,hx2⟩
     exact DoPost.same (hA.ext hx) hx2 (r:=none) rfl
   | some x =>
     have:=AQuery_total (hA.ext hx) h (.slice q n c) rfl hh hf
     simp only [Option.map_some,Th.ab_B,Th.ab_ls]
     exact this
 · unfold totalF
   split <;> simp
 · intro hO x hx
   unfold totalF at hx
   split at hx
   · cases hx
   · rename_i hf
     cases hx
     rintro base w v rfl hT
     exact AText_num _ (tot_i hO hf) w hT
 · unfold totalF I64
   split <;> (dsimp only; omega)
def doA (S:St):Cmd → (Option Rep × Int) × St
 | .create B R W M s=>createF S ⟨B,R,W,M,s⟩
 | .add h nm _ key d=>addF S h nm key d
 | .query what h _=>if what=⟨#[100,114,111,112]⟩ then dropF S h else totalF S h
 | _=>((none,10),S)
def okA:Cmd → Prop
 | .create _ _ _ _ s=>U64 s
 | .add h _ _ key d=>I64 h∧U64 key∧I64 d
 | .query what h _=>(what=⟨#[100,114,111,112]⟩ ∨ what=⟨#[116,111,116,97,108]⟩)∧I64 h
 | _=>False
theorem doA_is (S:St) (hS:AllSt S) (hl:S.last < 1000000) (c:Cmd) (hc:okA c):DoOk S c (doA S c):=by
 cases c with
 | create B R W M s=>exact DoOk.create S ⟨B,R,W,M,s⟩ hc hl
 | add h nm name key d=>exact DoOk.add S hS h nm name key d hc.1 hc.2.1 hc.2.2
 | query what h l =>
   rcases hc with ⟨rfl | rfl,hh⟩
   · exact DoOk.drop S h hh l
   · exact DoOk.total S h hh l
 | _=>exact hc.elim
theorem mem_setL {l:List (Nat × AT)} {i:Nat} {x:AT} {y:Nat × AT} (h:y ∈ setL l i x):y ∈ l ∨ y.2=x:=by
 unfold setL at h
 obtain ⟨z,hz,rfl⟩:=List.mem_map.1 h
 split
 · exact .inr rfl
 · exact .inl hz
theorem doA_st (S:St) (hS:AllSt S) (c:Cmd):AllSt (doA S c).2:=by
 cases c with
 | create B R W M s =>
   show AllSt (createF S _).2
   unfold createF madeF
   repeat' split
   · exact hS
   · intro x hx
     rcases List.mem_append.1 hx with hx | hx
     · exact hS x hx
     · simp only [List.mem_singleton] at hx
       subst hx
       exact ⟨_,_,_,rfl⟩
   · exact hS
 | add h nm name key d =>
   show AllSt (addF S h nm key d).2
   unfold addF
   repeat' split
   · exact hS
   · rename_i i T hf he
     obtain ⟨C,B,ls,h2⟩:=hS _ (List.mem_of_find?_eq_some hf)
     dsimp only at h2
     subst h2
     intro x hx
     rcases mem_setL hx with hx | hx
     · exact hS x hx
     · exact ⟨_,_,_,hx⟩
   · exact hS
 | query what h l =>
   show AllSt (if what=⟨#[100,114,111,112]⟩ then dropF S h else totalF S h).2
   unfold dropF totalF
   repeat' split
   · exact hS
   · intro x hx
     exact hS x (List.mem_filter.1 hx).1
   · exact hS
   · exact hS
 | _=>exact hS
end Go.Proofs.YtmalncfcgcebhaaGreatDoor
namespace Go.Proofs.YtmalncfcgcebhaaGreatDoor
set_option linter.unusedVariables false
open Go.Proofs Go.RowKit
theorem itoaW_len {x:Int} (hx:W128 x):(Lib.itoa x).length≤70:=by
 have h5:(10:Nat) ^ (59+1)=1000000000000000000000000000000000000000000000000000000000000:=by decide
 unfold W128 at hx
 unfold Lib.itoa
 split
 · have:=dec_len 59 x.natAbs (by omega)
   simp only [List.length_cons]
   omega
 · have:=dec_len 59 x.toNat (by omega)
   omega
set_option maxRecDepth 20000 in
theorem AText_wide (x:Int) (hx:W128 x) (w:World):Calls Tryz.prog 46 #[.iface 196 (.agg #[.int .i64 (hi x),.int .u64 (lo x)])] w fun e w'=>e=.returned (strV ([119,105,100,101,32] ++ Lib.itoa x))∧Ext w w':=by
 have HI:=fun w'=>Lib.hid (WText_c x hx w')
 have hil:=itoaW_len hx
 go_enter Tryz.func46,Tryz.ntmps46
 go_wp2_with fail
 refine Calls.mono (HI _).out ?_
 rintro r w1 ⟨rfl,hx1⟩
 have HX:=Lib.hid (show Ext w w1 from Ext.trans' (by (repeat' (first | exact Ext.refl _ | assumption | apply Ext.allocR | apply Ext.drewR | apply Ext.drewNR | (refine Ext.trans' ?_ (by assumption))))) hx1)
 clear hx1
 unfold strV
 go_wp2
 go_ret
 exact ⟨congrArg Ending.returned (congrArg Value.string (cat_str _ _)),HX.out⟩
set_option maxRecDepth 20000 in
set_option maxHeartbeats 4000000 in
theorem DoPair_c {w:World} {N p m:Nat} {l:List (Nat × Th)} {last:Nat} {R:(Option Rep × Int) × St} (hpl:p < w.heap.size) (what:ByteArray) (a b:Int)
 (H:∀ w1,Ext w w1 → Calls Tryz.prog 87 #[.pointer (some ⟨p,0,none⟩),.agg #[.string what,.int .i64 a,.int .i64 b]] w1 (DoPost w1 N p m l last R)) :
 Calls Tryz.prog 43 #[.pointer (some ⟨p,0,none⟩),.iface 182 (.agg #[.string what,.int .i64 a,.int .i64 b])] w (DoPost w N p m l last R):=by
 have HH:=Lib.hid H
 clear H
 go_enter Tryz.func43,Tryz.ntmps43
 go_wp2_with fail
 refine Calls.mono (HH.out _ (Ext.alloc' _ _)) ?_
 intro e w2 h5
 have h6:=h5.back (Ext.alloc' w _)
 obtain ⟨⟨v,l',last',rfl,_⟩,_⟩:=h5
 have H6:=Lib.hid h6
 clear h6
 go_wp2
 go_ret2
 exact H6.out
end Go.Proofs.YtmalncfcgcebhaaGreatDoor
namespace Go.Proofs.YtmalncfcgcebhaaGreatDoor
set_option linter.unusedVariables false
open Go.Proofs Go.RowKit
noncomputable def askF (S:St) (h:Int) (f:AT → Option Rep × Int):(Option Rep × Int) × St:=match S.l.find? (fun x=>decide ((x.1:Int)=h)) with
 | none=>((none,10),S)
 | some (_,T)=>(f T,S)
theorem q_two {base:Nat} {w:World} {v:Value} {what:ByteArray} {h a b:Int} (hv:CmdAt base w v (.query what h [a,b])):∃ g,v=.iface 179 (.agg #[.string what,.int .i64 h,.slice (some ⟨g,1,none⟩) 2 2])∧g < w.heap.size∧w.cell? ⟨g,1,none⟩=some (.int .i64 a)∧w.cell? ⟨g,2,none⟩=some (.int .i64 b):=by
 obtain ⟨s,rfl,⟨h0,_⟩ | ⟨g,f,rfl,hb,hg,hl⟩⟩:=hv
 · cases h0
 · have e:[a,b]=[f 1,f 2]:=hl
   injection e with e1 e2
   injection e2 with e2 _
   refine ⟨g,rfl,lt_of hg, ?_, ?_⟩
   · rw [e1]; exact fill_cell hg (by simp)
   · rw [e2]; exact fill_cell hg (by simp)
theorem q_one {base:Nat} {w:World} {v:Value} {what:ByteArray} {h a:Int} (hv:CmdAt base w v (.query what h [a])):∃ g,v=.iface 179 (.agg #[.string what,.int .i64 h,.slice (some ⟨g,1,none⟩) 1 1])∧g < w.heap.size∧w.cell? ⟨g,1,none⟩=some (.int .i64 a):=by
 obtain ⟨s,rfl,⟨h0,_⟩ | ⟨g,f,rfl,hb,hg,hl⟩⟩:=hv
 · cases h0
 · have e:[a]=[f 1]:=hl
   injection e with e1 e2
   refine ⟨g,rfl,lt_of hg, ?_⟩
   rw [e1]; exact fill_cell hg (by simp)
theorem askIs {S:St} {what:ByteArray} {h:Int} (hh:I64 h) {l:List Int} {f:AT → Option Rep × Int} (hsl:∀ base w v,CmdAt base w v (.query what h l) → ∃ q n c,v=.iface 179 (.agg #[.string what,.int .i64 h,.slice q n c]))
 (H:∀ (w:World) (N p m:Nat) (l':List (Nat × Th)) (last base:Nat) (q:Option Addr) (n c:Nat) (z:Nat × Th),AgAt w N p m l' last → fnd l' h=some z → CmdAt base w (.iface 179 (.agg #[.string what,.int .i64 h,.slice q n c])) (.query what h l) → ∀ w1,Ext w w1 →
  Calls Tryz.prog 86 #[.pointer (some ⟨p,0,none⟩),.agg #[.string what,.int .i64 h,.slice q n c]] w1 (DoPost w1 N p m l' last (f z.2.ab,stOf l' last))):DoIs S (.query what h l) (askF S h f):=by
 rintro w N p m l' last base v hA rfl hN hT hlast hv
 obtain ⟨q,n,c,rfl⟩:=hsl base w v hv
 refine DoQuery_c hA.ltp _ h q n c fun w1 hx=>?_
 unfold askF
 rw [stOf_find]
 cases hf:fnd l' h with
 | none =>
   refine (AQuery_no (hA.ext hx) _ h (.slice q n c) rfl hh hf).mono ?_
   rintro e w' ⟨rfl,hx2⟩
   exact DoPost.same (hA.ext hx) hx2 (r:=none) rfl
 | some z=>exact H w N p m l' last base q n c z hA hf hv w1 hx
noncomputable def pointF (T:AT) (a b:Int):Option Rep × Int:=numF (pointR T.C T.B T.ls a (uu b)).1 (pointR T.C T.B T.ls a (uu b)).2
noncomputable def rangeF (T:AT) (a b:Int):Option Rep × Int:=numF (rangeR (ptU T.C T.ls) T.B (uu a) (uu b)).1 (rangeR (ptU T.C T.ls) T.B (uu a) (uu b)).2
noncomputable def quanF (T:AT) (a:Int):Option Rep × Int:=keyF (quanR (ptU T.C T.ls) T.B ((T.ls T.B).getD 0 0) a).1 (quanR (ptU T.C T.ls) T.B ((T.ls T.B).getD 0 0) a).2
noncomputable def heavF (T:AT) (a b:Int):Option Rep × Int:=listF (heavyP (ptU T.C T.ls) a b T.B).1 (heavyP (ptU T.C T.ls) a b T.B).2
theorem DoIs.point (S:St) (h a b:Int) (hh:I64 h) (ha:I64 a) (hb:I64 b):DoIs S (.query ⟨#[112,111,105,110,116]⟩ h [a,b]) (askF S h fun T=>pointF T a b):=by
 refine askIs hh (fun base w v hv=>by obtain ⟨g,rfl,_⟩:=q_two hv; exact ⟨_,_,_,rfl⟩) ?_
 intro w N p m l' last base q n c z hA hf hv w1 hx
 obtain ⟨g,e,hgl,g1,g2⟩:=q_two hv
 cases e
 have:=AQuery_point (hA.ext hx) h hh g a b ha hb (Nat.lt_of_lt_of_le hgl hx.size) ((hx.cell hgl).trans g1) ((hx.cell hgl).trans g2) hf
 unfold pointF
 rw [Th.ab_C,Th.ab_B,Th.ab_ls]
 exact this
theorem DoIs.range (S:St) (h a b:Int) (hh:I64 h) (ha:I64 a) (hb:I64 b):DoIs S (.query ⟨#[114,97,110,103,101]⟩ h [a,b]) (askF S h fun T=>rangeF T a b):=by
 refine askIs hh (fun base w v hv=>by obtain ⟨g,rfl,_⟩:=q_two hv; exact ⟨_,_,_,rfl⟩) ?_
 intro w N p m l' last base q n c z hA hf hv w1 hx
 obtain ⟨g,e,hgl,g1,g2⟩:=q_two hv
 cases e
 have:=AQuery_range (hA.ext hx) h hh g a b ha hb (Nat.lt_of_lt_of_le hgl hx.size) ((hx.cell hgl).trans g1) ((hx.cell hgl).trans g2) hf
 unfold rangeF
 rw [Th.ab_C,Th.ab_B,Th.ab_ls]
 exact this
theorem DoIs.quan (S:St) (h a:Int) (hh:I64 h) (ha:I64 a):DoIs S (.query ⟨#[113,117,97,110,116,105,108,101]⟩ h [a]) (askF S h fun T=>quanF T a):=by
 refine askIs hh (fun base w v hv=>by obtain ⟨g,rfl,_⟩:=q_one hv; exact ⟨_,_,_,rfl⟩) ?_
 intro w N p m l' last base q n c z hA hf hv w1 hx
 obtain ⟨g,e,hgl,g1⟩:=q_one hv
 cases e
 have:=AQuery_quantile (hA.ext hx) h hh g a ha (Nat.lt_of_lt_of_le hgl hx.size) ((hx.cell hgl).trans g1) hf
 unfold quanF
 rw [Th.ab_C,Th.ab_B,Th.ab_ls]
 exact this
theorem DoIs.heavy (S:St) (h a b:Int) (hh:I64 h) (ha:I64 a) (hb:I64 b):DoIs S (.query ⟨#[104,101,97,118,121]⟩ h [a,b]) (askF S h fun T=>heavF T a b):=by
 refine askIs hh (fun base w v hv=>by obtain ⟨g,rfl,_⟩:=q_two hv; exact ⟨_,_,_,rfl⟩) ?_
 intro w N p m l' last base q n c z hA hf hv w1 hx
 obtain ⟨g,e,hgl,g1,g2⟩:=q_two hv
 cases e
 have:=AQuery_heavy (hA.ext hx) h hh g a b ha hb (Nat.lt_of_lt_of_le hgl hx.size) ((hx.cell hgl).trans g1) ((hx.cell hgl).trans g2) hf
 unfold heavF
 rw [Th.ab_C,Th.ab_B,Th.ab_ls]
 exact this
noncomputable def pairF (S:St) (a b:Int) (f:Nat → AT → AT → (Option Rep × Int) × St):(Option Rep × Int) × St :=
 match S.l.find? (fun x=>decide ((x.1:Int)=a)),S.l.find? (fun x=>decide ((x.1:Int)=b)) with
 | some (i,T),some (_,U)=>f i T U
 | _,_=>((none,10),S)
theorem pairIs {S:St} {what:ByteArray} {a b:Int} (ha:I64 a) (hb:I64 b) {f:Nat → AT → AT → (Option Rep × Int) × St}
 (H:∀ (w:World) (N p m:Nat) (l':List (Nat × Th)) (last:Nat) (z1 z2:Nat × Th),AgAt w N p m l' last → fnd l' a=some z1 → fnd l' b=some z2 → stOf l' last=S →
  Calls Tryz.prog 87 #[.pointer (some ⟨p,0,none⟩),.agg #[.string what,.int .i64 a,.int .i64 b]] w (DoPost w N p m l' last (f z1.1 z1.2.ab z2.2.ab))):DoIs S (.pair what a b) (pairF S a b f):=by
 rintro w N p m l' last base v hA rfl hN hT hlast rfl
 refine DoPair_c hA.ltp what a b fun w1 hx=>?_
 have hA1:=hA.ext hx
 have hno:∀ {x1 y1 x2 y2:Option Addr} {k1 k2:Bool},(∀ W1,Ext w1 W1 → ∀ y:After W1,(Instr.lookup 142 (.map (some m)) (.int .i64 a) true).run Tryz.prog y.w=.ok (.tuple #[.agg #[.pointer x1,.pointer y1],.bool k1]) y.w) →
  (∀ W1,Ext w1 W1 → ∀ y:After W1,(Instr.lookup 142 (.map (some m)) (.int .i64 b) true).run Tryz.prog y.w=.ok (.tuple #[.agg #[.pointer x2,.pointer y2],.bool k2]) y.w) → k1=false ∨ k2=false → Calls Tryz.prog 87 #[.pointer (some ⟨p,0,none⟩),.agg #[.string what,.int .i64 a,.int .i64 b]] w1 (DoPost w1 N p m l' last ((none,10),stOf l' last)) :=
  fun h1 h2 hk=>APair_no hA1 what a b ha hb h1 h2 hk
 unfold pairF
 rw [stOf_find,stOf_find]
 cases hf1:fnd l' a with
 | none =>
   cases hf2:fnd l' b with
   | none=>exact hno (x1:=none) (y1:=none) (x2:=none) (y2:=none) (k1:=false) (k2:=false) (fun W1 h=>hA1.lookno_a h ha hf1) (fun W1 h=>hA1.lookno_a h hb hf2) (.inl rfl)
   | some z2 =>
     obtain ⟨x2,y2,hv2⟩:=z2.2.v_two
     exact hno (x1:=none) (y1:=none) (x2:=x2) (y2:=y2) (k1:=false) (k2:=true) (fun W1 h=>hA1.lookno_a h ha hf1) (fun W1 h=>by rw [← hv2]; exact hA1.look_a h hb hf2) (.inl rfl)
 | some z1 =>
   obtain ⟨x1,y1,hv1⟩:=z1.2.v_two
   cases hf2:fnd l' b with
   | none=>exact hno (x1:=x1) (y1:=y1) (x2:=none) (y2:=none) (k1:=true) (k2:=false) (fun W1 h=>by rw [← hv1]; exact hA1.look_a h ha hf1) (fun W1 h=>hA1.lookno_a h hb hf2) (.inr rfl)
   | some z2=>exact H w1 N p m l' last z1 z2 hA1 hf1 hf2 rfl
noncomputable def innF2 (S:St) (T U:AT):(Option Rep × Int) × St:=(wideF (innW T.C T.ls U.C U.ls).1 (innW T.C T.ls U.C U.ls).2,S)
theorem DoIs.inner (S:St) (a b:Int) (ha:I64 a) (hb:I64 b):DoIs S (.pair ⟨#[105,110,110,101,114]⟩ a b) (pairF S a b fun _ T U=>innF2 S T U):=by
 refine pairIs ha hb ?_
 rintro w N p m l' last z1 z2 hA hf1 hf2 rfl
 have:=APair_inner hA a b ha hb hf1 hf2
 unfold innF2
 rw [Th.ab_C,Th.ab_ls,Th.ab_C,Th.ab_ls]
 exact this
def jointF (S:St) (i:Nat) (T U:AT) (er:Cfg → Nat → (Nat → List Int) → Cfg → (Nat → List Int) → Int) (op:List Int → List Int → List Int):(Option Rep × Int) × St :=
 match T with
 | .st C B ls=>(doneF (er C B ls U.C U.ls),if er C B ls U.C U.ls=0 then ⟨setL S.l i (.st C B (fun n=>op (ls n) (U.ls n))),S.last⟩ else S)
 | .wi ..=>((none,3),S)
theorem DoIs.merge (S:St) (a b:Int) (ha:I64 a) (hb:I64 b):DoIs S (.pair ⟨#[109,101,114,103,101]⟩ a b) (pairF S a b fun i T U=>jointF S i T U mrgE plusL):=by
 refine pairIs ha hb ?_
 rintro w N p m l' last ⟨i,T⟩ z2 hA hf1 hf2 rfl
 cases T with
 | st bk C B =>
   have:=APair_merge hA a b ha hb hf1 hf2
   unfold jointF
   rw [Th.ab_C,Th.ab_ls]
   exact this
 | wi p' b' C B n sm bk=>exact APair_win hA _ a b ha hb hf1 hf2 (by rw [Lib.toList_data]; decide)
theorem DoIs.subtract (S:St) (a b:Int) (ha:I64 a) (hb:I64 b):DoIs S (.pair ⟨#[115,117,98,116,114,97,99,116]⟩ a b) (pairF S a b fun i T U=>jointF S i T U subE minusL):=by
 refine pairIs ha hb ?_
 rintro w N p m l' last ⟨i,T⟩ z2 hA hf1 hf2 rfl
 cases T with
 | st bk C B =>
   have:=APair_subtract hA a b ha hb hf1 hf2
   unfold jointF
   rw [Th.ab_C,Th.ab_ls]
   exact this
 | wi p' b' C B n sm bk=>exact APair_win hA _ a b ha hb hf1 hf2 (by rw [Lib.toList_data]; decide)
end Go.Proofs.YtmalncfcgcebhaaGreatDoor
namespace Go.Proofs.YtmalncfcgcebhaaGreatDoor
set_option linter.unusedVariables false
open Go.Proofs Go.RowKit
theorem txNum {n:Int} (h:I64 n):TextIs (.number n):=by
 rintro base w v rfl hT
 exact AText_num _ h w hT
theorem DoOk.ask {S:St} {c:Cmd} {h:Int} {f:AT → Option Rep × Int} (hd:DoIs S c (askF S h f)) (hy:∀ T,(f T).2=0 → ∃ x,(f T).1=some x) (ht:OfAg S → ∀ i T,S.l.find? (fun x=>decide ((x.1:Int)=h))=some (i,T) → ∀ x,(f T).1=some x → TextIs x) (hi:∀ T,I64 (f T).2):DoOk S c (askF S h f):=by
 refine ⟨hd, ?_, ?_, ?_⟩
 · unfold askF
   split
   · intro h; cases h
   · exact hy _
 · intro hO x hx
   unfold askF at hx
   split at hx
   · cases hx
   · rename_i hf
     exact ht hO _ _ hf x hx
 · unfold askF
   split
   · unfold I64; dsimp only; omega
   · exact hi _
theorem numF_yes {n e:Int} (h:(numF n e).2=0):∃ x,(numF n e).1=some x:=by
 unfold numF at *
 split at h
 · exact ⟨_,by rw [if_pos (by assumption)]⟩
 · exact absurd h (by assumption)
theorem numF_tx {n e:Int} (hn:I64 n) (x:Rep) (h:(numF n e).1=some x):TextIs x:=by
 unfold numF at h
 split at h
 · cases h; exact txNum hn
 · cases h
theorem numF_i {n e:Int} (he:I64 e):I64 (numF n e).2:=by
 unfold numF
 split
 · unfold I64; dsimp only; omega
 · exact he
theorem pointR_I (C:Cfg) (B:Nat) (ls:Nat → List Int) (a b:Int):I64 (pointR C B ls a b).1∧I64 (pointR C B ls a b).2:=by
 have:=ptU_I C ls a.toNat b
 have z0:I64 0:=by unfold I64; omega
 have z2:I64 2:=by unfold I64; omega
 unfold pointR
 split
 · exact ⟨z0,z2⟩
 · split
   · exact ⟨this,z0⟩
   · exact ⟨z0,z2⟩
theorem rangeR_I (pt:Nat → Int → Int) (B:Nat) (a b:Int):I64 (rangeR pt B a b).1∧I64 (rangeR pt B a b).2:=by
 have z0:I64 0:=by unfold I64; omega
 have z1:I64 1:=by unfold I64; omega
 have z2:I64 2:=by unfold I64; omega
 have z4:I64 4:=by unfold I64; omega
 unfold rangeR
 split
 · exact ⟨z0,z1⟩
 · split
   · exact ⟨z0,z2⟩
   · split
     · rename_i hf
       refine ⟨?_,z0⟩
       have:=of_decide_eq_true hf
       unfold I64
       omega
     · exact ⟨z0,z4⟩
theorem DoOk.point (S:St) (h a b:Int) (hh:I64 h) (ha:I64 a) (hb:I64 b):DoOk S (.query ⟨#[112,111,105,110,116]⟩ h [a,b]) (askF S h fun T=>pointF T a b) :=
 DoOk.ask (DoIs.point S h a b hh ha hb) (fun T h=>numF_yes h) (fun _ _ T _ x h=>numF_tx (pointR_I _ _ _ _ _).1 x h) (fun T=>numF_i (pointR_I _ _ _ _ _).2)
theorem DoOk.range (S:St) (h a b:Int) (hh:I64 h) (ha:I64 a) (hb:I64 b):DoOk S (.query ⟨#[114,97,110,103,101]⟩ h [a,b]) (askF S h fun T=>rangeF T a b) :=
 DoOk.ask (DoIs.range S h a b hh ha hb) (fun T h=>numF_yes h) (fun _ _ T _ x h=>numF_tx (rangeR_I _ _ _ _).1 x h) (fun T=>numF_i (rangeR_I _ _ _ _).2)
end Go.Proofs.YtmalncfcgcebhaaGreatDoor
namespace Go.Proofs.YtmalncfcgcebhaaGreatDoor
set_option linter.unusedVariables false
open Go.Proofs Go.RowKit
theorem txDone:TextIs .done:=by
 rintro base w v rfl hT
 exact AText_done w
theorem jointF_ok (S:St) (i:Nat) (T U:AT) {er:Cfg → Nat → (Nat → List Int) → Cfg → (Nat → List Int) → Int} (op:List Int → List Int → List Int) (he:∀ C B l C2 m,I64 (er C B l C2 m)) :
 ((jointF S i T U er op).1.2=0 → ∃ x,(jointF S i T U er op).1.1=some x)∧(∀ x,(jointF S i T U er op).1.1=some x → TextIs x)∧I64 (jointF S i T U er op).1.2:=by
 unfold jointF
 cases T with
 | wi=>exact ⟨fun h=>(by cases h),fun x h=>(by cases h),(by unfold I64; dsimp only; omega)⟩
 | st C B ls =>
   dsimp only
   have h:=he C B ls U.C U.ls
   generalize er C B ls U.C U.ls=e at h
   unfold doneF
   by_cases h0:e=0
   · simp only [if_pos h0]
     exact ⟨fun _=>⟨_,rfl⟩,fun x hx=>(by cases hx; exact txDone),(by unfold I64; omega)⟩
   · simp only [if_neg h0]
     exact ⟨fun h1=>absurd h1 h0,fun x hx=>(by cases hx),h⟩
theorem DoOk.pair {S:St} {c:Cmd} {a b:Int} {f:Nat → AT → AT → (Option Rep × Int) × St} (hd:DoIs S c (pairF S a b f)) (H:∀ i T U,((f i T U).1.2=0 → ∃ x,(f i T U).1.1=some x)∧(∀ x,(f i T U).1.1=some x → TextIs x)∧I64 (f i T U).1.2):DoOk S c (pairF S a b f):=by
 refine ⟨hd, ?_, ?_, ?_⟩
 · unfold pairF
   split
   · exact (H _ _ _).1
   · intro h; cases h
 · intro _
   unfold pairF
   split
   · exact (H _ _ _).2.1
   · intro x h; cases h
 · unfold pairF
   split
   · exact (H _ _ _).2.2
   · unfold I64; dsimp only; omega
theorem mrgE_i (C:Cfg) (B:Nat) (l:Nat → List Int) (C2:Cfg) (m:Nat → List Int):I64 (mrgE C B l C2 m):=by
 unfold mrgE
 repeat' split
 all_goals (unfold I64; omega)
theorem subE_i (C:Cfg) (B:Nat) (l:Nat → List Int) (C2:Cfg) (m:Nat → List Int):I64 (subE C B l C2 m):=by
 unfold subE
 repeat' split
 all_goals (unfold I64; omega)
theorem DoOk.merge (S:St) (a b:Int) (ha:I64 a) (hb:I64 b):DoOk S (.pair ⟨#[109,101,114,103,101]⟩ a b) (pairF S a b fun i T U=>jointF S i T U mrgE plusL) :=
 DoOk.pair (DoIs.merge S a b ha hb) fun i T U=>jointF_ok S i T U plusL mrgE_i
theorem DoOk.subtract (S:St) (a b:Int) (ha:I64 a) (hb:I64 b):DoOk S (.pair ⟨#[115,117,98,116,114,97,99,116]⟩ a b) (pairF S a b fun i T U=>jointF S i T U subE minusL) :=
 DoOk.pair (DoIs.subtract S a b ha hb) fun i T U=>jointF_ok S i T U minusL subE_i
end Go.Proofs.YtmalncfcgcebhaaGreatDoor
namespace Go.Proofs.YtmalncfcgcebhaaGreatDoor
set_option linter.unusedVariables false
open Go.RowKit
def absS (ps:List (Int × Int)):Int:=lsum (ps.map fun u=>max u.2 (-u.2))
theorem absS_cons (u:Int × Int) (ps:List (Int × Int)):absS (u :: ps)=max u.2 (-u.2)+absS ps:=by unfold absS; rw [List.map_cons,lsum_cons]
theorem absS_app (a b:List (Int × Int)):absS (a ++ b)=absS a+absS b:=by unfold absS; rw [List.map_append,lsum_append]
theorem absS_nn:∀ ps:List (Int × Int),0≤absS ps
 | []=>Int.le_refl _
 | u :: ps=>by have:=absS_nn ps; rw [absS_cons]; omega
theorem sumIf_abs (p:Int → Bool):∀ ps:List (Int × Int),-absS ps≤sumIf p ps∧sumIf p ps≤absS ps
 | []=>⟨Int.le_refl _,Int.le_refl _⟩
 | u :: ps=>by
   have:=sumIf_abs p ps
   have h:=absS_nn ps
   rw [absS_cons,sumIf_cons]
   cases p u.1 <;> simp only [cond_true,cond_false] <;> omega
def negP (ps:List (Int × Int)):List (Int × Int):=ps.map fun u=>(u.1,-u.2)
theorem sumIf_negP (p:Int → Bool):∀ ps:List (Int × Int),sumIf p (negP ps)=-sumIf p ps
 | []=>rfl
 | u :: ps=>by
   have:=sumIf_negP p ps
   show sumIf p ((u.1,-u.2) :: negP ps)=_
   rw [sumIf_cons,sumIf_cons,this]
   cases p u.1 <;> simp only [cond_true,cond_false] <;> omega
theorem absS_neg:∀ ps:List (Int × Int),absS (negP ps)=absS ps
 | []=>rfl
 | u :: ps=>by
   have:=absS_neg ps
   show absS ((u.1,-u.2) :: negP ps)=_
   rw [absS_cons,absS_cons,this]
   dsimp only
   omega
structure TInv (C:Cfg) (ps:List (Int × Int)) (T:Int) (ls:Nat → List Int):Prop where
 ky:∀ u ∈ ps,0≤u.1∧u.1 < 64
 ab:absS ps≤T
 nn:C.mode=2 → ∀ u ∈ ps,0≤u.2
 ln:∀ n:Nat,n≤6 → (ls n).length=lvN C n
 bd:∀ n:Nat,n≤6 → Bnd T (ls n)
 ex:∀ n:Nat,n≤6 → isX C n=true → ∀ j,j < lvN C n → (ls n).getD j 0=sumIf (fun k=>sh n k == (j:Int)) ps
 su:C.mode ≠ 2 → ∀ n:Nat,n≤6 → isX C n=false → ∀ r a,r < rN C → a < wN C → (ls n).getD (r * wN C+a) 0=sumIf (fun k=>(cols C n (sh n k)).getD r 0 == (a:Int)) ps
 lo:C.mode=2 → ∀ n:Nat,n≤6 → isX C n=false → ∀ key,0≤key → ∀ r,r < rN C → sumIf (fun k=>sh n k == key) ps≤(ls n).getD (at_ (wN C) (cols C n key) r) 0
theorem lvN_x {C:Cfg} {n:Int} (h:isX C n=true):lvN C n=kN C n:=by unfold lvN; rw [h]; rfl
theorem lvN_s {C:Cfg} {n:Int} (h:isX C n=false):lvN C n=rN C * wN C:=by unfold lvN; rw [h]; rfl
theorem TInv.zero {C:Cfg} (T:Int) (hT:0≤T):TInv C [] T (zerosK C):=by
 refine ⟨fun u hu=>(by cases hu),hT,fun _ u hu=>(by cases hu),fun n _=>zs_len _,fun n _=>?_,fun n _ _ j _=>zs_get0 _ _,fun _ n _ _ r a _ _=>zs_get0 _ _,fun _ n _ _ key _ r _=>?_⟩
 · intro x hx
   have:=zs_bnd _ x hx
   omega
 · show (0:Int)≤(zs _).getD _ 0
   rw [zs_get0]
   exact Int.le_refl _
theorem at_lt {R W r a:Nat} (hr:r < R) (ha:a < W):r * W+a < R * W:=by
 have:=Nat.mul_le_mul_right W (show r+1≤R from hr)
 rw [Nat.add_mul,Nat.one_mul] at this
 omega
section
variable {C:Cfg} {ps qs:List (Int × Int)} {T U:Int} {ls ms:Nat → List Int}
theorem TInv.t0 (h:TInv C ps T ls):0≤T:=Int.le_trans (absS_nn ps) h.ab
theorem TInv.mono (h:TInv C ps T ls) (hT:T≤U):TInv C ps U ls :=
 ⟨h.ky,Int.le_trans h.ab hT,h.nn,h.ln,fun n hn x hx=>by have:=h.bd n hn x hx; omega,h.ex,h.su,h.lo⟩
theorem keys64 (hb:C.bits=6):keys C 0=64:=by unfold keys; rw [hb]; rfl
theorem TInv.upd (hok:C.Ok) (hb:C.bits=6) (h:TInv C ps T ls) {key d D:Int} (hk0:0≤key) (hk:key < 64) (hd:-D≤d∧d≤D) (hm:C.mode=2 → 0≤d):TInv C (ps ++ [(key,d)]) (T+D) (updK C ls key d):=by
 have hr:=rN_eq hok
 have hw:=wN_eq hok
 refine ⟨?_, ?_, ?_, ?_, ?_, ?_, ?_, ?_⟩
 · intro u hu
   rcases List.mem_append.1 hu with hu | hu
   · exact h.ky u hu
   · rw [List.mem_singleton] at hu; subst hu; exact ⟨hk0,hk⟩
 · rw [absS_app,absS_cons]
   have:=h.ab
   show absS ps+(max d (-d)+0)≤_
   omega
 · intro hm2 u hu
   rcases List.mem_append.1 hu with hu | hu
   · exact h.nn hm2 u hu
   · rw [List.mem_singleton] at hu; subst hu; exact hm hm2
 · intro n hn
   unfold updK
   rw [lvU_len]
   exact h.ln n hn
 · intro n hn
   exact updK_bnd (h.bd n hn) h.t0 (by omega) hd
 · intro n hn hx j hj
   have hl:=h.ln n hn
   rw [lvN_x hx] at hl
   have h1:=sh_lt hok (n:=n) (by omega) hk0 (by rw [keys64 hb]; exact hk)
   rw [sumIf_snoc]
   unfold updK
   rw [lvU_x hx,updX_get (sh_nn hk0 n) (by rw [hl,← kN_eq' hok]; exact h1),h.ex n hn hx j hj]
 · intro hm2 n hn hx r a hrr ha
   rw [sumIf_snoc]
   unfold updK
   rw [lvU_s hx]
   unfold updL
   rw [decide_eq_false hm2]
   have hme:=cols_meets C hok n (sh n key) hr hw
   have hl:=h.ln n hn
   rw [lvN_s hx] at hl
   show (putK (wN C) _ _ (rN C) _).getD _ 0=_
   rw [putK_get hme hl hrr ha (rN C) (Nat.le_refl _)]
   by_cases he:(cols C n (sh n key)).getD r 0=(a:Int)
   · rw [if_pos ⟨hrr,he⟩]
     have hat:at_ (wN C) (cols C n (sh n key)) r=r * wN C+a:=by unfold at_; omega
     rw [hat]
     have hbb:((cols C n (sh n key)).getD r 0 == (a:Int))=true:=by simpa using he
     show _+_=_
     rw [h.su hm2 n hn hx r a hrr ha]
     simp only [hbb]
     rfl
   · rw [if_neg (fun h=>he h.2),h.su hm2 n hn hx r a hrr ha]
     have:((cols C n (sh n key)).getD r 0 == (a:Int))=false:=by simpa using he
     simp only [this]
     simp
 · intro hm2 n hn hx k2 hk2 r hrr
   obtain ⟨a,ha,hat,hc⟩:=at_col (lv:=n) hok hr hw k2 hrr
   have ih:=h.lo hm2 n hn hx k2 hk2 r hrr
   have hl:=h.ln n hn
   rw [lvN_s hx] at hl
   rw [sumIf_snoc,hat]
   rw [hat] at ih
   unfold updK
   rw [lvU_s hx,cons_cell hok hr hw hm2 hl _ _ hrr ha]
   obtain ⟨⟨j,hj,hj'⟩,_⟩:=min_read (lv:=n) hok hr hw (ls n) (sh n key)
   by_cases hkk:sh n key=k2
   · have ihj:=h.lo hm2 n hn hx (sh n key) (sh_nn hk0 n) j hj
     rw [if_pos (by rw [hkk]; exact hc),hj']
     have hbb:(sh n key == k2)=true:=by simpa using hkk
     rw [hkk] at ihj
     simp only [hkk] at *
     simp only [BEq.rfl,cond_true]
     omega
   · have hbb:(sh n key == k2)=false:=by simpa using hkk
     simp only [hbb,cond_false]
     by_cases he:(cols C n (sh n key)).getD r 0=(a:Int)
     · rw [if_pos he]; omega
     · rw [if_neg he]; omega
theorem TInv.plus (hok:C.Ok) (h:TInv C ps T ls) (h2:TInv C qs U ms):TInv C (ps ++ qs) (T+U) (fun n=>plusL (ls n) (ms n)):=by
 have hr:=rN_eq hok
 have hw:=wN_eq hok
 have t0:=h.t0
 have u0:=h2.t0
 refine ⟨?_, ?_, ?_, ?_, ?_, ?_, ?_, ?_⟩
 · intro u hu
   rcases List.mem_append.1 hu with hu | hu
   · exact h.ky u hu
   · exact h2.ky u hu
 · rw [absS_app]
   have:=h.ab
   have:=h2.ab
   omega
 · intro hm2 u hu
   rcases List.mem_append.1 hu with hu | hu
   · exact h.nn hm2 u hu
   · exact h2.nn hm2 u hu
 · intro n hn
   rw [plusL_len]
   exact h.ln n hn
 · intro n hn x hx
   simp only [plusL,List.mem_map,List.mem_range] at hx
   obtain ⟨j,hj,rfl⟩:=hx
   have a:=(h.bd n hn).getD t0 j
   have b:=(h2.bd n hn).getD u0 j
   omega
 · intro n hn hx j hj
   rw [sumIf_append,plusL_get (by rw [h.ln n hn]; exact hj),h.ex n hn hx j hj,h2.ex n hn hx j hj]
 · intro hm2 n hn hx r a hrr ha
   rw [sumIf_append,plusL_get (by rw [h.ln n hn,lvN_s hx]; exact at_lt hrr ha),h.su hm2 n hn hx r a hrr ha,h2.su hm2 n hn hx r a hrr ha]
 · intro hm2 n hn hx key hk0 r hrr
   obtain ⟨a,ha,hat,hc⟩:=at_col (lv:=n) hok hr hw key hrr
   have i1:=h.lo hm2 n hn hx key hk0 r hrr
   have i2:=h2.lo hm2 n hn hx key hk0 r hrr
   rw [hat] at i1 i2 ⊢
   rw [sumIf_append,plusL_get (by rw [h.ln n hn,lvN_s hx]; exact at_lt hrr ha)]
   omega
theorem TInv.minus (hok:C.Ok) (hm:C.mode ≠ 2) (h:TInv C ps T ls) (h2:TInv C qs U ms):TInv C (ps ++ negP qs) (T+U) (fun n=>minusL (ls n) (ms n)):=by
 have t0:=h.t0
 have u0:=h2.t0
 refine ⟨?_, ?_,fun h=>absurd h hm, ?_, ?_, ?_, ?_,fun h=>absurd h hm⟩
 · intro u hu
   rcases List.mem_append.1 hu with hu | hu
   · exact h.ky u hu
   · simp only [negP,List.mem_map] at hu
     obtain ⟨v,hv,rfl⟩:=hu
     exact h2.ky v hv
 · rw [absS_app,absS_neg]
   have:=h.ab
   have:=h2.ab
   omega
 · intro n hn
   rw [minusL_len]
   exact h.ln n hn
 · intro n hn x hx
   simp only [minusL,List.mem_map,List.mem_range] at hx
   obtain ⟨j,hj,rfl⟩:=hx
   have a:=(h.bd n hn).getD t0 j
   have b:=(h2.bd n hn).getD u0 j
   omega
 · intro n hn hx j hj
   rw [sumIf_append,sumIf_negP,minusL_get (by rw [h.ln n hn]; exact hj),h.ex n hn hx j hj,h2.ex n hn hx j hj]
   omega
 · intro hm2 n hn hx r a hrr ha
   rw [sumIf_append,sumIf_negP,minusL_get (by rw [h.ln n hn,lvN_s hx]; exact at_lt hrr ha),h.su hm2 n hn hx r a hrr ha,h2.su hm2 n hn hx r a hrr ha]
   omega
theorem TInv.add_ok (hok:C.Ok) (hb:C.bits=6) (h:TInv C ps T ls) {key d D:Int} (hk0:0≤key) (hk:key < 64) (hd:-D≤d∧d≤D) (hm:C.mode=2 → 0≤d) (hT:T+D≤4611686018427387904):errK C 6 ls key d=0 :=
 errK_ok hok (B:=6) hb (fun n hn=>h.bd n hn) h.t0 (by omega) hd hT hk0 (by rw [keys64 hb]; exact hk) hm
theorem fitK_bnd {ks:Nat → List Int} {V:Int} (hV:V≤4611686018427387904) (h:∀ n,n≤6 → Bnd V (ks n)):fitK 6 ks=true :=
 fitK_iff.2 fun n hn x hx=>by
  have:=h n hn x hx
  unfold I64
  omega
theorem TInv.plus_ok (hok:C.Ok) (h:TInv C ps T ls) (h2:TInv C qs U ms) (hT:T+U≤4611686018427387904):mrgE C 6 ls C ms=0:=by
 unfold mrgE
 rw [if_pos rfl,fitK_bnd hT (h.plus hok h2).bd,if_pos rfl]
theorem TInv.minus_ok (hok:C.Ok) (hm:C.mode ≠ 2) (h:TInv C ps T ls) (h2:TInv C qs U ms) (hT:T+U≤4611686018427387904):subE C 6 ls C ms=0:=by
 unfold subE
 rw [if_pos rfl,if_neg hm,fitK_bnd hT (h.minus hok hm h2).bd,if_pos rfl]
theorem sub_mode (hm:C.mode=2):subE C 6 ls C ms=3:=by
 unfold subE
 rw [if_pos rfl,if_pos hm]
theorem ptU_eq {n:Nat} {i x:Int} (h1:I64 x) (hx:lvPt C n (ls n) i x):ptU C ls n i=x:=by
 have he:∃ y,I64 y∧lvPt C n (ls n) i y:=⟨x,h1,hx⟩
 unfold ptU
 rw [dif_pos he]
 exact lvPt_unique he.choose_spec.2 hx
theorem TInv.pt_x (hok:C.Ok) (h:TInv C ps T ls) (hT:T≤4611686018427387904) {n:Nat} (hn:n≤6) (hx:isX C n=true) {i:Int} (h0:0≤i) (h1:i < keys C n):ptU C ls n i=pcS ps n i:=by
 obtain ⟨j,rfl⟩:∃ j:Nat,i=j:=⟨i.toNat,by omega⟩
 have hj:j < lvN C n:=by rw [lvN_x hx]; have:=kN_eq' hok n; omega
 have hc:=h.ex n hn hx j hj
 have hb:=sumIf_abs (fun k=>sh n k == (j:Int)) ps
 have:=h.ab
 refine ptU_eq ?_ (.inl ⟨hx, ?_⟩)
 · unfold pcS I64; omega
 · rw [Int.toNat_natCast,hc]; rfl
theorem TInv.pt_s (hok:C.Ok) (h:TInv C ps T ls) (hT:T≤4611686018427387904) (hm:C.mode ≠ 3) {n:Nat} (hn:n≤6) (hx:isX C n=false) (i:Int) :
 ptU C ls n i=minL (readL (wN C) (ls n) (cols C n i))∧IsKth (readL (wN C) (ls n) (cols C n i)) 0 (minL (readL (wN C) (ls n) (cols C n i))):=by
 have hr:=rN_eq hok
 have hw:=wN_eq hok
 have hR:0 < rN C:=by have:=hok.r1; omega
 have hne:readL (wN C) (ls n) (cols C n i) ≠ []:=fun e=>by
  have:=congrArg List.length e
  rw [readL_len,cols_len] at this
  have h2:C.rows.toNat=rN C:=rfl
  rw [h2] at this
  simp at this
  omega
 obtain ⟨g1,g2⟩:=minL_spec _ hne
 have hk:IsKth (readL (wN C) (ls n) (cols C n i)) 0 (minL (readL (wN C) (ls n) (cols C n i))):=⟨by rw [less_nil g2]; exact Nat.le_refl _,by have:=same_mem g1; omega⟩
 refine ⟨ptU_eq ?_ (.inr ⟨hx,by rw [if_neg hm]; exact hk⟩),hk⟩
 have:=(h.bd n hn).readL h.t0 (wN C) (cols C n i) _ g1
 unfold I64
 omega
def othS (C:Cfg) (ps:List (Int × Int)) (n:Nat) (i:Int) (r:Nat):Int:=sumIf (fun k=>!(sh n k == i) && sameCol C n i r (sh n k)) ps
theorem sum_own (C:Cfg) (ps:List (Int × Int)) (n:Nat) (i:Int) (r:Nat):sumIf (fun k=>(cols C n (sh n k)).getD r 0 == (cols C n i).getD r 0) ps=pcS ps n i+othS C ps n i r:=by
 rw [sumIf_split _ (fun k=>sh n k == i)]
 unfold pcS othS
 congr 1
 · refine sumIf_ext ps fun u=>?_
   cases hx:(sh n u == i) with
   | false=>simp
   | true =>
     have:sh n u=i:=by simpa using hx
     rw [this]; simp
 · refine sumIf_ext ps fun u=>?_
   unfold sameCol
   exact Bool.and_comm _ _
def guessS (C:Cfg) (ps:List (Int × Int)) (n:Nat) (i:Int):Int:=pcS ps n i+if isX C n=true then 0 else leastF (othS C ps n i) (rN C)
theorem TInv.pt_lin (hok:C.Ok) (h:TInv C ps T ls) (hT:T≤4611686018427387904) (hm:C.mode=1) {n:Nat} (hn:n≤6) {i:Int} (h0:0≤i) (h1:i < keys C n):ptU C ls n i=guessS C ps n i:=by
 unfold guessS
 cases hx:isX C n with
 | true=>rw [if_pos rfl,Int.add_zero]; exact h.pt_x hok hT hn hx h0 h1
 | false =>
   rw [if_neg (by decide)]
   obtain ⟨e,hk⟩:=h.pt_s hok hT (by omega) hn hx i
   rw [e]
   have hr:=rN_eq hok
   have hw:=wN_eq hok
   have hme:=cols_meets C hok n i hr hw
   have hrd:readL (wN C) (ls n) (cols C n i)=(List.range (rN C)).map fun r=>pcS ps n i+othS C ps n i r:=by
    unfold readL
    rw [hme.len]
    refine List.map_congr_left fun r hrr=>?_
    rw [List.mem_range] at hrr
    obtain ⟨a,ha,hat,hc⟩:=at_col (lv:=n) hok hr hw i hrr
    rw [hat,h.su (by omega) n hn hx r a hrr ha,← hc,sum_own]
   rw [hrd] at hk ⊢
   exact least_of hk
def PlainS (ps:List (Int × Int)):Prop:=∀ i,0≤sumIf (fun k=>k == i) ps
theorem PlainS.nn (h:PlainS ps) (p:Int → Bool):0≤sumIf p ps:=sumIf_nn p _ ps (Nat.le_refl _) fun u _=>h u.1
theorem TInv.pt_ge (hok:C.Ok) (h:TInv C ps T ls) (hT:T≤4611686018427387904) (hm:C.mode ≠ 3) (hp:PlainS ps) {n:Nat} (hn:n≤6) {i:Int} (h0:0≤i) (h1:i < keys C n):pcS ps n i≤ptU C ls n i:=by
 cases hx:isX C n with
 | true=>rw [h.pt_x hok hT hn hx h0 h1]; exact Int.le_refl _
 | false =>
   have hr:=rN_eq hok
   have hw:=wN_eq hok
   obtain ⟨e,hk⟩:=h.pt_s hok hT hm hn hx i
   rw [e]
   obtain ⟨⟨r,hrr,hj⟩,_⟩:=min_read (lv:=n) hok hr hw (ls n) i
   rw [hj]
   by_cases hm2:C.mode=2
   · exact h.lo hm2 n hn hx i h0 r hrr
   · obtain ⟨a,ha,hat,hc⟩:=at_col (lv:=n) hok hr hw i hrr
     rw [hat,h.su hm2 n hn hx r a hrr ha,← hc,sum_own]
     have:0≤othS C ps n i r:=hp.nn _
     omega
theorem TInv.pt_bd (hok:C.Ok) (h:TInv C ps T ls) (hT:T≤4611686018427387904) (hm:C.mode ≠ 3) {n:Nat} (hn:n≤6) {i:Int} (h0:0≤i) (h1:i < keys C n):-T≤ptU C ls n i∧ptU C ls n i≤T:=by
 cases hx:isX C n with
 | true =>
   rw [h.pt_x hok hT hn hx h0 h1]
   have:=sumIf_abs (fun k=>sh n k == i) ps
   have:=h.ab
   unfold pcS
   omega
 | false =>
   obtain ⟨e,hk⟩:=h.pt_s hok hT hm hn hx i
   rw [e]
   exact ((h.bd n hn).readL h.t0 (wN C) (cols C n i)).minL h.t0
end
def topSt (C:Cfg) (g:Nat → Nat → List Int):St:=⟨[(1,.st C 6 (g 0)),(2,.st C 6 (g 1)),(3,.st C 6 (g 2))],3⟩
def setG (g:Nat → Nat → List Int) (h:Nat) (ls:Nat → List Int):Nat → Nat → List Int:=fun k=>if k=h then ls else g k
theorem top_find (C:Cfg) (g:Nat → Nat → List Int) {h:Nat} (hh:h < 3):(topSt C g).l.find? (fun x=>decide ((x.1:Int)=((h+1:Nat):Int)))=some (h+1,.st C 6 (g h)):=by
 match h,hh with
 | 0,_=>rfl
 | 1,_=>rfl
 | 2,_=>rfl
theorem top_set (C:Cfg) (g:Nat → Nat → List Int) {h:Nat} (hh:h < 3) (ls:Nat → List Int):(⟨setL (topSt C g).l (h+1) (.st C 6 ls),(topSt C g).last⟩:St)=topSt C (setG g h ls):=by
 match h,hh with
 | 0,_=>rfl
 | 1,_=>rfl
 | 2,_=>rfl
end Go.Proofs.YtmalncfcgcebhaaGreatDoor
namespace Go.Proofs.YtmalncfcgcebhaaGreatDoor
set_option linter.unusedVariables false
open Go.RowKit
def valL:Nat → List UInt8 → Nat
 | n,[]=>n
 | n,c :: l=>valL (n * 10+(c.toNat - 48)) l
theorem valL_app (l m:List UInt8):∀ n,valL n (l ++ m)=valL (valL n l) m:=by
 induction l with
 | nil=>intro n; rfl
 | cons c l ih=>intro n; exact ih _
theorem dig48 {d:Nat} (h:d < 10):(UInt8.ofNat (48+d)).toNat=48+d:=by
 rw [UInt8.toNat_ofNat']; omega
theorem dec_snoc {u:Nat} (h:¬ u < 10):Lib.decDigits u=Lib.decDigits (u / 10) ++ [UInt8.ofNat (48+u % 10)]:=by
 conv=>lhs; rw [Lib.decDigits,dif_neg h]
theorem dec_one {u:Nat} (h:u < 10):Lib.decDigits u=[UInt8.ofNat (48+u)]:=by rw [Lib.decDigits,dif_pos h]
theorem dec_val:∀ (k u:Nat),u < 10 ^ (k+1) → valL 0 (Lib.decDigits u)=u:=by
 intro k
 induction k with
 | zero =>
   intro u h
   have h':u < 10:=by simpa using h
   rw [dec_one h']
   show 0 * 10+((UInt8.ofNat (48+u)).toNat - 48)=u
   rw [dig48 h']
   omega
 | succ k ih =>
   intro u h
   by_cases h2:u < 10
   · rw [dec_one h2]
     show 0 * 10+((UInt8.ofNat (48+u)).toNat - 48)=u
     rw [dig48 h2]
     omega
   · have h3:10 ^ (k+1+1)=10 ^ (k+1) * 10:=Nat.pow_succ ..
     rw [dec_snoc h2,valL_app,ih (u / 10) (by omega)]
     show u / 10 * 10+((UInt8.ofNat (48+u % 10)).toNat - 48)=u
     rw [dig48 (by omega)]
     omega
theorem dec_chars:∀ (k u:Nat),u < 10 ^ (k+1) → ∀ c ∈ Lib.decDigits u,48≤c.toNat∧c.toNat≤57:=by
 intro k
 induction k with
 | zero =>
   intro u h c hc
   have h':u < 10:=by simpa using h
   rw [dec_one h',List.mem_singleton] at hc
   rw [hc,dig48 h']
   omega
 | succ k ih =>
   intro u h c hc
   by_cases h2:u < 10
   · rw [dec_one h2,List.mem_singleton] at hc
     rw [hc,dig48 h2]
     omega
   · have h3:10 ^ (k+1+1)=10 ^ (k+1) * 10:=Nat.pow_succ ..
     rw [dec_snoc h2] at hc
     rcases List.mem_append.1 hc with hc | hc
     · exact ih (u / 10) (by omega) c hc
     · rw [List.mem_singleton] at hc
       rw [hc,dig48 (by omega)]
       omega
theorem dec_first:∀ (k u:Nat),u < 10 ^ (k+1) → 1≤u → ((Lib.decDigits u).getD 0 0).toNat ≠ 48:=by
 intro k
 induction k with
 | zero =>
   intro u h h1
   have h':u < 10:=by simpa using h
   rw [dec_one h']
   show (UInt8.ofNat (48+u)).toNat ≠ 48
   rw [dig48 h']
   omega
 | succ k ih =>
   intro u h h1
   by_cases h2:u < 10
   · rw [dec_one h2]
     show (UInt8.ofNat (48+u)).toNat ≠ 48
     rw [dig48 h2]
     omega
   · have h3:10 ^ (k+1+1)=10 ^ (k+1) * 10:=Nat.pow_succ ..
     have:=ih (u / 10) (by omega) (by omega)
     have hp:=dec_pos' (u / 10)
     rw [dec_snoc h2,List.getD_eq_getElem?_getD,List.getElem?_append_left hp,← List.getD_eq_getElem?_getD]
     exact this
theorem valL_le (l:List UInt8):∀ n,n≤valL n l:=by
 induction l with
 | nil=>intro n; exact Nat.le_refl _
 | cons c l ih =>
   intro n
   have:=ih (n * 10+(c.toNat - 48))
   show n≤valL (n * 10+(c.toNat - 48)) l
   omega
theorem valL_take {l:List UInt8} {k:Nat}:valL 0 (l.take k)≤valL 0 l:=by
 conv=>rhs; rw [← List.take_append_drop k l,valL_app]
 exact valL_le _ _
theorem valL_next {l:List UInt8} {k:Nat} (h:k < l.length):valL 0 (l.take (k+1))=valL 0 (l.take k) * 10+(l[k].toNat - 48):=by
 rw [List.take_succ_eq_append_getElem h,valL_app]
 rfl
end Go.Proofs.YtmalncfcgcebhaaGreatDoor
namespace Go.Proofs.YtmalncfcgcebhaaGreatDoor
set_option linter.unusedVariables false
open Go.Proofs Go.RowKit
set_option maxRecDepth 20000 in
set_option maxHeartbeats 4000000 in
theorem RNumPos_c (u:Nat) (hu:u < 9223372036854775808) (s:ByteArray) (hs:s.data.toList=Lib.decDigits u) (w:World) :
 Calls Tryz.prog 65 #[.string s] w fun e w'=>e=.returned (.tuple #[.int .i64 (u:Int),.bool true])∧w'=w:=by
 have h19:u < 10 ^ (18+1):=by
  have h5:(10:Nat) ^ (18+1)=10000000000000000000:=by decide
  omega
 have hlen:=dec_len 18 u h19
 have hpos:=dec_pos' u
 have hsz:s.size=(Lib.decDigits u).length:=by rw [Lib.size_eq,hs]
 have hch:=dec_chars 18 u h19
 have hval:=dec_val 18 u h19
 have hget:∀ k (h:k < s.size),∃ c:UInt8,(Lib.decDigits u)[k]?=some c∧(s[k]'h)=c∧48≤c.toNat∧c.toNat≤57:=by
  intro k h
  have hk:k < (Lib.decDigits u).length:=by omega
  refine ⟨(Lib.decDigits u)[k],List.getElem?_eq_getElem hk, ?_,hch _ (List.getElem_mem hk)⟩
  have:=Lib.getD_at s k h
  rw [hs,List.getD_eq_getElem?_getD,List.getElem?_eq_getElem hk] at this
  simpa using this
 have h0:0 < s.size:=by omega
 have hs19:s.size≤19:=by omega
 have hfirst:s.size=1 ∨ (s[0]'h0).toNat ≠ 48:=by
  by_cases h2:u=0
  · left
    rw [hsz,h2,dec_one (by decide)]
    rfl
  · right
    have h3:=dec_first 18 u h19 (by omega)
    rw [← hs,← Lib.getD_at s 0 h0] at h3
    exact h3
 obtain ⟨c,_,e0,c48,c57⟩:=hget 0 h0
 have d1:(((s[0]'h0).toNat:Int) == 45)=false:=by rw [beq_eq_false_iff_ne,e0]; omega
 have HG:=Lib.hid hget
 have HV:=Lib.hid hval
 have HZ:=Lib.hid hsz
 clear hget hval hsz hch hs h19 hlen hpos
 go_enter Tryz.func65,Tryz.ntmps65
 by_cases h48:c.toNat=48
 · have hf:s.size=1:=by
    rcases hfirst with hf | hf
    · exact hf
    · rw [e0] at hf; exact absurd h48 hf
   have d2:(((s[0]'h0).toNat:Int) == 48)=true:=by rw [e0,h48]; rfl
   clear hfirst h48 c48 c57 e0
   go_wp2_with fail
   go_loopw [5,6] (fun u5 u6 wr=>∃ i:Nat,i≤s.size∧u6=.int .i64 (i:Nat)∧u5=.int .u64 ((valL 0 ((Lib.decDigits u).take i):Nat):Int)∧wr=w) (fun _ u6 _=>s.size - (intOf u6).toNat)
   case atStart=>exact ⟨0,Nat.zero_le _,rfl,rfl,by first | rfl | trivial⟩
   case round =>
    obtain ⟨i,hi,rfl,rfl,rfl⟩:=hrel
    by_cases hlt:i < s.size
    · obtain ⟨x,hx,ex,x48,x57⟩:=HG.out i hlt
      obtain ⟨hk,hx2⟩:=List.getElem?_eq_some_iff.1 hx
      have hnext:=valL_next (l:=Lib.decDigits u) (k:=i) hk
      rw [hx2] at hnext
      have hle:valL 0 ((Lib.decDigits u).take (i+1))≤u:=by
       have:=valL_take (l:=Lib.decDigits u) (k:=i+1)
       rw [HV.out] at this
       exact this
      rw [hnext] at hle
      generalize hv:valL 0 ((Lib.decDigits u).take i)=v at *
      have ev:((s[i]'hlt).toNat:Int)=(x.toNat:Int):=by rw [ex]
      generalize hxn:x.toNat=xn at *
      have hsub:((xn:Nat):Int) - 48=((xn - 48:Nat):Int):=by omega
      have HNX:=Lib.hid hnext
      have HSB:=Lib.hid hsub
      clear hx hx2 hk hnext hv hxn ex hsub
      go_wp2_with fail
      go_roundw
      case rel =>
       refine ⟨i+1,by omega,by go_num, ?_,by first | rfl | trivial⟩
       rw [HNX.out]
       congr 1
       omega
      case measure=>simp [intOf]; omega
    · have hi2:i=(Lib.decDigits u).length:=by have:=HZ.out; omega
      have hiv:valL 0 ((Lib.decDigits u).take i)=u:=by rw [hi2,List.take_length]; exact HV.out
      rw [hiv]
      clear hi2 hiv
      go_wp2
      go_ret2
      refine ⟨?_,by first | rfl | trivial⟩
      show Ending.returned (.tuple #[.int .i64 (u:Int),.bool (decide ((u:Int)≤9223372036854775807))])=_
      rw [decide_eq_true (show (u:Int)≤9223372036854775807 by omega)]
 · have d2:(((s[0]'h0).toNat:Int) == 48)=false:=by rw [beq_eq_false_iff_ne,e0]; omega
   have hne0:((0:Int) == (s.size:Int))=false:=by rw [beq_eq_false_iff_ne]; omega
   clear hfirst h48 c48 c57 e0
   go_wp2_with fail
   go_loopw [5,6] (fun u5 u6 wr=>∃ i:Nat,i≤s.size∧u6=.int .i64 (i:Nat)∧u5=.int .u64 ((valL 0 ((Lib.decDigits u).take i):Nat):Int)∧wr=w) (fun _ u6 _=>s.size - (intOf u6).toNat)
   case atStart=>exact ⟨0,Nat.zero_le _,rfl,rfl,by first | rfl | trivial⟩
   case round =>
    obtain ⟨i,hi,rfl,rfl,rfl⟩:=hrel
    by_cases hlt:i < s.size
    · obtain ⟨x,hx,ex,x48,x57⟩:=HG.out i hlt
      obtain ⟨hk,hx2⟩:=List.getElem?_eq_some_iff.1 hx
      have hnext:=valL_next (l:=Lib.decDigits u) (k:=i) hk
      rw [hx2] at hnext
      have hle:valL 0 ((Lib.decDigits u).take (i+1))≤u:=by
       have:=valL_take (l:=Lib.decDigits u) (k:=i+1)
       rw [HV.out] at this
       exact this
      rw [hnext] at hle
      generalize hv:valL 0 ((Lib.decDigits u).take i)=v at *
      have ev:((s[i]'hlt).toNat:Int)=(x.toNat:Int):=by rw [ex]
      generalize hxn:x.toNat=xn at *
      have hsub:((xn:Nat):Int) - 48=((xn - 48:Nat):Int):=by omega
      have HNX:=Lib.hid hnext
      have HSB:=Lib.hid hsub
      clear hx hx2 hk hnext hv hxn ex hsub
      go_wp2_with fail
      go_roundw
      case rel =>
       refine ⟨i+1,by omega,by go_num, ?_,by first | rfl | trivial⟩
       rw [HNX.out]
       congr 1
       omega
      case measure=>simp [intOf]; omega
    · have hi2:i=(Lib.decDigits u).length:=by have:=HZ.out; omega
      have hiv:valL 0 ((Lib.decDigits u).take i)=u:=by rw [hi2,List.take_length]; exact HV.out
      rw [hiv]
      clear hi2 hiv
      go_wp2
      go_ret2
      refine ⟨?_,by first | rfl | trivial⟩
      show Ending.returned (.tuple #[.int .i64 (u:Int),.bool (decide ((u:Int)≤9223372036854775807))])=_
      rw [decide_eq_true (show (u:Int)≤9223372036854775807 by omega)]
set_option maxRecDepth 20000 in
set_option maxHeartbeats 4000000 in
theorem RNumNeg_c (u:Nat) (hu1:1≤u) (hu:u≤9223372036854775808) (s:ByteArray) (hs:s.data.toList=45 :: Lib.decDigits u) (w:World) :
 Calls Tryz.prog 65 #[.string s] w fun e w'=>e=.returned (.tuple #[.int .i64 (-(u:Int)),.bool true])∧w'=w:=by
 have h19:u < 10 ^ (18+1):=by
  have h5:(10:Nat) ^ (18+1)=10000000000000000000:=by decide
  omega
 have hlen:=dec_len 18 u h19
 have hpos:=dec_pos' u
 have hsz:s.size=(Lib.decDigits u).length+1:=by rw [Lib.size_eq,hs]; rfl
 have hch:=dec_chars 18 u h19
 have hval:=dec_val 18 u h19
 have hget:∀ k (h:k+1 < s.size),∃ c:UInt8,(Lib.decDigits u)[k]?=some c∧(s[k+1]'h)=c∧48≤c.toNat∧c.toNat≤57:=by
  intro k h
  have hk:k < (Lib.decDigits u).length:=by omega
  refine ⟨(Lib.decDigits u)[k],List.getElem?_eq_getElem hk, ?_,hch _ (List.getElem_mem hk)⟩
  have:=Lib.getD_at s (k+1) h
  rw [hs,List.getD_eq_getElem?_getD,List.getElem?_cons_succ,List.getElem?_eq_getElem hk] at this
  simpa using this
 obtain ⟨n,hn⟩:∃ n,n=(Lib.decDigits u).length:=⟨_,rfl⟩
 rw [← hn] at hsz hlen hpos
 have h0:0 < s.size:=by omega
 have h1:1 < s.size:=by omega
 have hfirst:(s[1]'h1).toNat ≠ 48:=by
  have h3:=dec_first 18 u h19 hu1
  have h4:=Lib.getD_at s 1 h1
  rw [hs,List.getD_eq_getElem?_getD,List.getElem?_cons_succ,← List.getD_eq_getElem?_getD] at h4
  rw [← h4] at h3
  exact h3
 have d1:(((s[0]'h0).toNat:Int) == 45)=true:=by
  have h4:=Lib.getD_at s 0 h0
  rw [hs] at h4
  have h5:(s[0]'h0)=45:=h4
  rw [h5]; rfl
 have d2:(((s[1]'h1).toNat:Int) == 48)=false:=by rw [beq_eq_false_iff_ne]; omega
 have hne0:((1:Int) == (s.size:Int))=false:=by rw [beq_eq_false_iff_ne]; omega
 have hs20:s.size≤20:=by omega
 have HG:=Lib.hid hget
 have HV:=Lib.hid hval
 have HN:=Lib.hid hn
 have HZ:=Lib.hid hsz
 clear hget hval hsz hch hs h19 hlen hpos hfirst hn
 go_enter Tryz.func65,Tryz.ntmps65
 go_wp2_with fail
 go_loopw [5,6] (fun u5 u6 wr=>∃ i:Nat,i≤n∧u6=.int .i64 ((i+1:Nat):Int)∧u5=.int .u64 ((valL 0 ((Lib.decDigits u).take i):Nat):Int)∧wr=w) (fun _ u6 _=>s.size - (intOf u6).toNat)
 case atStart=>exact ⟨0,Nat.zero_le _,rfl,rfl,by first | rfl | trivial⟩
 case round =>
  obtain ⟨i,hi,rfl,rfl,rfl⟩:=hrel
  have hzz:=HZ.out
  obtain ⟨j,hj⟩:∃ j,j=i+1:=⟨_,rfl⟩
  rw [← hj]
  by_cases hlt:i+1 < s.size
  · obtain ⟨x,hx,ex,x48,x57⟩:=HG.out i hlt
    obtain ⟨hk,hx2⟩:=List.getElem?_eq_some_iff.1 hx
    have hnext:=valL_next (l:=Lib.decDigits u) (k:=i) hk
    rw [hx2] at hnext
    have hle:valL 0 ((Lib.decDigits u).take (i+1))≤u:=by
     have:=valL_take (l:=Lib.decDigits u) (k:=i+1)
     rw [HV.out] at this
     exact this
    rw [hnext] at hle
    generalize hv:valL 0 ((Lib.decDigits u).take i)=v at *
    have hlt2:j < s.size:=by omega
    have ev:((s[j]'hlt2).toNat:Int)=(x.toNat:Int):=by subst hj; rw [ex]
    generalize hxn:x.toNat=xn at *
    have HNX:=Lib.hid hnext
    have HJ:=Lib.hid hj
    have hln:i+1≤n:=by omega
    clear hx hx2 hk hnext hv hxn ex hj hzz hlt
    go_wp2_with fail
    go_roundw
    case rel =>
     refine ⟨i+1,by omega, ?_, ?_,by first | rfl | trivial⟩
     · rw [← HJ.out]; go_num
     · rw [HNX.out]
       congr 1
       omega
    case measure=>simp [intOf]; omega
  · have hi2:i=(Lib.decDigits u).length:=by have:=HN.out; omega
    have hiv:valL 0 ((Lib.decDigits u).take i)=u:=by rw [hi2,List.take_length]; exact HV.out
    have hjs:¬ j < s.size:=by omega
    have hw1:IntKind.i64.wrap (IntKind.u64.wrap (-(u:Int)))=-(u:Int):=by
     rw [IntKind.wrap_u64,IntKind.wrap_i64]; omega
    rw [hiv]
    clear hi2 hiv hlt hj hzz
    go_wp2
    go_ret2
    refine ⟨?_,by first | rfl | trivial⟩
    show Ending.returned (.tuple #[.int .i64 (-(u:Int)),.bool (decide ((u:Int)≤9223372036854775808))])=_
    rw [decide_eq_true (show (u:Int)≤9223372036854775808 by omega)]
theorem RNumT_c (n:Int) (hn:I64 n) (s:ByteArray) (hs:s.data.toList=Lib.itoa n) (w:World) :
 Calls Tryz.prog 65 #[.string s] w fun e w'=>e=.returned (.tuple #[.int .i64 n,.bool true])∧w'=w:=by
 obtain ⟨h0,h1⟩:=hn
 by_cases h:n < 0
 · obtain ⟨u,rfl⟩:∃ u:Nat,n=-(u:Int):=⟨n.natAbs,by omega⟩
   rw [Lib.itoa_neg u (by omega)] at hs
   exact RNumNeg_c u (by omega) (by omega) s hs w
 · obtain ⟨u,rfl⟩:∃ u:Nat,n=u:=⟨n.toNat,by omega⟩
   rw [Lib.itoa_nonneg] at hs
   exact RNumPos_c u (by omega) s hs w
end Go.Proofs.YtmalncfcgcebhaaGreatDoor
namespace Go.Proofs.YtmalncfcgcebhaaGreatDoor
set_option linter.unusedVariables false
open Go.Proofs Go.RowKit
set_option maxHeartbeats 1000000 in
theorem RText_c (n:Int) (h0:0≤n) (h1:n≤9223372036854775807) (w:World):Calls Tryz.prog 40 #[.int .i64 n] w fun e w'=>e=.returned (strV (Lib.itoa n))∧Ext w w':=by
 have HO:=fun w'=>Lib.hid (OfInt_c n ⟨by omega,h1⟩ w')
 have HT:=fun w'=>Lib.hid (LTextPos_c n h0 (by omega) w')
 have hit:Lib.itoa n=Lib.decDigits n.toNat:=by unfold Lib.itoa; rw [if_neg (by omega)]
 rw [hit]
 clear hit
 go_enter Tryz.func40,Tryz.ntmps40
 go_wp2_with fail
 refine Calls.mono (HO _).out ?_
 rintro e w1 ⟨rfl,hx1⟩
 have HX1:=Lib.hid hx1
 clear hx1
 have hlv:∃ v,longV n=.agg v:=⟨_,rfl⟩
 generalize longV n=V at *
 obtain ⟨v,rfl⟩:=hlv
 go_wp2_with fail
 refine Calls.mono (HT _).out ?_
 rintro e w2 ⟨rfl,hx2⟩
 unfold strV
 go_wp2
 go_ret
 exact ⟨rfl,HX1.out.trans' hx2⟩
end Go.Proofs.YtmalncfcgcebhaaGreatDoor
namespace Go.Proofs.YtmalncfcgcebhaaGreatDoor
set_option linter.unusedVariables false
open Go.RowKit
theorem fillA_congr {f g:Nat → Int} (h:∀ j,j < 10 → f j=g j):fillA f 10 10=fillA g 10 10:=by
 apply Array.ext
 · simp [fillA]
 · intro i h1 h2
   have hi:i < 10:=by simpa [fillA] using h1
   simp [fillA,h i hi]
theorem fillA_put (f:Nat → Int) (m:Nat) (v:Int) (hm:m < 10):(fillA f 10 10).setIfInBounds m (.int .i64 v)=fillA (fun j=>if j=m then v else f j) 10 10:=by
 apply Array.ext
 · simp [fillA]
 · intro i h1 h2
   have hi:i < 10:=by simpa [fillA] using h1
   by_cases he:m=i
   · subst he; simp [fillA]
   · have he':¬ i=m:=fun h=>he h.symm
     simp [fillA,hi,he,he']
def LongAt (w:World) (b:Nat) (a:Nat → Int):Prop:=w.heap[b]?=some (.cells (fillA a 10 10) 155 (0,0))
theorem LongAt.cell {w:World} {b:Nat} {a:Nat → Int} (h:LongAt w b a) {k:Nat} (hk:k < 10):w.cell? ⟨b,k,none⟩=some (.int .i64 (a k)):=by
 rw [cell_of h,fillA_at a 10 10 k hk,if_pos hk]
theorem LongAt.keep {w w':World} {b:Nat} {a:Nat → Int} (h:LongAt w b a) (he:w'.heap[b]?=w.heap[b]?):LongAt w' b a:=he.trans h
theorem LongAt.congr {w:World} {b:Nat} {f g:Nat → Int} (h:LongAt w b f) (he:∀ j,j < 10 → f j=g j):LongAt w b g:=by
 unfold LongAt at *; rw [← fillA_congr he]; exact h
theorem LongAt.put {w:World} {b:Nat} {f:Nat → Int} (h:LongAt w b f) {m:Nat} (hm:m < 10) (v:Int):LongAt (w.setCell ⟨b,m,none⟩ (.int .i64 v)) b (fun j=>if j=m then v else f j):=by
 unfold LongAt at *
 rw [setCell_same h m,fillA_put f m v hm]
theorem fin10 {Φ:World → Prop} {w W:World} {b:Nat} {x0 x1 x2 x3 x4 x5 x6 x7 x8 x9:Value} {t:TypeId} (h:W.heap[b]?=some (.cells #[x0,x1,x2,x3,x4,x5,x6,x7,x8,x9] t (0,0))) (hE:Ext w W) (hb:w.heap.size≤b) {u0 u1 u2 u3 u4 u5 u6 u7 u8 u9:Value}
 (hΦ:∀ W':World,W'.heap[b]?=some (.cells #[u0,u1,u2,u3,u4,u5,u6,u7,u8,u9] t (0,0)) → Ext w W' → Φ W'):Φ ((((((((((W.setCell ⟨b,0,none⟩ u0).setCell ⟨b,1,none⟩ u1).setCell ⟨b,2,none⟩ u2).setCell ⟨b,3,none⟩ u3).setCell ⟨b,4,none⟩ u4).setCell ⟨b,5,none⟩ u5).setCell ⟨b,6,none⟩ u6).setCell ⟨b,7,none⟩ u7).setCell ⟨b,8,none⟩ u8).setCell ⟨b,9,none⟩ u9):=by
 have h0:(W.setCell ⟨b,0,none⟩ u0).heap[b]?=some (.cells #[u0,x1,x2,x3,x4,x5,x6,x7,x8,x9] t (0,0)):=setCell_same h 0 u0
 have h1:((W.setCell ⟨b,0,none⟩ u0).setCell ⟨b,1,none⟩ u1).heap[b]?=some (.cells #[u0,u1,x2,x3,x4,x5,x6,x7,x8,x9] t (0,0)):=setCell_same h0 1 u1
 have h2:(((W.setCell ⟨b,0,none⟩ u0).setCell ⟨b,1,none⟩ u1).setCell ⟨b,2,none⟩ u2).heap[b]?=some (.cells #[u0,u1,u2,x3,x4,x5,x6,x7,x8,x9] t (0,0)):=setCell_same h1 2 u2
 have h3:((((W.setCell ⟨b,0,none⟩ u0).setCell ⟨b,1,none⟩ u1).setCell ⟨b,2,none⟩ u2).setCell ⟨b,3,none⟩ u3).heap[b]?=some (.cells #[u0,u1,u2,u3,x4,x5,x6,x7,x8,x9] t (0,0)):=setCell_same h2 3 u3
 have h4:(((((W.setCell ⟨b,0,none⟩ u0).setCell ⟨b,1,none⟩ u1).setCell ⟨b,2,none⟩ u2).setCell ⟨b,3,none⟩ u3).setCell ⟨b,4,none⟩ u4).heap[b]?=some (.cells #[u0,u1,u2,u3,u4,x5,x6,x7,x8,x9] t (0,0)):=setCell_same h3 4 u4
 have h5:((((((W.setCell ⟨b,0,none⟩ u0).setCell ⟨b,1,none⟩ u1).setCell ⟨b,2,none⟩ u2).setCell ⟨b,3,none⟩ u3).setCell ⟨b,4,none⟩ u4).setCell ⟨b,5,none⟩ u5).heap[b]?=some (.cells #[u0,u1,u2,u3,u4,u5,x6,x7,x8,x9] t (0,0)):=setCell_same h4 5 u5
 have h6:(((((((W.setCell ⟨b,0,none⟩ u0).setCell ⟨b,1,none⟩ u1).setCell ⟨b,2,none⟩ u2).setCell ⟨b,3,none⟩ u3).setCell ⟨b,4,none⟩ u4).setCell ⟨b,5,none⟩ u5).setCell ⟨b,6,none⟩ u6).heap[b]?=some (.cells #[u0,u1,u2,u3,u4,u5,u6,x7,x8,x9] t (0,0)):=setCell_same h5 6 u6
 have h7:((((((((W.setCell ⟨b,0,none⟩ u0).setCell ⟨b,1,none⟩ u1).setCell ⟨b,2,none⟩ u2).setCell ⟨b,3,none⟩ u3).setCell ⟨b,4,none⟩ u4).setCell ⟨b,5,none⟩ u5).setCell ⟨b,6,none⟩ u6).setCell ⟨b,7,none⟩ u7).heap[b]?=some (.cells #[u0,u1,u2,u3,u4,u5,u6,u7,x8,x9] t (0,0)):=setCell_same h6 7 u7
 have h8:(((((((((W.setCell ⟨b,0,none⟩ u0).setCell ⟨b,1,none⟩ u1).setCell ⟨b,2,none⟩ u2).setCell ⟨b,3,none⟩ u3).setCell ⟨b,4,none⟩ u4).setCell ⟨b,5,none⟩ u5).setCell ⟨b,6,none⟩ u6).setCell ⟨b,7,none⟩ u7).setCell ⟨b,8,none⟩ u8).heap[b]?=some (.cells #[u0,u1,u2,u3,u4,u5,u6,u7,u8,x9] t (0,0)):=setCell_same h7 8 u8
 have h9:((((((((((W.setCell ⟨b,0,none⟩ u0).setCell ⟨b,1,none⟩ u1).setCell ⟨b,2,none⟩ u2).setCell ⟨b,3,none⟩ u3).setCell ⟨b,4,none⟩ u4).setCell ⟨b,5,none⟩ u5).setCell ⟨b,6,none⟩ u6).setCell ⟨b,7,none⟩ u7).setCell ⟨b,8,none⟩ u8).setCell ⟨b,9,none⟩ u9).heap[b]?=some (.cells #[u0,u1,u2,u3,u4,u5,u6,u7,u8,u9] t (0,0)):=setCell_same h8 9 u9
 exact hΦ _ h9 ((((((((((hE.setR (p:=⟨b,0,none⟩) hb _).setR (p:=⟨b,1,none⟩) hb _).setR (p:=⟨b,2,none⟩) hb _).setR (p:=⟨b,3,none⟩) hb _).setR (p:=⟨b,4,none⟩) hb _).setR (p:=⟨b,5,none⟩) hb _).setR (p:=⟨b,6,none⟩) hb _).setR (p:=⟨b,7,none⟩) hb _).setR (p:=⟨b,8,none⟩) hb _).setR (p:=⟨b,9,none⟩) hb _)
theorem not_dg (x:Int) (i:Nat):65535 - dg x i=dg (-1 - x) i:=by
 have hp:=pw_pos i
 unfold dg
 generalize (65536 ^ i:Int)=M at *
 have e:(-1 - x) / M=-1 - x / M:=by
  have h1:=Int.emod_add_mul_ediv x M
  have h2:=Int.emod_nonneg x (show M ≠ 0 by omega)
  have h3:=Int.emod_lt_of_pos x hp
  have h4:-1 - x=(M - 1 - x % M)+M * (-1 - x / M):=by rw [Int.mul_sub]; omega
  rw [h4,Int.add_mul_ediv_left _ _ (show M ≠ 0 by omega),Int.ediv_eq_zero_of_lt (by omega) (by omega)]
  omega
 rw [e]
 omega
theorem one_dg:longV 1=.agg #[.int .i64 1,.int .i64 0,.int .i64 0,.int .i64 0,.int .i64 0,.int .i64 0,.int .i64 0,.int .i64 0,.int .i64 0,.int .i64 0]:=by
 unfold longV longA
 rw [show dg 1 0=1 from by decide,show dg 1 1=0 from by decide,show dg 1 2=0 from by decide,show dg 1 3=0 from by decide,show dg 1 4=0 from by decide,show dg 1 5=0 from by decide,show dg 1 6=0 from by decide,show dg 1 7=0 from by decide,show dg 1 8=0 from by decide,show dg 1 9=0 from by decide]
set_option maxRecDepth 20000 in
set_option maxHeartbeats 8000000 in
theorem Minus_core (d S T:Nat → Int) (hd:∀ i,0≤d i∧d i≤65535) (hS:∀ i,65535 - d i=S i)
 (hP:∀ w':World,Calls Tryz.prog 158 #[longA S,longV 1] w' fun e w''=>e=.returned (longA T)∧Ext w' w'') (w:World) :
 Calls Tryz.prog 114 #[longA d] w fun e w'=>e=.returned (longA T)∧Ext w w':=by
 rw [one_dg] at hP
 unfold longA at hP ⊢
 have HD:=Lib.hid hd
 have HS:=Lib.hid hS
 have HP:=Lib.hid hP
 clear hd hS hP
 go_enter Tryz.func114,Tryz.ntmps114
 go_wp2_with fail
 go_loopw [4] (fun u wr=>∃ i:Nat,i≤10∧u=.int .i64 i∧Ext w wr∧LongAt wr w.heap.size d∧LongAt wr (w.heap.size+1) (fun _=>0)∧LongAt wr (w.heap.size+1+1) (fun j=>if j < i then S j else 0)) (fun u _=>10 - (intOf u).toNat)
 case atStart =>
  refine ⟨0,Nat.zero_le _,rfl,((Ext.alloc' _ _).allocR _).allocR _, ?_, ?_, ?_⟩
  · unfold LongAt
    rw [fill10,heap_old _ _ (by simp only [size_alloc]; omega),heap_old _ _ (by simp only [size_alloc]; omega)]
    exact heap_at _ _ rfl
  · unfold LongAt
    rw [fill10,heap_old _ _ (by simp only [size_alloc]; omega)]
    exact heap_at _ _ (by simp only [size_alloc])
  · unfold LongAt
    rw [fill10]
    exact heap_at _ _ (by simp only [size_alloc])
 case round =>
  obtain ⟨i,hi,rfl,hE,hA,hR,hO⟩:=hrel
  by_cases hlt:i < 10
  · have x0:=hA.cell hlt
    have hb:=HD.out i
    have hs:=HS.out i
    have y0:=hO.cell hlt
    have f0:wr.frozen? ⟨w.heap.size+1+1,i,none⟩=false:=frozen_of hO i
    have l0:=lt_of hA
    have l2:=lt_of hO
    obtain ⟨hb1,hb2⟩:=hb
    generalize hdi:d i=di at *
    have HA:=Lib.hid hA
    have HR:=Lib.hid hR
    have HO:=Lib.hid hO
    have HSI:=Lib.hid hs
    clear hA hR hO hs hdi
    go_wp2
    go_roundw
    case rel =>
     refine ⟨i+1,by omega,by go_num,hE.setR (p:=⟨w.heap.size+1+1,i,none⟩) (by show _≤w.heap.size+1+1; omega) _,HA.out.keep (setCell_other _ _ (by omega)),HR.out.keep (setCell_other _ _ (by omega)), ?_⟩
     rw [HSI.out]
     refine (HO.out.put hlt (S i)).congr (fun j hj=>?_)
     by_cases e:j=i
     · subst e; rw [if_pos rfl,if_pos (by omega)]
     · rw [if_neg e]
       by_cases h:j < i
       · rw [if_pos h,if_pos (by omega)]
       · rw [if_neg h,if_neg (by omega)]
    case measure=>simp [intOf]; omega
  · obtain rfl:i=10:=by omega
    have hO':LongAt wr (w.heap.size+1+1) S:=hO.congr (fun j hj=>if_pos hj)
    have z0:=hO'.cell (k:=0) (by decide)
    have z1:=hO'.cell (k:=1) (by decide)
    have z2:=hO'.cell (k:=2) (by decide)
    have z3:=hO'.cell (k:=3) (by decide)
    have z4:=hO'.cell (k:=4) (by decide)
    have z5:=hO'.cell (k:=5) (by decide)
    have z6:=hO'.cell (k:=6) (by decide)
    have z7:=hO'.cell (k:=7) (by decide)
    have z8:=hO'.cell (k:=8) (by decide)
    have z9:=hO'.cell (k:=9) (by decide)
    have l2:=lt_of hO'
    have lR:=lt_of hR
    have HR:=Lib.hid hR
    clear hA hO hO' hR
    go_wp2_with fail
    refine Calls.mono (HP.out _) ?_
    rintro e w5 ⟨rfl,hx5⟩
    have hR5:w5.heap[w.heap.size+1]?=some (.cells (fillA (fun _=>0) 10 10) 155 (0,0)):=by
     refine hx5.keep ?_
     rw [heap_old _ _ lR]
     exact HR.out
    have hE5:Ext w w5:=by
     exact (hE.allocR _).trans' hx5
    rw [fill10] at hR5
    have p0:=(cell_of hR5 0).trans rfl
    have f0:=frozen_of hR5 0
    have p1:=(cell_of hR5 1).trans rfl
    have f1:=frozen_of hR5 1
    have p2:=(cell_of hR5 2).trans rfl
    have f2:=frozen_of hR5 2
    have p3:=(cell_of hR5 3).trans rfl
    have f3:=frozen_of hR5 3
    have p4:=(cell_of hR5 4).trans rfl
    have f4:=frozen_of hR5 4
    have p5:=(cell_of hR5 5).trans rfl
    have f5:=frozen_of hR5 5
    have p6:=(cell_of hR5 6).trans rfl
    have f6:=frozen_of hR5 6
    have p7:=(cell_of hR5 7).trans rfl
    have f7:=frozen_of hR5 7
    have p8:=(cell_of hR5 8).trans rfl
    have f8:=frozen_of hR5 8
    have p9:=(cell_of hR5 9).trans rfl
    have f9:=frozen_of hR5 9
    have l5:=lt_of hR5
    have HR5:=Lib.hid hR5
    clear hR5 hx5 z0 z1 z2 z3 z4 z5 z6 z7 z8 z9
    go_wp2_with fail
    refine fin10 (Φ:=fun W'=>bodyPost _ _ _ _ _ W') HR5.out hE5 (Nat.le_succ _) (fun W' hW hEW=>?_)
    clear p0 f0 p1 f1 p2 f2 p3 f3 p4 f4 p5 f5 p6 f6 p7 f7 p8 f8 p9 f9
    have r0:=(cell_of hW 0).trans rfl
    have r1:=(cell_of hW 1).trans rfl
    have r2:=(cell_of hW 2).trans rfl
    have r3:=(cell_of hW 3).trans rfl
    have r4:=(cell_of hW 4).trans rfl
    have r5:=(cell_of hW 5).trans rfl
    have r6:=(cell_of hW 6).trans rfl
    have r7:=(cell_of hW 7).trans rfl
    have r8:=(cell_of hW 8).trans rfl
    have r9:=(cell_of hW 9).trans rfl
    refine bodyPost_ret (v:=.agg #[.int .i64 (T 0),.int .i64 (T 1),.int .i64 (T 2),.int .i64 (T 3),.int .i64 (T 4),.int .i64 (T 5),.int .i64 (T 6),.int .i64 (T 7),.int .i64 (T 8),.int .i64 (T 9)]) ?_ rfl ⟨rfl,hEW⟩
    simp [results,Tryz.results114,go_sem,r0,r1,r2,r3,r4,r5,r6,r7,r8,r9]
theorem LMinus_c (x:Int) (w:World):Calls Tryz.prog 114 #[longV x] w fun e w'=>e=.returned (longV (-x))∧Ext w w' :=
 Minus_core (dg x) (dg (-1 - x)) (dg (-x)) (dg_bd x) (not_dg x) (fun w'=>by have:=LPlus_c (-1 - x) 1 w'; rw [show -1 - x+1=-x by omega] at this; exact this) w
end Go.Proofs.YtmalncfcgcebhaaGreatDoor
