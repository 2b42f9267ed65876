/- Part. No condition. -/
import Derived.Test.YtmalncfcgcebhaaGreatDoorDTopHeavy4
import Derived.Test.YtmalncfcgcebhaaGreatDoorDTopHeavy11
import Derived.Test.YtmalncfcgcebhaaGreatDoorDTopHeavy8
import Derived.Test.YtmalncfcgcebhaaGreatDoorDTopHeavy6
import Derived.Test.YtmalncfcgcebhaaGreatDoorDTopHeavy9
import Derived.Maps.AppendAt
namespace Go.Proofs.YtmalncfcgcebhaaGreatDoor
set_option linter.unusedVariables false
open Go.Proofs Go.RowKit
attribute [local go_sem] Oper.semAt_some
def splitL:List UInt8→List (List UInt8)
 | []=>[[]]
 | c :: r=>if c=10 then [] :: splitL r else (c :: (splitL r).headD []) :: (splitL r).tail
theorem splitL_ne (l:List UInt8):splitL l≠[]:=by
 cases l with
 | nil=>simp [splitL]
 | cons c r=>unfold splitL; split <;> simp
theorem splitL_app (l r:List UInt8):splitL (l++10 :: r)=splitL l++splitL r:=by
 induction l with
 | nil=>simp [splitL]
 | cons c l ih =>
   rw [List.cons_append,splitL,splitL,ih]
   by_cases h:c=10
   · rw [if_pos h,if_pos h]; rfl
   · rw [if_neg h,if_neg h]
     obtain ⟨x,t,e⟩:∃ x t,splitL l=x :: t:=by
      cases hs:splitL l with
      | nil=>exact absurd hs (splitL_ne l)
      | cons x t=>exact ⟨x,t,rfl⟩
     rw [e]
     rfl
theorem ixb_ge (c:UInt8):∀ l:List UInt8,-1≤Lib.indexByte l c
 | []=>by simp [Lib.indexByte]
 | b :: l=>by
   have:=ixb_ge c l
   unfold Lib.indexByte
   split
   · omega
   · split <;> omega
theorem ixb_eq (c:UInt8) (l:List UInt8):Lib.indexByte (c :: l) 10=if c=10 then 0 else if Lib.indexByte l 10 < 0 then -1 else Lib.indexByte l 10+1:=by
 have h1:=ixb_ge 10 l
 show (if (c == 10)=true then (0:Int) else if (Lib.indexByte l 10 == -1)=true then -1 else Lib.indexByte l 10+1)=_
 by_cases hc:c=10
 · rw [if_pos (by simpa using hc),if_pos hc]
 · rw [if_neg (by simpa using hc),if_neg hc]
   by_cases h2:Lib.indexByte l 10 < 0
   · rw [if_pos (by simp; omega),if_pos h2]
   · rw [if_neg (by simp; omega),if_neg h2]
theorem splitL_none {l:List UInt8} (h:Lib.indexByte l 10 < 0):splitL l=[l]:=by
 induction l with
 | nil=>rfl
 | cons c l ih =>
   rw [ixb_eq] at h
   by_cases hc:c=10
   · subst hc; simp at h
   · rw [if_neg hc] at h
     have h2:Lib.indexByte l 10 < 0:=by
      by_cases h3:Lib.indexByte l 10 < 0
      · exact h3
      · rw [if_neg h3] at h; omega
     rw [splitL,if_neg hc,ih h2]
     rfl
theorem indexByte_split {l:List UInt8} {j:Nat} (h:Lib.indexByte l 10=(j:Int)):∃ a b,l=a++10 :: b∧a.length=j∧∀ c∈a,c≠10:=by
 induction l generalizing j with
 | nil=>simp [Lib.indexByte] at h
 | cons c l ih =>
   rw [ixb_eq] at h
   by_cases hc:c=10
   · rw [if_pos hc] at h
     exact ⟨[],l,by rw [hc]; rfl,by simp; omega,by simp⟩
   · rw [if_neg hc] at h
     by_cases h3:Lib.indexByte l 10 < 0
     · rw [if_pos h3] at h; omega
     · rw [if_neg h3] at h
       obtain ⟨a,b,h4,h5,h6⟩:=ih (j:=j - 1) (by omega)
       refine ⟨c :: a,b,by rw [h4]; rfl,by simp; omega,fun d hd=>?_⟩
       rcases List.mem_cons.1 hd with rfl | hd
       · exact hc
       · exact h6 d hd
theorem splitL_word {a:List UInt8} (h:∀ c∈a,c≠10):splitL a=[a]:=by
 induction a with
 | nil=>rfl
 | cons c a ih =>
   rw [splitL,if_neg (h c (by simp)),ih (fun d hd=>h d (by simp [hd]))]
   rfl
theorem splitL_some {l:List UInt8} {j:Nat} (h:Lib.indexByte l 10=(j:Int)):j < l.length∧splitL l=l.take j :: splitL (l.drop (j+1)):=by
 obtain ⟨a,b,rfl,rfl,h6⟩:=indexByte_split h
 refine ⟨by simp, ?_⟩
 rw [splitL_app,splitL_word h6]
 simp
theorem SIxByte_c (s:ByteArray) (c:Int) (w:World) :
 Calls Tryz.prog 162 #[.string s,.int .u8 c] w fun e w'=>e=.returned (.int .i64 (Lib.indexByte s.data.toList c.toNat.toUInt8))∧w'=w:=Any.stringslite_IndexByte { Tryz.ixbL with } s c w
set_option maxRecDepth 20000 in
set_option maxHeartbeats 4000000 in
theorem SIndex_c (s:ByteArray) (w:World) :
 Calls Tryz.prog 203 #[.string s,.string ⟨#[10]⟩] w fun e w'=>e=.returned (.int .i64 (Lib.indexByte s.data.toList 10))∧w'=w:=by
 by_cases hs:s=⟨#[10]⟩
 · subst hs
   go_enter Tryz.func203,Tryz.ntmps203
   go_wp2_with fail
   go_ret
   exact ⟨rfl,rfl⟩
 · have hbe:(([10]:List UInt8) == s.toList)=false:=by
    rw [beq_eq_false_iff_ne]
    intro e
    have h2:s=⟨s.toList.toArray⟩:=by rw [Lib.toList_data]
    rw [← e] at h2
    exact hs h2
   have hc0:(⟨#[10]⟩:ByteArray)[0].toNat=10:=rfl
   go_enter Tryz.func203,Tryz.ntmps203
   go_wp2_with fail
   refine Calls.mono (SIxByte_c s _ w) ?_
   rintro e w1 ⟨rfl,rfl⟩
   go_wp2
   go_ret
   exact ⟨rfl,rfl⟩
theorem Index_c (s:ByteArray) (w:World) :
 Calls Tryz.prog 160 #[.string s,.string ⟨#[10]⟩] w fun e w'=>e=.returned (.int .i64 (Lib.indexByte s.data.toList 10))∧w'=w:=by
 have HS:=Lib.hid (SIndex_c s w)
 go_enter Tryz.func160,Tryz.ntmps160
 go_wp2_with fail
 refine Calls.mono HS.out ?_
 rintro e w1 ⟨rfl,rfl⟩
 go_wp2
 go_ret
 exact ⟨rfl,rfl⟩
theorem SplitSeq_c (s:ByteArray) (w:World) :
 Calls Tryz.prog 77 #[.string s,.string ⟨#[10]⟩] w fun e w'=>e=.returned (.func (.func 159) #[] #[.pointer (some ⟨w.heap.size+1,0,none⟩),.pointer (some ⟨w.heap.size,0,none⟩),.pointer (some ⟨w.heap.size+2,0,none⟩)]) ∧
  w'=((w.alloc (.cells #[.string s] 9)).alloc (.cells #[.string ⟨#[10]⟩] 9)).alloc (.cells #[.int .i64 0] 3):=by
 have hmf:∀ (fn:Fn) (first cap:Array Value) (w:World),(Instr.makeFunc fn first cap).run Tryz.prog w=.ok (.func fn first cap) w:=fun _ _ _ _=>rfl
 go_enter Tryz.func77,Tryz.ntmps77
 go_wp2
 go_ret
 exact ⟨rfl,rfl⟩
def bx3 (a b c:Nat) (k:Nat):Prop:=k=a∨k=b∨k=c
def leftS (Bs:Nat) (W:World):Nat:=match W.cell? ⟨Bs,0,none⟩ with | some (.string s)=>s.size | _=>0
set_option maxRecDepth 100000 in
set_option maxHeartbeats 4000000 in
theorem split_in (n Bq Bs Bv:Nat) (t:ByteArray) (ht:t.size≤100000000) (w:World) (hq:w.heap[Bq]?=some (.cells #[.string ⟨#[10]⟩] 9 (0,0))) (hs:w.heap[Bs]?=some (.cells #[.string t] 9 (0,0))) (hv:w.heap[Bv]?=some (.cells #[.int .i64 0] 3 (0,0))) (nq:Bq≠Bs) (nv:Bv≠Bs) :
 CellSeq Tryz.prog n 159 #[.pointer (some ⟨Bq,0,none⟩),.pointer (some ⟨Bs,0,none⟩),.pointer (some ⟨Bv,0,none⟩)] (fun k x=>∃ s:ByteArray,x=.string s∧(splitL t.data.toList)[k]?=some s.data.toList) (splitL t.data.toList).length (bx3 Bq Bs Bv) Bs w:=by
 intro l J W hbx hJ hY h0
 have hq:=(hbx Bq (.inl rfl)).trans hq
 have hs:=(hbx Bs (.inr (.inl rfl))).trans hs
 have hv:=(hbx Bv (.inr (.inr rfl))).trans hv
 refine callsIn_of_wp Tryz.func159 rfl trivial ?_ rfl
 simp only [Tryz.ntmps159,List.size_toArray,List.length_cons,List.length_nil,Nat.reduceAdd,Nat.reduceSub,Array.replicate_succ,Array.replicate_zero,List.push_toArray,List.append_toArray,List.nil_append,List.cons_append]
 have c0:=(cell_of hq 0).trans rfl
 gi_wp2
 gi_loopw [7,8] (fun _ _ wr=>∃ (s:ByteArray) (pre:List (List UInt8)),splitL t.data.toList=pre++splitL s.data.toList∧s.size≤t.size∧wr.heap[Bq]?=some (.cells #[.string ⟨#[10]⟩] 9 (0,0))∧wr.heap[Bs]?=some (.cells #[.string s] 9 (0,0))∧wr.heap[Bv]?=some (.cells #[.int .i64 0] 3 (0,0))∧J pre.length wr)
  (fun _ _ wr=>leftS Bs wr)
 case atStart=>exact ⟨t,[],rfl,Nat.le_refl _,hq,hs,hv,h0⟩
 case round =>
  obtain ⟨s,pre,hp,hz,rq,rs,rv,hJ0⟩:=hrel
  have q0:=(cell_of rq 0).trans rfl
  have s0:=(cell_of rs 0).trans rfl
  have sf:=frozen_of rs 0
  have sl:=lt_of rs
  have v0:=(cell_of rv 0).trans rfl
  have HL:leftS Bs wr=s.size:=by unfold leftS; rw [show wr.cell? ⟨Bs,0,none⟩=some (.string s) from s0]
  have HP:=Lib.hid hp
  have HLL:=Lib.hid HL
  have hzs:=Lib.size_eq s
  gi_wp2_with fail
  refine ⟨trivial,fun h=>(by cases h),(callsIn_wide.2 (Index_c s _)).mono ?_⟩
  rintro e w1 ⟨rfl,rfl⟩
  by_cases hlt:Lib.indexByte s.data.toList 10 < 0
  · have hsp:=splitL_none hlt
    rw [hsp] at hp
    have HP2:=Lib.hid hp
    have hlen:(splitL t.data.toList).length=pre.length+1:=by rw [hp]; simp
    obtain ⟨fn,tmps,assign,body,hy,hR⟩:=hY pre.length (.string s) w1 hJ0 (by omega) ⟨s,rfl,by rw [hp]; simp⟩
    generalize Lib.indexByte s.data.toList 10=ix at *
    clear hp hsp
    gi_wp2
    refine ⟨fun h=>(by cases h),hR.mono ?_⟩
    rintro e W3 ⟨rfl,hJ3,hb3⟩
    gi_wp2
    go_end0
    rw [hlen]
    exact ⟨⟨_,rfl⟩,hJ3⟩
  · obtain ⟨j,hj⟩:∃ j:Nat,Lib.indexByte s.data.toList 10=(j:Int):=⟨(Lib.indexByte s.data.toList 10).toNat,by omega⟩
    obtain ⟨hjl,hsp⟩:=splitL_some hj
    rw [hj]
    rw [hsp] at hp
    have hlen:(splitL t.data.toList).length=pre.length+1+(splitL (s.data.toList.drop (j+1))).length:=by rw [hp]; simp; omega
    have hpos:=List.length_pos_iff.2 (splitL_ne (s.data.toList.drop (j+1)))
    obtain ⟨fn,tmps,assign,body,hy,hR⟩:=hY pre.length (.string (s.extract 0 j)) w1 hJ0 (by omega) ⟨_,rfl,by rw [hp,Lib.extract_data]; simp⟩
    have HP2:=Lib.hid hp
    have hjs:(j:Int)≤(s.size:Int):=by omega
    have hsl:∀ W,(Instr.slice 9 (.string s) none (some (.int .i64 (j:Int))) none).run Tryz.prog W=.ok (.string (s.extract 0 j)) W:=fun W=>by
     rw [run_slice_string_to_if (w:=W) 9 s .i64 _ Tryz.underlying9,if_pos ⟨by omega,by omega⟩]; rfl
    obtain ⟨m,hm⟩:∃ m:Nat,(j:Int)+1=(m:Int):=⟨j+1,by omega⟩
    have hmj:m=j+1:=by omega
    have hms:(m:Int)≤(s.size:Int):=by omega
    have hmt:(m:Int).toNat=m:=by omega
    have hsl2:∀ W,(Instr.slice 9 (.string s) (some (.int .i64 (m:Int))) none none).run Tryz.prog W=.ok (.string (s.extract m s.size)) W:=fun W=>by
     rw [run_slice_string_from_if (w:=W) 9 s .i64 _ Tryz.underlying9,if_pos ⟨by omega,by omega⟩]; rfl
    have HMJ:=Lib.hid hmj
    clear hp hsp hj hlt hjl hpos hmj
    gi_wp2
    refine ⟨fun h=>(by cases h),hR.mono ?_⟩
    rintro e W3 ⟨rfl,hJ3,hb3⟩
    have rq3:=(hb3 Bq (.inl rfl)).trans rq
    have rs3:=(hb3 Bs (.inr (.inl rfl))).trans rs
    have rv3:=(hb3 Bv (.inr (.inr rfl))).trans rv
    have q0':=(cell_of rq3 0).trans rfl
    have s0':=(cell_of rs3 0).trans rfl
    have sf':=frozen_of rs3 0
    have sl':=lt_of rs3
    have HJ3:=Lib.hid hJ3
    have HRQ:=Lib.hid rq3
    have HRS:=Lib.hid rs3
    have HRV:=Lib.hid rv3
    have v0':=(cell_of rv3 0).trans rfl
    clear q0 s0 sf sl v0 hb3 hJ3 hR hy rq rs rv hq hs hv hJ0 rq3 rs3 rv3 HL
    gi_wp2
    refine ⟨fun _ _=>trivial, ?_⟩
    simp [go_sem,Oper.semAt,execOp,hsl2]
    gi_wp2
    refine ⟨fun _ _=>trivial, ?_⟩
    simp [go_sem,Oper.semAt,execOp,s0',sf']
    gi_wp2
    go_roundw
    case rel =>
     refine ⟨s.extract m s.size,pre++[s.data.toList.take j], ?_, ?_,(setCell_other _ _ nq).trans HRQ.out,setCell_same HRS.out 0 _,(setCell_other _ _ nv).trans HRV.out, ?_⟩
     · rw [HP2.out,Lib.extract_data,HMJ.out]
       have:(s.data.toList.drop (j+1)).take (s.size - (j+1))=s.data.toList.drop (j+1):=List.take_of_length_le (by rw [List.length_drop,← hzs]; omega)
       rw [this]; simp
     · have:=Lib.size_eq (s.extract m s.size)
       rw [Lib.extract_data,List.length_take,List.length_drop] at this
       have:=HMJ.out
       omega
     · rw [List.length_append,List.length_singleton]
       exact hJ _ _ _ HJ3.out
    case measure =>
     have e1:leftS Bs (W3.setCell ⟨Bs,0,none⟩ (.string (s.extract m s.size)))=(s.extract m s.size).size:=by
      unfold leftS
      rw [show (W3.setCell ⟨Bs,0,none⟩ (.string (s.extract m s.size))).cell? ⟨Bs,0,none⟩=some (.string (s.extract m s.size)) from (cell_of (setCell_same HRS.out 0 _) 0).trans rfl]
     rw [e1,HLL.out]
     have:=Lib.size_eq (s.extract m s.size)
     rw [Lib.extract_data,List.length_take,List.length_drop] at this
     have:=HMJ.out
     omega
end Go.Proofs.YtmalncfcgcebhaaGreatDoor
namespace Go.Proofs.YtmalncfcgcebhaaGreatDoor
set_option linter.unusedVariables false
open Go.Proofs Go.RowKit
attribute [local go_sem] Oper.semAt_some
def LineIs (S:St) (s:ByteArray) (R:Option (List UInt8) × St):Prop :=
 ∀ (w:World) (N p m:Nat) (l:List (Nat × Th)) (last:Nat),AgAt w N p m l last→stOf l last=S→10≤N→Tabs w→last < 1000000→Calls Tryz.prog 15 #[.pointer (some ⟨p,0,none⟩),.string s] w (LinePost w N p m l last R)
def stepR (F:St→List UInt8→Option (List UInt8) × St) (q:List (List UInt8) × St) (x:List UInt8):List (List UInt8) × St:=(q.1++(F q.2 x).1.toList,(F q.2 x).2)
def runK (F:St→List UInt8→Option (List UInt8) × St) (S:St) (L:List (List UInt8)):List (List UInt8) × St:=L.foldl (stepR F) ([],S)
theorem runK_snoc (F:St→List UInt8→Option (List UInt8) × St) (S:St) (L:List (List UInt8)) (x:List UInt8):runK F S (L++[x])=stepR F (runK F S L) x:=by unfold runK; rw [List.foldl_append]; rfl
def st0:St:=⟨[],0⟩
def strVs (l:List (List UInt8)):List Value:=l.map strV
def OutAt (n0 Bo:Nat) (o:List (List UInt8)) (W:World):Prop:=∃ v,W.heap[Bo]?=some (.cells #[v] 75 (0,0))∧W.ownsRow n0 9 1 v o.length (strVs o)
structure RunI (n0 r0 p m Ba Bo:Nat) (q:List (List UInt8) × St) (w W:World):Prop where
 ag:∃ l last,AgAt W n0 p m l last∧stOf l last=q.2
 ba:W.heap[Ba]?=some (.cells #[.pointer (some ⟨p,0,none⟩)] 32 (0,0))
 out:OutAt r0 Bo q.1 W
 ext:Ext w W
theorem own_keep {w w':World} {B n size:Nat} {e:TypeId} {v:Value} {xs:List Value} (h:w.ownsRow B e size v n xs) (hk:∀ g,v.ownBlock=some g→w'.heap[g]?=w.heap[g]?):w'.ownsRow B e size v n xs:=by
 obtain ⟨h1,h2⟩:=h
 refine ⟨h1, ?_⟩
 rcases h2 with h2 | ⟨g,cap,cur,rfl,hb,hh,h3⟩
 · exact .inl h2
 · exact .inr ⟨g,cap,cur,rfl,hb,(hk g rfl).trans hh,h3⟩
theorem own_typ {w:World} {B n size:Nat} {e:TypeId} {v:Value} {xs:List Value} (h:w.ownsRow B e size v n xs) {g:Nat} (hg:v.ownBlock=some g):∃ cur,w.heap[g]?=some (.cells cur e (0,0)):=by
 rcases h.2 with ⟨rfl,_⟩ | ⟨g',cap,cur,rfl,_,hh,_⟩
 · cases hg
 · simp only [Value.ownBlock,Option.some.injEq] at hg
   subst hg
   exact ⟨cur,hh⟩
theorem AgAt.notF {w:World} {N p m:Nat} {l:List (Nat × Th)} {last:Nat} (h:AgAt w N p m l last) {k:Nat} {cur:Array Value} {t:TypeId} {f:Nat × Nat} (hk:w.heap[k]?=some (.cells cur t f)) (h1:t≠2) (h2:t≠240) (h3:t≠40) (h4:t≠144):¬ AgF p m l k:=by
 have key:∀ {cur':Array Value} {t':TypeId} {f':Nat × Nat},w.heap[k]?=some (.cells cur' t' f')→t'=t:=fun h'=>by rw [h'] at hk; injection hk with hk; injection hk
 rintro (rfl | rfl | ⟨x,hx,hc⟩)
 · exact h4 (key h.hp).symm
 · obtain ⟨es,c,hm⟩:=h.ism
   rw [hm] at hk; cases hk
 · have hth:=h.th x hx
   cases hxt:x.2 with
   | st kk C B =>
     rw [hxt] at hc hth
     obtain ⟨cu,h5⟩:=KAt.isc hth hc
     exact h1 (key h5).symm
   | wi p' b C B n sm bk =>
     rw [hxt] at hc hth
     obtain ⟨cap,s1,_⟩:=WAt.st hth
     obtain ⟨cu,s2,_⟩:=WAt.row hth
     rcases hc with rfl | rfl | hc | ⟨j,hj,hc⟩
     · exact h2 (key s1).symm
     · exact h3 (key s2).symm
     · obtain ⟨cu,h5⟩:=KAt.isc (WAt.sum hth) hc
       exact h1 (key h5).symm
     · obtain ⟨cu,h5⟩:=KAt.isc (WAt.bks hth j hj) hc
       exact h1 (key h5).symm
theorem AgAt.beside {S:Nat→Prop} {w w':World} {N p m:Nat} {l:List (Nat × Th)} {last:Nat} (h:AgAt w N p m l last) (hM:Mod S w w') (hS:∀ k,S k→k < w.heap.size→∃ cur t f,w.heap[k]?=some (.cells cur t f)∧(t=9∨t=75)):AgAt w' N p m l last:=by
 refine h.keepS hM (fun k hk hl=>?_) (fun k hk hk2=>?_)
 · obtain ⟨cur,t,f,h1,h2⟩:=hS k hk hl
   exact .inl ⟨cur,t,f,h1,.inr (.inr (.inr (.inr h2)))⟩
 · obtain ⟨cur,t,f,h1,h2⟩:=hS k hk2 (h.flt hk)
   exact h.notF h1 (by rcases h2 with rfl | rfl <;> decide) (by rcases h2 with rfl | rfl <;> decide) (by rcases h2 with rfl | rfl <;> decide) (by rcases h2 with rfl | rfl <;> decide) hk
theorem AgAt.putO {w:World} {N p m:Nat} {l:List (Nat × Th)} {last:Nat} (h:AgAt w N p m l last) {b:Nat} {o o':Obj} (hb:w.heap[b]?=some o) (ho:o.isCells=false) (hm:b≠m):AgAt (w.putObj b o') N p m l last:=by
 have hM:Mod (fun k=>k=b) w (w.putObj b o'):=⟨rfl,rfl,rfl,by simp [World.putObj],fun k hk hn=>World.putObj_heap_other hn⟩
 refine h.keepS hM (fun k hk hl=>by subst hk; exact .inr ⟨o,hb,ho⟩) (fun k hk hk2=>?_)
 subst hk2
 rcases hk with rfl | rfl | ⟨x,hx,hc⟩
 · have:=h.hp
   rw [hb] at this; cases this; cases ho
 · exact hm rfl
 · obtain ⟨cur,t,f,h1,_⟩:=(h.th x hx).csT hc
   rw [hb] at h1; cases h1; cases ho
theorem OutAt.keep {r0 Bo:Nat} {o:List (List UInt8)} {W W':World} (h:OutAt r0 Bo o W) (hk:∀ k,(∃ cur t f,W.heap[k]?=some (.cells cur t f)∧(t=9∨t=75))→k=Bo∨r0≤k→W'.heap[k]?=W.heap[k]?):OutAt r0 Bo o W':=by
 obtain ⟨v,h1,h2⟩:=h
 refine ⟨v,(hk Bo ⟨_,_,_,h1,.inr rfl⟩ (.inl rfl)).trans h1,own_keep h2 fun g hg=>?_⟩
 obtain ⟨cur,h3⟩:=own_typ h2 hg
 exact hk g ⟨cur,_,_,h3,.inl rfl⟩ (.inr (own_geB h2 hg))
theorem RunI.line {n0 r0 p m Ba Bo:Nat} {q:List (List UInt8) × St} {w W W':World} (h:RunI n0 r0 p m Ba Bo q w W) (hn:w.heap.size≤n0) {l l':List (Nat × Th)} {last last':Nat} (hA:AgAt W n0 p m l last) (hM:Mod (AgF p m l) W W') (hA':AgAt W' n0 p m l' last') {S':St} (hs:stOf l' last'=S'):RunI n0 r0 p m Ba Bo (q.1,S') w W':=by
 refine ⟨⟨l',last',hA',hs⟩,hM.keep h.ba (hA.notF h.ba (by decide) (by decide) (by decide) (by decide)),h.out.keep fun k ⟨cur,t,f,h1,h2⟩ _=>hM.block k (lt_of h1) (hA.notF h1 ?_ ?_ ?_ ?_),Below.trans h.ext (hM.below h.ext.size fun k hk=>Nat.le_trans hn (hA.flo hk))⟩
 all_goals (rcases h2 with rfl | rfl <;> decide)
theorem RunI.app {n0 r0 p m Ba Bo:Nat} {q:List (List UInt8) × St} {w W W':World} {v v':Value} {y:List UInt8} {c:Obj} (h:RunI n0 r0 p m Ba Bo q w W) (hr:w.heap.size≤r0) (hBo:w.heap.size≤Bo) (hba:Ba≠Bo) (hv:W.heap[Bo]?=some (.cells #[v] 75 (0,0))) (hown:W.ownsRow r0 9 1 v q.1.length (strVs q.1))
 (hg:(W.alloc c).grownBy W' v.ownBlock) (hown':W'.ownsRow r0 9 1 v' (q.1.length+1) (strVs q.1++[strV y])):RunI n0 r0 p m Ba Bo (q.1++[y],q.2) w (W'.setCell ⟨Bo,0,none⟩ v')∧Mod (fun k=>v.ownBlock=some k∨k=Bo) W (W'.setCell ⟨Bo,0,none⟩ v'):=by
 have hM1:Mod (fun k=>v.ownBlock=some k∨k=Bo) (W.alloc c) W':=⟨hg.os,hg.tape,hg.output,hg.size,fun k hk hn=>hg.block k hk (fun e=>hn (.inl e.symm))⟩
 have hM2:Mod (fun k=>v.ownBlock=some k∨k=Bo) W' (W'.setCell ⟨Bo,0,none⟩ v'):=⟨rfl,rfl,rfl,by rw [size_setCell]; exact Nat.le_refl _,fun k hk hn=>setCell_other _ _ (fun e=>hn (.inr e))⟩
 have hM:Mod (fun k=>v.ownBlock=some k∨k=Bo) W (W'.setCell ⟨Bo,0,none⟩ v'):=(((Ext.alloc' W c).mod _).trans hM1).trans hM2
 have hne:∀ g,v.ownBlock=some g→g≠Bo:=fun g hg2 e=>by
  obtain ⟨cur,h3⟩:=own_typ hown hg2
  subst e
  exact blk_ne h3 hv (by decide) rfl
 have hbo:W'.heap[Bo]?=some (.cells #[v] 75 (0,0)):=by
  rw [hg.block Bo (by rw [size_alloc]; exact Nat.lt_succ_of_lt (lt_of hv)) (fun e=>hne _ e.symm rfl),heap_old _ _ (lt_of hv)]
  exact hv
 have hbas:¬ (v.ownBlock=some Ba∨Ba=Bo):=by
  rintro (e | e)
  · obtain ⟨cur,h3⟩:=own_typ hown e
    exact blk_ne h3 h.ba (by decide) rfl
  · exact hba e
 refine ⟨⟨?_,hM.keep h.ba hbas,⟨v',setCell_same hbo 0 _, ?_⟩, ?_⟩,hM⟩
 · obtain ⟨l,last,h1,h2⟩:=h.ag
   refine ⟨l,last,h1.beside hM fun k hk _=>?_,h2⟩
   rcases hk with hk | rfl
   · obtain ⟨cur,h3⟩:=own_typ hown hk
     exact ⟨cur,_,_,h3,.inl rfl⟩
   · exact ⟨_,_,_,hv,.inr rfl⟩
 · have e1:strVs (q.1++[y])=strVs q.1++[strV y]:=by simp [strVs]
   rw [e1,List.length_append,List.length_singleton]
   refine own_keep hown' fun g hg2=>setCell_other _ _ (fun e=>?_)
   obtain ⟨cur,h3⟩:=own_typ hown' hg2
   subst e
   exact blk_ne h3 hbo (by decide) rfl
 · refine Below.trans h.ext (hM.below h.ext.size fun k hk=>?_)
   rcases hk with hk | rfl
   · exact Nat.le_trans hr (own_geB hown hk)
   · exact hBo
theorem KeepsFrom.modC {S:Nat→Prop} {B:Nat} {W W':World} (h:Mod S W W') (hS:∀ k o,S k→B≤k→W.heap[k]?=some o→o.isCells=true):KeepsFrom B W W' :=
 ⟨h.size,fun k o hB hk ho=>(h.block k (lt_of hk) (fun hs=>by rw [hS k o hs hB hk] at ho; cases ho)).trans hk⟩
theorem AgAt.cellsF {w:World} {N p m:Nat} {l:List (Nat × Th)} {last:Nat} (h:AgAt w N p m l last) {k:Nat} {o:Obj} (hk:AgF p m l k) (hm:k≠m) (ho:w.heap[k]?=some o):o.isCells=true:=by
 rcases hk with rfl | rfl | ⟨x,hx,hc⟩
 · have:=h.hp
   rw [ho] at this; cases this; rfl
 · exact absurd rfl hm
 · obtain ⟨cur,t,f,h1,_⟩:=(h.th x hx).csT hc
   rw [ho] at h1; cases h1; rfl
end Go.Proofs.YtmalncfcgcebhaaGreatDoor
namespace Go.Proofs.YtmalncfcgcebhaaGreatDoor
set_option linter.unusedVariables false
open Go.Proofs Go.RowKit
attribute [local go_sem] Oper.semAt_some
theorem info_str:∃ i,Tryz.prog.info? 9=some i∧i.zero=some (.string ⟨#[]⟩)∧i.size=1∧i.bytes=16:=by
 obtain ⟨i,h1,h2,h3,h4⟩:=info_parts (by kernel_rfl:(Tryz.prog.info? 9).map (fun i=>(i.zero,i.size,i.bytes))=some (some (.string ⟨#[]⟩),1,16))
 exact ⟨i,h1,h2,h3,h4⟩
theorem splitL_len (l:List UInt8):(splitL l).length≤l.length+1:=by
 induction l with
 | nil=>simp [splitL]
 | cons c l ih =>
   unfold splitL
   split
   · simp; omega
   · simp; omega
theorem runK_len (F:St→List UInt8→Option (List UInt8) × St) (S:St) (L:List (List UInt8)):(runK F S L).1.length≤L.length:=by
 have key:∀ (L:List (List UInt8)) (q:List (List UInt8) × St),(L.foldl (stepR F) q).1.length≤q.1.length+L.length:=by
  intro L
  induction L with
  | nil=>intro q; simp
  | cons x L ih =>
    intro q
    rw [List.foldl_cons]
    have:=ih (stepR F q x)
    have h2:(stepR F q x).1.length≤q.1.length+1:=by
     unfold stepR
     rw [List.length_append]
     cases (F q.2 x).1 <;> simp
    rw [List.length_cons]
    omega
 have:=key L ([],S)
 simpa [runK] using this
structure BoxI (Bq Bs Bv n:Nat) (W:World):Prop where
 q:∃ c,W.heap[Bq]?=some (.cells c 9 (0,0))
 s:∃ c,W.heap[Bs]?=some (.cells c 9 (0,0))
 v:∃ c,W.heap[Bv]?=some (.cells c 3 (0,0))
 sz:n≤W.heap.size
theorem BoxI.set {Bq Bs Bv n:Nat} {W:World} (h:BoxI Bq Bs Bv n W) (h1:Bq≠Bs) (h2:Bv≠Bs) (v:Value):BoxI Bq Bs Bv n (W.setCell ⟨Bs,0,none⟩ v):=by
 obtain ⟨⟨a,ha⟩,⟨b,hb⟩,⟨c,hc⟩,hs⟩:=h
 exact ⟨⟨a,(setCell_other _ _ h1).trans ha⟩,⟨_,setCell_same hb 0 _⟩,⟨c,(setCell_other _ _ h2).trans hc⟩,by rw [size_setCell]; exact hs⟩
theorem BoxI.mod {Bq Bs Bv n:Nat} {S:Nat→Prop} {W W':World} (h:BoxI Bq Bs Bv n W) (hM:Mod S W W') (h1:∀ k c t,W.heap[k]?=some (.cells c t (0,0))→t=9∨t=3→k=Bq∨k=Bs∨k=Bv→¬ S k):BoxI Bq Bs Bv n W':=by
 obtain ⟨⟨a,ha⟩,⟨b,hb⟩,⟨c,hc⟩,hs⟩:=h
 exact ⟨⟨a,hM.keep ha (h1 _ _ _ ha (.inl rfl) (.inl rfl))⟩,⟨b,hM.keep hb (h1 _ _ _ hb (.inl rfl) (.inr (.inl rfl)))⟩,⟨c,hM.keep hc (h1 _ _ _ hc (.inr rfl) (.inr (.inr rfl)))⟩,Nat.le_trans hs hM.size⟩
set_option maxRecDepth 100000 in
set_option maxHeartbeats 4000000 in
theorem Run_c (F:St→List UInt8→Option (List UInt8) × St) (t:ByteArray) (ht:t.size≤100000)
 (hF:∀ (k:Nat) (s:ByteArray),(splitL t.data.toList)[k]?=some s.data.toList→LineIs (runK F st0 ((splitL t.data.toList).take k)).2 s (F (runK F st0 ((splitL t.data.toList).take k)).2 s.data.toList))
 (hlast:∀ k,(runK F st0 ((splitL t.data.toList).take k)).2.last < 1000000) (w:World) (hT:Tabs w) :
 Calls Tryz.prog 41 #[.string t] w fun e w'=>∃ v,e=.returned v∧w'.ownsRow w.heap.size 9 1 v (runK F st0 (splitL t.data.toList)).1.length (strVs (runK F st0 (splitL t.data.toList)).1)∧Ext w w':=by
 have hB:=hT.size
 have HF:=Lib.hid hF
 have HLA:=Lib.hid hlast
 have HT:=Lib.hid hT
 clear hF hlast hT
 refine (callsIn_wide (n:=5)).1 ?_
 refine callsIn_of_wp_marks Tryz.func41 rfl trivial ?_ rfl
 simp only [Tryz.ntmps41,List.size_toArray,List.length_cons,List.length_nil,Nat.reduceAdd,Nat.reduceSub,Array.replicate_succ,Array.replicate_zero,List.push_toArray,List.append_toArray,List.nil_append,List.cons_append]
 gi_wp2_with fail
 refine ⟨trivial,(callsIn_wide.2 (ANew_c _)).mono ?_⟩
 rintro e w1 ⟨rfl,hA,hx1⟩
 obtain ⟨Wa,hWa⟩:∃ Wa,w.alloc (.cells #[.slice none 0 0] 75)=Wa:=⟨_,rfl⟩
 rw [hWa] at hA hx1 ⊢
 have hsa:Wa.heap.size=w.heap.size+1:=by rw [← hWa,size_alloc]
 have hxa:Ext w Wa:=by rw [← hWa]; exact Ext.alloc' _ _
 have hoa:Wa.heap[w.heap.size]?=some (.cells #[.slice none 0 0] 75 (0,0)):=by rw [← hWa]; exact heap_at _ _ rfl
 have ho1:=hx1.keep hoa
 have HA:=Lib.hid hA
 have hx1':=hxa.trans' hx1
 have hs1:=hx1'.size
 have hlt1:=lt_of ho1
 clear hA hoa hxa hx1 hWa
 gi_wp2_with fail
 refine ⟨trivial,(callsIn_wide.2 (SplitSeq_c t _)).mono ?_⟩
 rintro e w2 ⟨rfl,hw2⟩
 gi_wp2_with fail
 rw [← hw2]
 have hE2:Ext w1 w2:=by rw [hw2]; exact (((Ext.alloc' _ _).allocR _).allocR _).allocR _
 have hs2:w2.heap.size=w1.heap.size+4:=by rw [hw2]; simp
 have hBa:w2.heap[w1.heap.size]?=some (.cells #[.pointer (some ⟨w.heap.size+1+1,0,none⟩)] 32 (0,0)):=by
  rw [hw2,heap_old _ _ (by simp; omega),heap_old _ _ (by simp; omega),heap_old _ _ (by simp)]; exact heap_at _ _ rfl
 have hBs:w2.heap[w1.heap.size+1]?=some (.cells #[.string t] 9 (0,0)):=by
  rw [hw2,heap_old _ _ (by simp),heap_old _ _ (by simp)]; exact heap_at _ _ (by simp)
 have hBq:w2.heap[w1.heap.size+1+1]?=some (.cells #[.string ⟨#[10]⟩] 9 (0,0)):=by
  rw [hw2,heap_old _ _ (by simp)]; exact heap_at _ _ (by simp)
 have hBv:w2.heap[w1.heap.size+1+2]?=some (.cells #[.int .i64 0] 3 (0,0)):=by
  rw [hw2]; exact heap_at _ _ (by simp)
 have hAx:AgAt w2 (w.heap.size+1) (w.heap.size+1+1) (w.heap.size+1) [] 0:=by
  have:=HA.out.ext hE2
  rw [hsa] at this
  exact this
 have ho2:=hE2.keep ho1
 have hx2:=hx1'.trans' hE2
 clear hw2 HA
 have hLl:=splitL_len t.data.toList
 rw [← Lib.size_eq] at hLl
 obtain ⟨i0,hi,hz0,hz1,hz2⟩:=info_str
 generalize hL:splitL t.data.toList=L at *
 have hnil:∀ k x,L[k]?=some x→L.take (k+1)=L.take k++[x]:=fun k x h=>by
  obtain ⟨h1,rfl⟩:=List.getElem?_eq_some_iff.1 h
  exact List.take_succ_eq_append_getElem h1
 have hit:=split_in 4 (w1.heap.size+1+1) (w1.heap.size+1) (w1.heap.size+1+2) t (by omega) w2 hBq hBs hBv (by omega) (by omega)
 rw [hL] at hit
 refine wpIn_range_cells (n:=5) (by omega) (gf:=159) rfl (enters_of Tryz.func159 (by kernel_rfl) rfl) (by rintro b (rfl | rfl | rfl) <;> omega) (by omega) hit
  (fun k W=>RunI (w.heap.size+1) w2.heap.size (w.heap.size+1+1) (w.heap.size+1) w1.heap.size w.heap.size (runK F st0 (L.take k)) w W∧BoxI (w1.heap.size+1+1) (w1.heap.size+1) (w1.heap.size+1+2) w2.heap.size W)
  ?h0 ?hI1 ?hI2 ?hI3 (fun x=>{ tmps:=#[.string t,undef,.slice none 0 0,.pointer (some ⟨w.heap.size,0,none⟩),.pointer (some ⟨w1.heap.size,0,none⟩),x,undef,undef,.string t,.int .i64 t.size,.bool (decide ((1048576:Int) < t.size)),undef,undef,undef,.pointer (some ⟨w.heap.size+1+1,0,none⟩),.string t,.func (.func 159) #[] #[.pointer (some ⟨w1.heap.size+1+1,0,none⟩),.pointer (some ⟨w1.heap.size+1,0,none⟩),.pointer (some ⟨w1.heap.size+1+2,0,none⟩)],x,undef,undef,undef,undef,undef,undef,undef,undef,undef,undef,undef,undef],defers:=[] }) ?assign ?body ?done
 case h0 =>
  refine ⟨⟨⟨[],0,hAx,rfl⟩,hBa,⟨_,ho2,rfl,.inl ⟨rfl,rfl⟩⟩,hx2⟩,⟨_,hBq⟩,⟨_,hBs⟩,⟨_,hBv⟩,Nat.le_refl _⟩
 case hI1 =>
  rintro k W v ⟨hI,hbx⟩
  obtain ⟨c,hbs⟩:=hbx.s
  have hM:Mod (fun k=>k=w1.heap.size+1) W (W.setCell ⟨w1.heap.size+1,0,none⟩ v):=⟨rfl,rfl,rfl,by rw [size_setCell]; exact Nat.le_refl _,fun k hk hn=>setCell_other _ _ hn⟩
  refine ⟨⟨?_,hM.keep hI.ba (by omega),hI.out.keep fun j hx hj=>hM.block j ?_ ?_,Below.trans hI.ext (hM.below hI.ext.size fun j hj=>by omega)⟩,hbx.set (by omega) (by omega) _⟩
  · obtain ⟨l,last,h1,h2⟩:=hI.ag
    exact ⟨l,last,h1.beside hM (fun j hj _=>by subst hj; exact ⟨_,_,_,hbs,.inl rfl⟩),h2⟩
  · obtain ⟨_,_,_,hx,_⟩:=hx
    exact lt_of hx
  · omega
 case hI2 =>
  rintro k W o ⟨hI,hbx⟩
  have hX:Ext W (W.alloc o):=Ext.alloc' _ _
  refine ⟨⟨?_,hX.keep hI.ba,hI.out.keep fun j ⟨_,_,_,hx,_⟩ _=>hX.block j (lt_of hx),hI.ext.allocR o⟩,hbx.mod (hX.mod fun _=>False) fun _ _ _ _ _ _ h=>h⟩
  obtain ⟨l,last,h1,h2⟩:=hI.ag
  exact ⟨l,last,h1.ext hX,h2⟩
 case hI3 =>
  rintro k W b o o' ⟨hI,hbx⟩ hb hbo ho
  have hM:Mod (fun k=>k=b) W (W.putObj b o'):=⟨rfl,rfl,rfl,by simp [World.putObj],fun k hk hn=>World.putObj_heap_other hn⟩
  refine ⟨⟨?_,hM.keep hI.ba (cells_not hI.ba hbo ho),hI.out.keep fun j ⟨_,_,_,hx,_⟩ _=>hM.block j (lt_of hx) (cells_not hx hbo ho),Below.trans hI.ext (hM.below hI.ext.size fun j hj=>by omega)⟩,hbx.mod hM fun k c t h1 _ _=>cells_not h1 hbo ho⟩
  obtain ⟨l,last,h1,h2⟩:=hI.ag
  exact ⟨l,last,h1.putO hbo ho (by omega),h2⟩
 case assign =>
  intro l x W K hK
  gi_wp2
  exact hK
 case body =>
  rintro l k x W ⟨hI,hbx⟩ hk ⟨s,rfl,hs⟩
  have hpa:=(cell_of hI.ba 0).trans rfl
  obtain ⟨la,last,hag,hst⟩:=hI.ag
  have hlst:last < 1000000:=by
   have:=HLA.out k
   rw [← hst] at this
   exact this
  have HLN:=Lib.hid (HF.out k s hs W _ _ _ la last hag hst (by omega) (HT.out.ext hI.ext) hlst)
  have hsn:=hnil k _ hs
  have hq:runK F st0 (L.take (k+1))=stepR F (runK F st0 (L.take k)) s.data.toList:=by rw [hsn,runK_snoc]
  have HQ:=Lib.hid hq
  have HI:=Lib.hid hI
  have HAG:=Lib.hid hag
  have HBX:=Lib.hid hbx
  have hw2W:=hI.ext.size
  have hw22:=hbx.sz
  have hbal:=lt_of hI.ba
  clear hI hag hbx hq hsn hs hst
  generalize hR:F (runK F st0 (L.take k)).2 s.data.toList=R at *
  have HR:=Lib.hid hR
  clear hR
  obtain ⟨ro,S'⟩:=R
  gi_wp2_with fail
  refine ⟨trivial,(callsR HLN.out).mono ?_⟩
  rintro e w3 ⟨⟨l',last',rfl,hA',hst',hfn⟩,hM⟩
  have hI3:=HI.out.line (by omega) HAG.out hM hA' hst'
  have hnF:∀ k c t,W.heap[k]?=some (.cells c t (0,0))→t=9∨t=3→¬ AgF (w.heap.size+1+1) (w.heap.size+1) la k:=fun k c t h1 h2=>HAG.out.notF h1 (by rcases h2 with rfl | rfl <;> decide) (by rcases h2 with rfl | rfl <;> decide) (by rcases h2 with rfl | rfl <;> decide) (by rcases h2 with rfl | rfl <;> decide)
  have hB3:=HBX.out.mod hM fun k c t h1 h2 _=>hnF k c t h1 h2
  have hK3:KeepsFrom w2.heap.size W w3:=KeepsFrom.modC hM fun k o hk hB ho=>HAG.out.cellsF hk (by omega) ho
  have hb3:∀ b,bx3 (w1.heap.size+1+1) (w1.heap.size+1) (w1.heap.size+1+2) b→w3.heap[b]?=W.heap[b]?:=by
   intro b hb
   obtain ⟨⟨_,g1⟩,⟨_,g2⟩,⟨_,g3⟩,_⟩:=HBX.out
   rcases hb with rfl | rfl | rfl
   · exact hM.block _ (lt_of g1) (hnF _ _ _ g1 (.inl rfl))
   · exact hM.block _ (lt_of g2) (hnF _ _ _ g2 (.inl rfl))
   · exact hM.block _ (lt_of g3) (hnF _ _ _ g3 (.inr rfl))
  have H3:=Lib.hid hI3
  have HB3:=Lib.hid hB3
  have HK3:=Lib.hid hK3
  have HBB:=Lib.hid hb3
  clear hB3 hK3 hb3 hnF
  cases ro with
  | none =>
    clear hI3 hM hA' hst' hfn hpa
    gi_wp2
    refine ⟨rfl,HK3.out,⟨?_,HB3.out⟩,HBB.out⟩
    rw [HQ.out]
    unfold stepR
    rw [HR.out]
    simpa using H3.out
  | some y =>
    obtain ⟨v,hv,hown⟩:=hI3.out
    have hvc:=(cell_of hv 0).trans rfl
    have hvf:=frozen_of hv 0
    have hvl:=lt_of hv
    have hs3:=hI3.ext.size
    have hql:=runK_len F st0 (L.take k)
    rw [List.length_take] at hql
    have hm3:=hM.size
    have HO:=Lib.hid hown
    have HV:=Lib.hid hv
    clear hI3 hown hv hM hA' hst' hfn hpa
    obtain ⟨yb,hyb⟩:∃ yb,strV y=.string yb:=⟨_,rfl⟩
    rw [show strV ((some y,S').fst.getD [])=.string yb from hyb]
    gi_wp2_with (gi_at_builtin; refine wpListIn_append_own _ rfl _ _ 75 rfl w2.heap.size 9 i0 (.string ⟨#[]⟩) 1 16 Tryz.underlying75 hi hz0 hz1 hz2 rfl (by decide) _ _ _ rfl (HO.out.alloc _) ⟨w3.heap.size,0,none⟩ 1 1 [.string yb] rfl rfl (cell_one_new _ _ _) (by simp [Value.oneCell']) (by unfold maxLen; omega) (by omega) (by simp; omega) ?_)
    intro v' w4 hown4 hg4 _
    have hown5:=own_bmono hown4 (show w2.heap.size≤w1.heap.size+4 by omega)
    obtain ⟨hI5,hM5⟩:=H3.out.app (by omega) (Nat.le_refl _) (by omega) HV.out HO.out hg4 (by rw [hyb]; exact hown5)
    have hne:∀ g,v.ownBlock=some g→g≠w.heap.size:=fun g hg2 e=>by
     obtain ⟨cur,h3⟩:=own_typ HO.out hg2
     subst e
     exact blk_ne h3 HV.out (by decide) rfl
    have hbo:w4.heap[w.heap.size]?=some (.cells #[v] 75 (0,0)):=by
     rw [hg4.block w.heap.size (by rw [size_alloc]; omega) (fun e=>hne _ e.symm rfl),heap_old _ _ hvl]
     exact HV.out
    have hc4:=(cell_of hbo 0).trans rfl
    have hf4:=frozen_of hbo 0
    have hl4:=lt_of hbo
    have hK5:KeepsFrom w2.heap.size w3 (w4.setCell ⟨w.heap.size,0,none⟩ v'):=KeepsFrom.modC hM5 fun k o hk hB ho=>by
     rcases hk with hk | rfl
     · obtain ⟨cur,h3⟩:=own_typ HO.out hk
       rw [h3] at ho; cases ho; rfl
     · omega
    have hnb:∀ b,bx3 (w1.heap.size+1+1) (w1.heap.size+1) (w1.heap.size+1+2) b→¬ (v.ownBlock=some b∨b=w.heap.size):=by
     rintro b hb (hk | hk)
     · have:=own_geB HO.out hk
       rcases hb with rfl | rfl | rfl <;> omega
     · rcases hb with rfl | rfl | rfl <;> omega
    have hB5:=HB3.out.mod hM5 fun k c t h1 h2 h3=>hnb k h3
    have HI5:=Lib.hid hI5
    have HM5:=Lib.hid hM5
    have HK5:=Lib.hid hK5
    have HB5:=Lib.hid hB5
    clear hI5 hM5 hK5 hB5 hbo hne hg4 hown4
    obtain ⟨po,co,rfl⟩:=own_sl hown5
    clear hown5
    gi_wp2
    refine ⟨rfl,HK3.out.trans HK5.out,⟨?_,HB5.out⟩,fun b hb=>?_⟩
    · rw [HQ.out]
      unfold stepR
      rw [HR.out]
      exact HI5.out
    · refine (HM5.out.block b ?_ (hnb b hb)).trans (HBB.out b hb)
      obtain ⟨⟨_,g1⟩,⟨_,g2⟩,⟨_,g3⟩,_⟩:=HB3.out
      rcases hb with rfl | rfl | rfl
      · exact lt_of g1
      · exact lt_of g2
      · exact lt_of g3
 case done =>
  rintro D W hD ⟨hI,hbx⟩ hdef
  obtain ⟨v,hv,hown⟩:=hI.out
  have hvc:=(cell_of hv 0).trans rfl
  have hvl:=lt_of hv
  have HO:=Lib.hid hown
  have HE:=Lib.hid hI.ext
  clear hv hown hI hbx
  obtain ⟨po,co,rfl⟩:=own_sl HO.out
  gi_wp2
  refine ⟨by simp,.inl ⟨_,_,rfl,run_takeDeferred hdef, ?_⟩⟩
  have hM:Mod (fun k=>k=D) W (W.putObj D (.deferred none)):=⟨rfl,rfl,rfl,by simp [World.putObj],fun k hk hn=>World.putObj_heap_other hn⟩
  rw [hL]
  rw [List.take_length] at HO
  refine ⟨_,results_tmp rfl _ _ _,_,rfl,own_bmono (own_keep HO.out fun g hg=>hM.block g ?_ ?_) (by omega),Below.trans HE.out (hM.below HE.out.size fun j hj=>by have:=hE2.size; omega)⟩
  · obtain ⟨cur,h3⟩:=own_typ HO.out hg; exact lt_of h3
  · obtain ⟨cur,h3⟩:=own_typ HO.out hg; exact cells_not h3 hdef rfl
end Go.Proofs.YtmalncfcgcebhaaGreatDoor
namespace Go.Proofs.YtmalncfcgcebhaaGreatDoor
set_option linter.unusedVariables false
open Go.Proofs Go.RowKit
structure WordOk (l:List UInt8):Prop where
 ne:l≠[]
 sp:∀ c∈l,c≠32
 hd:l.getD 0 0≠34
def joinW:List (List UInt8)→List UInt8
 | []=>[]
 | [a]=>a
 | a :: l=>a++32 :: joinW l
def plcW:Nat→List (List UInt8)→List (Nat × Nat)
 | _,[]=>[]
 | a,x :: l=>(a,a+x.length) :: plcW (a+x.length+1) l
theorem joinW_cons (a:List UInt8) {l:List (List UInt8)} (h:l≠[]):joinW (a :: l)=a++32 :: joinW l:=by
 cases l with
 | nil=>exact absurd rfl h
 | cons b l=>rfl
theorem wordEnd_at (s:ByteArray):∀ (x r pre:List UInt8) (f:Nat),s.data.toList=pre++(x++r)→(∀ c∈x,c≠32)→(r=[]∨∃ t,r=32 :: t)→x.length≤f→wordEnd s f pre.length=pre.length+x.length
 | [],r,pre,f,hs,_,hr,hf=>by
   cases f with
   | zero=>rfl
   | succ f =>
     unfold wordEnd
     rw [if_neg]
     · simp
     · rintro ⟨h1,h2⟩
       rw [Lib.size_eq,hs] at h1
       rw [hs] at h2
       rcases hr with rfl | ⟨t,rfl⟩
       · simp at h1
       · exact h2 (by simp [List.getD_eq_getElem?_getD])
 | c :: x,r,pre,f,hs,hx,hr,hf=>by
   obtain ⟨f,rfl⟩:∃ g,f=g+1:=⟨f - 1,by simp at hf; omega⟩
   have hs':s.data.toList=(pre++[c])++(x++r):=by rw [hs]; simp
   unfold wordEnd
   rw [if_pos]
   · have:=wordEnd_at s x r (pre++[c]) f hs' (fun d hd=>hx d (by simp [hd])) hr (by simp at hf; omega)
     rw [List.length_append,List.length_singleton] at this
     rw [this,List.length_cons]
     omega
   · refine ⟨?_, ?_⟩
     · rw [Lib.size_eq,hs]; simp
     · rw [hs]
       have:(pre++(c :: x++r)).getD pre.length 0=c:=by simp [List.getD_eq_getElem?_getD]
       rw [this]
       exact hx c (by simp)
theorem words_one (s:ByteArray) {x r pre:List UInt8} {f:Nat} (hs:s.data.toList=pre++(x++r)) (hx:WordOk x) (hr:r=[]∨∃ t,r=32 :: t) :
 wordsFrom s (f+1) pre.length=(pre.length,pre.length+x.length) :: wordsFrom s f (pre.length+x.length):=by
 have hxl:0 < x.length:=List.length_pos_iff.2 hx.ne
 have hlt:pre.length < s.size:=by rw [Lib.size_eq,hs]; simp; omega
 have hg:s.data.toList.getD pre.length 0=x.getD 0 0:=by
  rw [hs]
  simp [List.getD_eq_getElem?_getD,List.getElem?_append_right,List.getElem?_append_left hxl]
 have hm:x.getD 0 0∈x:=by
  cases x with
  | nil=>exact absurd rfl hx.ne
  | cons c x=>simp
 have hsk:wordSkip s pre.length=pre.length:=by
  unfold wordSkip
  rw [if_neg (by rw [hg]; exact hx.hd)]
 have he:=wordEnd_at s x r pre s.size hs hx.sp hr (by rw [Lib.size_eq,hs]; simp; omega)
 rw [wordsFrom,if_pos hlt,if_neg (by rw [hg]; exact hx.sp _ hm),hsk,he]
theorem words_sp (s:ByteArray) {r pre:List UInt8} {f:Nat} (hs:s.data.toList=pre++(32 :: r)):wordsFrom s (f+1) pre.length=wordsFrom s f (pre.length+1):=by
 have hlt:pre.length < s.size:=by rw [Lib.size_eq,hs]; simp
 rw [wordsFrom,if_pos hlt,if_pos (by rw [hs]; simp [List.getD_eq_getElem?_getD])]
theorem words_end (s:ByteArray) (f:Nat):wordsFrom s f s.size=[]:=by
 cases f with
 | zero=>rfl
 | succ f=>rw [wordsFrom,if_neg (Nat.lt_irrefl _)]
theorem words_join (s:ByteArray):∀ (ws:List (List UInt8)) (pre:List UInt8) (f:Nat),s.data.toList=pre++joinW ws→ws≠[]→(∀ x∈ws,WordOk x)→2*ws.length≤f→wordsFrom s f pre.length=plcW pre.length ws
 | [],_,_,_,h,_,_=>absurd rfl h
 | [x],pre,f,hs,_,hx,hf=>by
   obtain ⟨f,rfl⟩:∃ g,f=g+1:=⟨f - 1,by simp at hf; omega⟩
   have hs':s.data.toList=pre++(x++[]):=by rw [hs]; simp [joinW]
   rw [words_one s hs' (hx x (by simp)) (.inl rfl)]
   have e:pre.length+x.length=s.size:=by rw [Lib.size_eq,hs']; simp
   rw [e,words_end]
   simp [plcW,e]
 | x :: y :: ws,pre,f,hs,_,hx,hf=>by
   obtain ⟨f,rfl⟩:∃ g,f=g+1+1:=⟨f - 2,by simp at hf; omega⟩
   have hs':s.data.toList=pre++(x++32 :: joinW (y :: ws)):=by rw [hs]; rfl
   rw [words_one s hs' (hx x (by simp)) (.inr ⟨_,rfl⟩)]
   have hs2:s.data.toList=(pre++x)++(32 :: joinW (y :: ws)):=by rw [hs']; simp
   have e2:=words_sp (f:=f) s hs2
   rw [List.length_append] at e2
   rw [e2]
   have hs3:s.data.toList=(pre++x++[32])++joinW (y :: ws):=by rw [hs']; simp
   have e3:=words_join s (y :: ws) (pre++x++[32]) f hs3 (by simp) (fun z hz=>hx z (by simp [hz])) (by simp at hf ⊢; omega)
   rw [List.length_append,List.length_append,List.length_singleton] at e3
   rw [e3]
   rfl
def wpl:Nat→List (List UInt8)→List (ByteArray × Nat)
 | _,[]=>[]
 | a,x :: l=>(⟨x.toArray⟩,a) :: wpl (a+x.length+1) l
theorem wpl_len:∀ (ws:List (List UInt8)) (a:Nat),(wpl a ws).length=ws.length
 | [],_=>rfl
 | x :: l,a=>by unfold wpl; rw [List.length_cons,wpl_len l,List.length_cons]
theorem joinW_len {ws:List (List UInt8)} (h:∀ x∈ws,WordOk x):2*ws.length≤(joinW ws).length+1:=by
 induction ws with
 | nil=>simp
 | cons x ws ih =>
   have hx:0 < x.length:=List.length_pos_iff.2 (h x (by simp)).ne
   by_cases hw:ws=[]
   · subst hw; simp [joinW]; omega
   · rw [joinW_cons x hw]
     have:=ih (fun y hy=>h y (by simp [hy]))
     simp
     omega
theorem ext_words (s:ByteArray):∀ (ws:List (List UInt8)) (pre:List UInt8),s.data.toList=pre++joinW ws→(plcW pre.length ws).map (fun p=>(s.extract p.1 p.2,p.1))=wpl pre.length ws
 | [],_,_=>rfl
 | [x],pre,hs=>by
   have e:s.extract pre.length (pre.length+x.length)=⟨x.toArray⟩:=by
    have h1:(s.extract pre.length (pre.length+x.length)).data.toList=x:=by
     rw [Lib.extract_data,hs]; simp [joinW]
    cases hh:s.extract pre.length (pre.length+x.length) with
    | mk d =>
      rw [hh] at h1
      rw [← h1]
   simp only [plcW,wpl,List.map_cons,List.map_nil,e]
 | x :: y :: ws,pre,hs=>by
   have hs':s.data.toList=pre++(x++32 :: joinW (y :: ws)):=by rw [hs]; rfl
   have e:s.extract pre.length (pre.length+x.length)=⟨x.toArray⟩:=by
    have h1:(s.extract pre.length (pre.length+x.length)).data.toList=x:=by
     rw [Lib.extract_data,hs']; simp
    cases hh:s.extract pre.length (pre.length+x.length) with
    | mk d =>
      rw [hh] at h1
      rw [← h1]
   have hs3:s.data.toList=(pre++x++[32])++joinW (y :: ws):=by rw [hs']; simp
   have e3:=ext_words s (y :: ws) (pre++x++[32]) hs3
   rw [List.length_append,List.length_append,List.length_singleton] at e3
   rw [plcW,List.map_cons,e,e3]
   rfl
theorem wds_join {s:ByteArray} {ws:List (List UInt8)} (hs:s.data.toList=joinW ws) (hw:ws≠[]) (h:∀ x∈ws,WordOk x):wds s=wpl 0 ws:=by
 have h1:=words_join s ws [] (s.size+1) (by rw [hs]; rfl) hw h (by rw [Lib.size_eq,hs]; exact joinW_len h)
 have h2:=ext_words s ws [] (by rw [hs]; rfl)
 unfold wds wordsS
 rw [show (0:Nat)=([]:List UInt8).length from rfl,h1]
 exact h2
theorem itoa_word (n:Int):WordOk (Lib.itoa n):=by
 refine ⟨itoa_ne n,fun c hc e=>?_,fun e=>?_⟩
 · subst e
   rcases itoa_mem n _ hc with h | h
   · exact absurd h (by decide)
   · exact absurd h.1 (by decide)
 · have hm:(Lib.itoa n).getD 0 0∈Lib.itoa n:=by
    cases h:Lib.itoa n with
    | nil=>exact absurd h (itoa_ne n)
    | cons c x=>simp
   rw [e] at hm
   rcases itoa_mem n _ hm with h | h
   · exact absurd h (by decide)
   · exact absurd h.1 (by decide)
theorem num_itoa {n:Int} (h:I64 n):numOf (Lib.itoa n)=some n:=by
 rw [numOf_ok (parse_itoa h.1 h.2),if_pos rfl]
end Go.Proofs.YtmalncfcgcebhaaGreatDoor
namespace Go.Proofs.YtmalncfcgcebhaaGreatDoor
set_option linter.unusedVariables false
open Go.Proofs Go.RowKit
theorem tornFrom_ascii (s:ByteArray) (h:∀ c∈s.data.toList,c.toNat < 128):∀ (f pos:Nat),tornFrom s f pos=-1
 | 0,_=>rfl
 | f+1,pos=>by
   unfold tornFrom
   by_cases hp:pos < s.size
   · rw [if_pos hp]
     have ha:(s[pos]'hp).toNat < 128:=by
      refine h _ ?_
      have:s.data.toList[pos]'(by rw [← Lib.size_eq]; exact hp)=s[pos]'hp:=rfl
      rw [← this]
      exact List.getElem_mem _
     rw [decode_ascii s pos hp ha,if_neg,tornFrom_ascii s h f]
     intro e
     have:=congrArg Prod.fst e
     dsimp only at this
     omega
   · rw [if_neg hp]
theorem torn_ascii {s:ByteArray} (h:∀ c∈s.data.toList,c.toNat < 128):tornS s=-1:=tornFrom_ascii s h _ _
theorem numR_at {W:List (ByteArray × Nat)} {E a:Nat} {n:Int} (ha:a < W.length) (hw:W[a].1.data.toList=Lib.itoa n) (hn:I64 n):numR W E a none=(n,a+1,none):=by
 obtain ⟨e1,e2⟩:=next_yes (E:=E) ha
 unfold numR
 rw [e1,e2,hw,num_itoa hn]
def lineW (verb:List UInt8) (ns:List Int):List (List UInt8):=verb :: ns.map Lib.itoa
theorem wpl_get:∀ (ws:List (List UInt8)) (a i:Nat) (h:i < (wpl a ws).length),(wpl a ws)[i].1.data.toList=ws.getD i []
 | [],a,i,h=>by simp [wpl] at h
 | x :: l,a,0,h=>rfl
 | x :: l,a,i+1,h=>by
   have:=wpl_get l (a+x.length+1) i (by simp [wpl] at h; exact h)
   simpa [wpl] using this
theorem nums_at (verb:List UInt8) (ns:List Int) (hn:∀ n∈ns,I64 n) (E:Nat):∀ i,i≤ns.length→numsS (wpl 0 (lineW verb ns)) E 1 none i=(i+1,none)∧(i < ns.length→numsF (wpl 0 (lineW verb ns)) E 1 none i=ns.getD i 0):=by
 have hl:(wpl 0 (lineW verb ns)).length=ns.length+1:=by rw [wpl_len]; simp [lineW]
 have step:∀ i,i < ns.length→numR (wpl 0 (lineW verb ns)) E (i+1) none=(ns.getD i 0,i+2,none):=fun i hi=>by
  refine numR_at (by omega) ?_ (hn _ (getD_mem hi))
  rw [wpl_get]
  simp [lineW,hi]
 intro i
 induction i with
 | zero =>
   intro h
   refine ⟨rfl,fun h0=>?_⟩
   unfold numsF
   show (numR _ E (0+1) none).1=_
   rw [step 0 h0]
 | succ i ih =>
   intro h
   obtain ⟨h1,_⟩:=ih (by omega)
   have e1:numsS (wpl 0 (lineW verb ns)) E 1 none (i+1)=(i+1+1,none):=by
    show ((numR _ E _ _).2.1,(numR _ E _ _).2.2)=_
    rw [h1]
    dsimp only
    rw [step i (by omega)]
   refine ⟨e1,fun h2=>?_⟩
   unfold numsF
   rw [e1]
   dsimp only
   rw [step (i+1) h2]
theorem line_words {s:ByteArray} {verb:List UInt8} {ns:List Int} (hs:s.data.toList=joinW (lineW verb ns)) (hv:WordOk verb):wds s=wpl 0 (lineW verb ns) :=
 wds_join hs (by simp [lineW]) (fun x hx=>by
  rcases List.mem_cons.1 hx with rfl | hx
  · exact hv
  · obtain ⟨n,_,rfl⟩:=List.mem_map.1 hx
    exact itoa_word n)
theorem join_mem {P:UInt8→Prop} (h32:P 32):∀ {ws:List (List UInt8)},(∀ x∈ws,∀ c∈x,P c)→∀ c∈joinW ws,P c
 | [],_,c,hc=>by simp [joinW] at hc
 | [x],h,c,hc=>h x (by simp) c hc
 | x :: y :: l,h,c,hc=>by
   rw [joinW_cons x (by simp)] at hc
   rcases List.mem_append.1 hc with hc | hc
   · exact h x (by simp) c hc
   · rcases List.mem_cons.1 hc with rfl | hc
     · exact h32
     · exact join_mem h32 (fun z hz=>h z (by simp [hz])) c hc
theorem line_says {s:ByteArray} {verb:List UInt8} {ns:List Int} {c:Cmd} (hs:s.data.toList=joinW (lineW verb ns)) (hv:WordOk verb) (ha:∀ c∈verb,c.toNat < 128) (hz:s.size≤65536)
 (hc:cmdR (wpl 0 (lineW verb ns)) s.size=(some c,ns.length+1,none)):parseS s=(some c,0,0):=by
 have hw:=line_words hs hv
 have ht:¬ 0≤tornS s:=by
  rw [torn_ascii (s:=s) (fun c hc=>by
   rw [hs] at hc
   refine join_mem (P:=fun c=>c.toNat < 128) (by decide) (fun x hx c hc=>?_) c hc
   rcases List.mem_cons.1 hx with hx | hx
   · rw [hx] at hc; exact ha _ hc
   · obtain ⟨n,_,rfl⟩:=List.mem_map.1 hx
     rcases itoa_mem n _ hc with h | h <;> omega)]
  decide
 have hn:wds s≠[]:=by
  rw [hw]; unfold lineW wpl; simp
 have hb:badS (wds s) s.size=none:=by
  rw [hw]
  unfold badS
  rw [hc]
  dsimp only
  rw [if_neg]
  rw [wpl_len]
  simp [lineW]
 rw [parse_none (by omega) ht hn hb,hw,hc]
theorem line_v0 (verb:List UInt8) (ns:List Int):(nextT (wpl 0 (lineW verb ns)) 0 none).toList=verb:=by
 have h:0 < (wpl 0 (lineW verb ns)).length:=by rw [wpl_len]; simp [lineW]
 rw [(next_yes (E:=0) h).1,Lib.toList_data,wpl_get]
 rfl
theorem cmd_create (ns:List Int) (hl:ns.length=5) (hn:∀ n∈ns,I64 n) (E:Nat):cmdR (wpl 0 (lineW [99,114,101,97,116,101] ns)) E=(some (.create (ns.getD 0 0) (ns.getD 1 0) (ns.getD 2 0) (ns.getD 3 0) (ns.getD 4 0 % 18446744073709551616)),6,none):=by
 have h:=nums_at [99,114,101,97,116,101] ns hn E
 unfold cmdR
 rw [line_v0]
 dsimp only
 rw [if_pos rfl,(h 0 (by omega)).2 (by omega),(h 1 (by omega)).2 (by omega),(h 2 (by omega)).2 (by omega),(h 3 (by omega)).2 (by omega),(h 4 (by omega)).2 (by omega),(h 5 (by omega)).1]
end Go.Proofs.YtmalncfcgcebhaaGreatDoor
namespace Go.Proofs.YtmalncfcgcebhaaGreatDoor
set_option linter.unusedVariables false
open Go.Proofs Go.RowKit
set_option maxRecDepth 20000 in
set_option maxHeartbeats 4000000 in
theorem DoAdd_c {w:World} {N p m:Nat} {l:List (Nat × Th)} {last:Nat} {R:(Option Rep × Int) × St} (hpl:p < w.heap.size) (h:Int) (nm:Bool) (name:ByteArray) (key d:Int)
 (H:∀ w1,Ext w w1→Calls Tryz.prog 84 #[.pointer (some ⟨p,0,none⟩),addCV h nm name key d] w1 (DoPost w1 N p m l last R)) :
 Calls Tryz.prog 43 #[.pointer (some ⟨p,0,none⟩),.iface 174 (addCV h nm name key d)] w (DoPost w N p m l last R):=by
 have HH:=Lib.hid H
 clear H
 unfold addCV at *
 go_enter Tryz.func43,Tryz.ntmps43
 go_wp2_with fail
 refine Calls.mono (HH.out _ (Ext.alloc' _ _)) ?_
 intro e w2 h5
 have h6:=h5.back (Ext.alloc' w _)
 obtain ⟨⟨v,l',last',rfl,_⟩,_⟩:=h5
 have H6:=Lib.hid h6
 clear h6
 go_wp2
 go_ret2
 exact H6.out
def DoIs (S:St) (c:Cmd) (R:(Option Rep × Int) × St):Prop :=
 ∀ (w:World) (N p m:Nat) (l:List (Nat × Th)) (last base:Nat) (v:Value),AgAt w N p m l last→stOf l last=S→10≤N→Tabs w→last < 1000000→CmdAt base w v c→Calls Tryz.prog 43 #[.pointer (some ⟨p,0,none⟩),v] w (DoPost w N p m l last R)
def TextIs (x:Rep):Prop:=∀ (base:Nat) (w1:World) (v:Value),RepAt base w1 v x→Tabs w1→Calls Tryz.prog 46 #[v] w1 fun e w'=>e=.returned (strV (repT x))∧Ext w1 w'
def lineF (D:St→Cmd→(Option Rep × Int) × St) (S:St) (l:List UInt8):Option (List UInt8) × St :=
 match parseS ⟨l.toArray⟩ with
 | (r,at_,c)=>if c=0 then (match r with | none=>(none,S) | some x=>(some (ansT (D S x).1),(D S x).2)) else (some (errT c++[32,97,116,32]++Lib.itoa at_),S)
def OfAg (S:St):Prop:=∃ (w:World) (N p m:Nat) (l:List (Nat × Th)) (last:Nat),AgAt w N p m l last∧stOf l last=S
structure DoOk (S:St) (c:Cmd) (R:(Option Rep × Int) × St):Prop where
 is:DoIs S c R
 yes:R.1.2=0→∃ x,R.1.1=some x
 tx:OfAg S→∀ x,R.1.1=some x→TextIs x
 ie:I64 R.1.2
theorem lineF_is {D:St→Cmd→(Option Rep × Int) × St} {S:St} {s:ByteArray} (hs:s.size≤100000000) (hI:I64 (parseS s).2.1∧I64 (parseS s).2.2) (hn:(parseS s).2.2≠0→(parseS s).1=none) (h:∀ c,(parseS s).1=some c→DoOk S c (D S c)):LineIs S s (lineF D S s.data.toList):=by
 intro w N p m l last hA hS hN hT hl
 have e1:(⟨s.data.toList.toArray⟩:ByteArray)=s:=by cases s; simp
 unfold lineF
 rw [e1]
 generalize hp:parseS s=P at *
 obtain ⟨r,at_,c⟩:=P
 dsimp only at *
 by_cases h0:c=0
 · subst h0
   rw [if_pos rfl]
   cases r with
   | none=>rw [← hS]; exact ALine_none hA hT s hs hp
   | some x =>
     have hx:=h x rfl
     refine ALine_cmd hA hN hT s hs hp hx.yes hx.ie (fun w1 v hx1 hv=>hx.is w1 N p m l last _ v (hA.ext hx1) hS hN (hT.ext hx1) hl hv) fun y base w1 v hy hr hT1=>hx.tx ⟨w,N,p,m,l,last,hA,hS⟩ y hy base w1 v hr hT1
 · rw [if_neg h0]
   rw [hn h0] at hp
   rw [← hS]
   exact ALine_err hA hT s hs hp h0 hI.1 hI.2
def AllSt (S:St):Prop:=∀ x∈S.l,∃ C B ls,x.2=AT.st C B ls
theorem AllSt.th {l:List (Nat × Th)} {last:Nat} (h:AllSt (stOf l last)) {k:Int} {x:Nat × Th} (hf:fnd l k=some x):∃ i bk C B,x=(i,.st bk C B):=by
 obtain ⟨i,t⟩:=x
 obtain ⟨C,B,ls,h2⟩:=h (i,t.ab) (List.mem_map.2 ⟨_,(fnd_mem hf).1,rfl⟩)
 cases t with
 | st bk C B=>exact ⟨_,_,_,_,rfl⟩
 | wi=>cases h2
theorem stOf_find (l:List (Nat × Th)) (last:Nat) (k:Int):(stOf l last).l.find? (fun x=>decide ((x.1:Int)=k))=(fnd l k).map fun x=>(x.1,x.2.ab):=fnd_ab l k
def dropF (S:St) (h:Int):(Option Rep × Int) × St:=match S.l.find? (fun x=>decide ((x.1:Int)=h)) with
 | none=>((none,10),S)
 | some _=>((some .done,0),⟨dropL S.l h,S.last⟩)
def totalF (S:St) (h:Int):(Option Rep × Int) × St:=match S.l.find? (fun x=>decide ((x.1:Int)=h)) with
 | none=>((none,10),S)
 | some (_,T)=>((some (.number ((T.ls T.B).getD 0 0)),0),S)
theorem q_empty {base:Nat} {w:World} {v:Value} {what:ByteArray} {h:Int} {l:List Int} (hv:CmdAt base w v (.query what h l)):∃ q n c,v=.iface 179 (.agg #[.string what,.int .i64 h,.slice q n c]):=by
 obtain ⟨s,rfl,⟨_,rfl⟩ | ⟨g,f,rfl,_⟩⟩:=hv
 · exact ⟨_,_,_,rfl⟩
 · exact ⟨_,_,_,rfl⟩
theorem DoOk.create (S:St) (C:Cfg) (hs:U64 C.seed) (hl:S.last < 1000000):DoOk S (.create C.bits C.rows C.width C.mode C.seed) (createF S C):=by
 refine ⟨?_, ?_, ?_, ?_⟩
 · rintro w N p m l last base v hA rfl hN hT hl rfl
   exact DoCreate_c hA C hs hl
 · unfold createF madeF
   repeat' split
   all_goals simp
 · unfold createF madeF
   repeat' split
   · rintro _ x h; cases h
   · rintro _ x h
     cases h
     rintro base w v rfl hT
     exact AText_handle _ (by unfold I64; omega) w hT
   · rintro _ x h; cases h
 · unfold createF madeF I64
   repeat' split
   all_goals dsimp only; omega
theorem lvE_small (C:Cfg) (lv:Int) (l:List Int) (key d:Int):0≤lvE C lv l key d∧lvE C lv l key d≤4:=by
 have k:∀ (b:Bool) (x y:Int),(0≤x∧x≤4)→(0≤y∧y≤4)→0≤(bif b then x else y)∧(bif b then x else y)≤4:=fun b x y h1 h2=>by cases b <;> assumption
 unfold lvE errX errU
 refine k _ _ _ (k _ _ _ (k _ _ _ ?_ (k _ _ _ ?_ ?_)) ?_) (k _ _ _ (k _ _ _ (k _ _ _ ?_ (k _ _ _ ?_ ?_)) (k _ _ _ ?_ ?_)) ?_)
 all_goals omega
theorem err_small (C:Cfg) (B:Nat) (ls:Nat→List Int) (key d:Int):0≤errK C B ls key d∧errK C B ls key d≤4:=by
 have k:∀ n,0≤errs C ls key d n∧errs C ls key d n≤4:=by
  intro n
  induction n with
  | zero=>simp [errs]
  | succ n ih =>
    unfold errs fst_
    cases decide (errs C ls key d n=0)
    · exact ih
    · exact lvE_small _ _ _ _ _
 unfold errK
 cases decide (keys C 0≤key)
 · exact k _
 · show 0≤(2:Int)∧(2:Int)≤4
   decide
theorem err_i {C:Cfg} {B:Nat} {ls:Nat→List Int} {key d:Int}:I64 (errK C B ls key d):=by
 have:=err_small C B ls key d
 unfold I64; omega
theorem DoOk.add (S:St) (hS:AllSt S) (h:Int) (nm:Bool) (name:ByteArray) (key d:Int) (hh:I64 h) (hk:U64 key) (hd:I64 d):DoOk S (.add h nm name key d) (addF S h nm key d):=by
 refine ⟨?_, ?_, ?_, ?_⟩
 · rintro w N p m l last base v hA rfl hN hT hl rfl
   refine DoAdd_c hA.ltp h nm name key d fun w1 hx=>?_
   cases hf:fnd l h with
   | none =>
     rw [addF_none hf]
     refine (AAdd_no (hA.ext hx) h nm name key d hh hf).mono ?_
     rintro e w' ⟨rfl,hx2⟩
     exact DoPost.same (hA.ext hx) hx2 (r:=none) rfl
   | some x =>
     obtain ⟨i,bk,C,B,rfl⟩:=hS.th hf
     exact AAdd_st (hA.ext hx) h nm name key d hh hk hd hf
 · unfold addF doneF
   repeat' split
   all_goals simp_all
 · unfold addF doneF
   rintro _ x hx
   have:x=.done:=by
    revert hx
    repeat' split
    all_goals simp_all
   subst this
   rintro base w v rfl hT
   exact AText_done w
 · unfold addF doneF
   repeat' split
   · unfold I64; dsimp only; omega
   · unfold I64; dsimp only; omega
   · rename_i i T hf he
     obtain ⟨C,B,ls,h2⟩:=hS _ (List.mem_of_find?_eq_some hf)
     dsimp only at h2
     subst h2
     exact err_i
theorem DoOk.drop (S:St) (h:Int) (hh:I64 h) (l:List Int):DoOk S (.query ⟨#[100,114,111,112]⟩ h l) (dropF S h):=by
 refine ⟨?_, ?_, ?_, ?_⟩
 · rintro w N p m l last base v hA rfl hN hT hl hv
   obtain ⟨q,n,c,rfl⟩:=q_empty hv
   refine DoQuery_c hA.ltp _ h q n c fun w1 hx=>?_
   unfold dropF
   rw [stOf_find]
   cases hf:fnd l h with
   | none =>
     refine (AQuery_no (hA.ext hx) _ h (.slice q n c) rfl hh hf).mono ?_
     rintro e w' ⟨rfl,hx2⟩
     exact DoPost.same (hA.ext hx) hx2 (r:=none) rfl
   | some x=>exact AQuery_drop (hA.ext hx) h _ rfl hh hf
 · unfold dropF
   split <;> simp
 · unfold dropF
   rintro _ x hx
   have:x=.done:=by
    revert hx
    split
    all_goals simp_all
   subst this
   rintro base w v rfl hT
   exact AText_done w
 · unfold dropF I64
   split <;> (dsimp only; omega)
theorem tot_i {S:St} (hO:OfAg S) {h:Int} {i:Nat} {T:AT} (hf:S.l.find? (fun x=>decide ((x.1:Int)=h))=some (i,T)):I64 ((T.ls T.B).getD 0 0):=by
 obtain ⟨w,N,p,m,l,last,hA,rfl⟩:=hO
 rw [stOf_find] at hf
 obtain ⟨x,hx,he⟩:=Option.map_eq_some_iff.1 hf
 cases he
 rw [Th.ab_B,Th.ab_ls]
 have hth:=hA.th x (fnd_mem hx).1
 have key:∀ (l:List Int),(∀ y∈l,I64 y)→I64 (l.getD 0 0):=fun l hl=>by
  cases l with
  | nil=>simp [I64]
  | cons a l=>simpa using hl a (by simp)
 obtain ⟨i,t⟩:=x
 cases t with
 | st bk C B=>exact key _ (KAt.lev (show bk.At w C B from hth) B (Nat.le_refl _)).fit
 | wi p b C B n sm bk=>exact key _ (KAt.lev (WAt.sum hth) B (Nat.le_refl _)).fit
theorem DoOk.total (S:St) (h:Int) (hh:I64 h) (l:List Int):DoOk S (.query ⟨#[116,111,116,97,108]⟩ h l) (totalF S h):=by
 refine ⟨?_, ?_, ?_, ?_⟩
 · rintro w N p m l last base v hA rfl hN hT hl hv
   obtain ⟨q,n,c,rfl⟩:=q_empty hv
   refine DoQuery_c hA.ltp _ h q n c fun w1 hx=>?_
   unfold totalF
   rw [stOf_find]
   cases hf:fnd l h with
   | none =>
     refine (AQuery_no (hA.ext hx) _ h (.slice q n c) rfl hh hf).mono ?_
     rintro e w' ⟨rfl,hx2⟩
     exact DoPost.same (hA.ext hx) hx2 (r:=none) rfl
   | some x =>
     have:=AQuery_total (hA.ext hx) h (.slice q n c) rfl hh hf
     simp only [Option.map_some,Th.ab_B,Th.ab_ls]
     exact this
 · unfold totalF
   split <;> simp
 · intro hO x hx
   unfold totalF at hx
   split at hx
   · cases hx
   · rename_i hf
     cases hx
     rintro base w v rfl hT
     exact AText_num _ (tot_i hO hf) w hT
 · unfold totalF I64
   split <;> (dsimp only; omega)
def doA (S:St):Cmd→(Option Rep × Int) × St
 | .create B R W M s=>createF S ⟨B,R,W,M,s⟩
 | .add h nm _ key d=>addF S h nm key d
 | .query what h _=>if what=⟨#[100,114,111,112]⟩ then dropF S h else totalF S h
 | _=>((none,10),S)
def okA:Cmd→Prop
 | .create _ _ _ _ s=>U64 s
 | .add h _ _ key d=>I64 h∧U64 key∧I64 d
 | .query what h _=>(what=⟨#[100,114,111,112]⟩∨what=⟨#[116,111,116,97,108]⟩)∧I64 h
 | _=>False
theorem doA_is (S:St) (hS:AllSt S) (hl:S.last < 1000000) (c:Cmd) (hc:okA c):DoOk S c (doA S c):=by
 cases c with
 | create B R W M s=>exact DoOk.create S ⟨B,R,W,M,s⟩ hc hl
 | add h nm name key d=>exact DoOk.add S hS h nm name key d hc.1 hc.2.1 hc.2.2
 | query what h l =>
   rcases hc with ⟨rfl | rfl,hh⟩
   · exact DoOk.drop S h hh l
   · exact DoOk.total S h hh l
 | _=>exact hc.elim
theorem mem_setL {l:List (Nat × AT)} {i:Nat} {x:AT} {y:Nat × AT} (h:y∈setL l i x):y∈l∨y.2=x:=by
 unfold setL at h
 obtain ⟨z,hz,rfl⟩:=List.mem_map.1 h
 split
 · exact .inr rfl
 · exact .inl hz
theorem doA_st (S:St) (hS:AllSt S) (c:Cmd):AllSt (doA S c).2:=by
 cases c with
 | create B R W M s =>
   show AllSt (createF S _).2
   unfold createF madeF
   repeat' split
   · exact hS
   · intro x hx
     rcases List.mem_append.1 hx with hx | hx
     · exact hS x hx
     · simp only [List.mem_singleton] at hx
       subst hx
       exact ⟨_,_,_,rfl⟩
   · exact hS
 | add h nm name key d =>
   show AllSt (addF S h nm key d).2
   unfold addF
   repeat' split
   · exact hS
   · rename_i i T hf he
     obtain ⟨C,B,ls,h2⟩:=hS _ (List.mem_of_find?_eq_some hf)
     dsimp only at h2
     subst h2
     intro x hx
     rcases mem_setL hx with hx | hx
     · exact hS x hx
     · exact ⟨_,_,_,hx⟩
   · exact hS
 | query what h l =>
   show AllSt (if what=⟨#[100,114,111,112]⟩ then dropF S h else totalF S h).2
   unfold dropF totalF
   repeat' split
   · exact hS
   · intro x hx
     exact hS x (List.mem_filter.1 hx).1
   · exact hS
   · exact hS
 | _=>exact hS
end Go.Proofs.YtmalncfcgcebhaaGreatDoor
namespace Go.Proofs.YtmalncfcgcebhaaGreatDoor
set_option linter.unusedVariables false
open Go.Proofs Go.RowKit
theorem itoaW_len {x:Int} (hx:W128 x):(Lib.itoa x).length≤70:=by
 have h5:(10:Nat) ^ (59+1)=1000000000000000000000000000000000000000000000000000000000000:=by decide
 unfold W128 at hx
 unfold Lib.itoa
 split
 · have:=dec_len 59 x.natAbs (by omega)
   simp only [List.length_cons]
   omega
 · have:=dec_len 59 x.toNat (by omega)
   omega
set_option maxRecDepth 20000 in
theorem AText_wide (x:Int) (hx:W128 x) (w:World):Calls Tryz.prog 46 #[.iface 196 (.agg #[.int .i64 (hi x),.int .u64 (lo x)])] w fun e w'=>e=.returned (strV ([119,105,100,101,32]++Lib.itoa x))∧Ext w w':=by
 have HI:=fun w'=>Lib.hid (WText_c x hx w')
 have hil:=itoaW_len hx
 go_enter Tryz.func46,Tryz.ntmps46
 go_wp2_with fail
 refine Calls.mono (HI _).out ?_
 rintro r w1 ⟨rfl,hx1⟩
 have HX:=Lib.hid (show Ext w w1 from Ext.trans' (by (repeat' (first | exact Ext.refl _ | assumption | apply Ext.allocR | apply Ext.drewR | apply Ext.drewNR | (refine Ext.trans' ?_ (by assumption))))) hx1)
 clear hx1
 unfold strV
 go_wp2
 go_ret
 exact ⟨congrArg Ending.returned (congrArg Value.string (cat_str _ _)),HX.out⟩
set_option maxRecDepth 20000 in
set_option maxHeartbeats 4000000 in
theorem DoPair_c {w:World} {N p m:Nat} {l:List (Nat × Th)} {last:Nat} {R:(Option Rep × Int) × St} (hpl:p < w.heap.size) (what:ByteArray) (a b:Int)
 (H:∀ w1,Ext w w1→Calls Tryz.prog 87 #[.pointer (some ⟨p,0,none⟩),.agg #[.string what,.int .i64 a,.int .i64 b]] w1 (DoPost w1 N p m l last R)) :
 Calls Tryz.prog 43 #[.pointer (some ⟨p,0,none⟩),.iface 182 (.agg #[.string what,.int .i64 a,.int .i64 b])] w (DoPost w N p m l last R):=by
 have HH:=Lib.hid H
 clear H
 go_enter Tryz.func43,Tryz.ntmps43
 go_wp2_with fail
 refine Calls.mono (HH.out _ (Ext.alloc' _ _)) ?_
 intro e w2 h5
 have h6:=h5.back (Ext.alloc' w _)
 obtain ⟨⟨v,l',last',rfl,_⟩,_⟩:=h5
 have H6:=Lib.hid h6
 clear h6
 go_wp2
 go_ret2
 exact H6.out
end Go.Proofs.YtmalncfcgcebhaaGreatDoor
namespace Go.Proofs.YtmalncfcgcebhaaGreatDoor
set_option linter.unusedVariables false
open Go.Proofs Go.RowKit
noncomputable def askF (S:St) (h:Int) (f:AT→Option Rep × Int):(Option Rep × Int) × St:=match S.l.find? (fun x=>decide ((x.1:Int)=h)) with
 | none=>((none,10),S)
 | some (_,T)=>(f T,S)
theorem q_two {base:Nat} {w:World} {v:Value} {what:ByteArray} {h a b:Int} (hv:CmdAt base w v (.query what h [a,b])):∃ g,v=.iface 179 (.agg #[.string what,.int .i64 h,.slice (some ⟨g,1,none⟩) 2 2])∧g < w.heap.size∧w.cell? ⟨g,1,none⟩=some (.int .i64 a)∧w.cell? ⟨g,2,none⟩=some (.int .i64 b):=by
 obtain ⟨s,rfl,⟨h0,_⟩ | ⟨g,f,rfl,hb,hg,hl⟩⟩:=hv
 · cases h0
 · have e:[a,b]=[f 1,f 2]:=hl
   injection e with e1 e2
   injection e2 with e2 _
   refine ⟨g,rfl,lt_of hg, ?_, ?_⟩
   · rw [e1]; exact fill_cell hg (by simp)
   · rw [e2]; exact fill_cell hg (by simp)
theorem q_one {base:Nat} {w:World} {v:Value} {what:ByteArray} {h a:Int} (hv:CmdAt base w v (.query what h [a])):∃ g,v=.iface 179 (.agg #[.string what,.int .i64 h,.slice (some ⟨g,1,none⟩) 1 1])∧g < w.heap.size∧w.cell? ⟨g,1,none⟩=some (.int .i64 a):=by
 obtain ⟨s,rfl,⟨h0,_⟩ | ⟨g,f,rfl,hb,hg,hl⟩⟩:=hv
 · cases h0
 · have e:[a]=[f 1]:=hl
   injection e with e1 e2
   refine ⟨g,rfl,lt_of hg, ?_⟩
   rw [e1]; exact fill_cell hg (by simp)
theorem askIs {S:St} {what:ByteArray} {h:Int} (hh:I64 h) {l:List Int} {f:AT→Option Rep × Int} (hsl:∀ base w v,CmdAt base w v (.query what h l)→∃ q n c,v=.iface 179 (.agg #[.string what,.int .i64 h,.slice q n c]))
 (H:∀ (w:World) (N p m:Nat) (l':List (Nat × Th)) (last base:Nat) (q:Option Addr) (n c:Nat) (z:Nat × Th),AgAt w N p m l' last→fnd l' h=some z→CmdAt base w (.iface 179 (.agg #[.string what,.int .i64 h,.slice q n c])) (.query what h l)→∀ w1,Ext w w1 →
  Calls Tryz.prog 86 #[.pointer (some ⟨p,0,none⟩),.agg #[.string what,.int .i64 h,.slice q n c]] w1 (DoPost w1 N p m l' last (f z.2.ab,stOf l' last))):DoIs S (.query what h l) (askF S h f):=by
 rintro w N p m l' last base v hA rfl hN hT hlast hv
 obtain ⟨q,n,c,rfl⟩:=hsl base w v hv
 refine DoQuery_c hA.ltp _ h q n c fun w1 hx=>?_
 unfold askF
 rw [stOf_find]
 cases hf:fnd l' h with
 | none =>
   refine (AQuery_no (hA.ext hx) _ h (.slice q n c) rfl hh hf).mono ?_
   rintro e w' ⟨rfl,hx2⟩
   exact DoPost.same (hA.ext hx) hx2 (r:=none) rfl
 | some z=>exact H w N p m l' last base q n c z hA hf hv w1 hx
noncomputable def pointF (T:AT) (a b:Int):Option Rep × Int:=numF (pointR T.C T.B T.ls a (uu b)).1 (pointR T.C T.B T.ls a (uu b)).2
noncomputable def rangeF (T:AT) (a b:Int):Option Rep × Int:=numF (rangeR (ptU T.C T.ls) T.B (uu a) (uu b)).1 (rangeR (ptU T.C T.ls) T.B (uu a) (uu b)).2
noncomputable def quanF (T:AT) (a:Int):Option Rep × Int:=keyF (quanR (ptU T.C T.ls) T.B ((T.ls T.B).getD 0 0) a).1 (quanR (ptU T.C T.ls) T.B ((T.ls T.B).getD 0 0) a).2
noncomputable def heavF (T:AT) (a b:Int):Option Rep × Int:=listF (heavyP (ptU T.C T.ls) a b T.B).1 (heavyP (ptU T.C T.ls) a b T.B).2
theorem DoIs.point (S:St) (h a b:Int) (hh:I64 h) (ha:I64 a) (hb:I64 b):DoIs S (.query ⟨#[112,111,105,110,116]⟩ h [a,b]) (askF S h fun T=>pointF T a b):=by
 refine askIs hh (fun base w v hv=>by obtain ⟨g,rfl,_⟩:=q_two hv; exact ⟨_,_,_,rfl⟩) ?_
 intro w N p m l' last base q n c z hA hf hv w1 hx
 obtain ⟨g,e,hgl,g1,g2⟩:=q_two hv
 cases e
 have:=AQuery_point (hA.ext hx) h hh g a b ha hb (Nat.lt_of_lt_of_le hgl hx.size) ((hx.cell hgl).trans g1) ((hx.cell hgl).trans g2) hf
 unfold pointF
 rw [Th.ab_C,Th.ab_B,Th.ab_ls]
 exact this
theorem DoIs.range (S:St) (h a b:Int) (hh:I64 h) (ha:I64 a) (hb:I64 b):DoIs S (.query ⟨#[114,97,110,103,101]⟩ h [a,b]) (askF S h fun T=>rangeF T a b):=by
 refine askIs hh (fun base w v hv=>by obtain ⟨g,rfl,_⟩:=q_two hv; exact ⟨_,_,_,rfl⟩) ?_
 intro w N p m l' last base q n c z hA hf hv w1 hx
 obtain ⟨g,e,hgl,g1,g2⟩:=q_two hv
 cases e
 have:=AQuery_range (hA.ext hx) h hh g a b ha hb (Nat.lt_of_lt_of_le hgl hx.size) ((hx.cell hgl).trans g1) ((hx.cell hgl).trans g2) hf
 unfold rangeF
 rw [Th.ab_C,Th.ab_B,Th.ab_ls]
 exact this
theorem DoIs.quan (S:St) (h a:Int) (hh:I64 h) (ha:I64 a):DoIs S (.query ⟨#[113,117,97,110,116,105,108,101]⟩ h [a]) (askF S h fun T=>quanF T a):=by
 refine askIs hh (fun base w v hv=>by obtain ⟨g,rfl,_⟩:=q_one hv; exact ⟨_,_,_,rfl⟩) ?_
 intro w N p m l' last base q n c z hA hf hv w1 hx
 obtain ⟨g,e,hgl,g1⟩:=q_one hv
 cases e
 have:=AQuery_quantile (hA.ext hx) h hh g a ha (Nat.lt_of_lt_of_le hgl hx.size) ((hx.cell hgl).trans g1) hf
 unfold quanF
 rw [Th.ab_C,Th.ab_B,Th.ab_ls]
 exact this
theorem DoIs.heavy (S:St) (h a b:Int) (hh:I64 h) (ha:I64 a) (hb:I64 b):DoIs S (.query ⟨#[104,101,97,118,121]⟩ h [a,b]) (askF S h fun T=>heavF T a b):=by
 refine askIs hh (fun base w v hv=>by obtain ⟨g,rfl,_⟩:=q_two hv; exact ⟨_,_,_,rfl⟩) ?_
 intro w N p m l' last base q n c z hA hf hv w1 hx
 obtain ⟨g,e,hgl,g1,g2⟩:=q_two hv
 cases e
 have:=AQuery_heavy (hA.ext hx) h hh g a b ha hb (Nat.lt_of_lt_of_le hgl hx.size) ((hx.cell hgl).trans g1) ((hx.cell hgl).trans g2) hf
 unfold heavF
 rw [Th.ab_C,Th.ab_B,Th.ab_ls]
 exact this
noncomputable def pairF (S:St) (a b:Int) (f:Nat→AT→AT→(Option Rep × Int) × St):(Option Rep × Int) × St :=
 match S.l.find? (fun x=>decide ((x.1:Int)=a)),S.l.find? (fun x=>decide ((x.1:Int)=b)) with
 | some (i,T),some (_,U)=>f i T U
 | _,_=>((none,10),S)
theorem pairIs {S:St} {what:ByteArray} {a b:Int} (ha:I64 a) (hb:I64 b) {f:Nat→AT→AT→(Option Rep × Int) × St}
 (H:∀ (w:World) (N p m:Nat) (l':List (Nat × Th)) (last:Nat) (z1 z2:Nat × Th),AgAt w N p m l' last→fnd l' a=some z1→fnd l' b=some z2→stOf l' last=S →
  Calls Tryz.prog 87 #[.pointer (some ⟨p,0,none⟩),.agg #[.string what,.int .i64 a,.int .i64 b]] w (DoPost w N p m l' last (f z1.1 z1.2.ab z2.2.ab))):DoIs S (.pair what a b) (pairF S a b f):=by
 rintro w N p m l' last base v hA rfl hN hT hlast rfl
 refine DoPair_c hA.ltp what a b fun w1 hx=>?_
 have hA1:=hA.ext hx
 have hno:∀ {x1 y1 x2 y2:Option Addr} {k1 k2:Bool},(∀ W1,Ext w1 W1→∀ y:After W1,(Instr.lookup 142 (.map (some m)) (.int .i64 a) true).run Tryz.prog y.w=.ok (.tuple #[.agg #[.pointer x1,.pointer y1],.bool k1]) y.w) →
  (∀ W1,Ext w1 W1→∀ y:After W1,(Instr.lookup 142 (.map (some m)) (.int .i64 b) true).run Tryz.prog y.w=.ok (.tuple #[.agg #[.pointer x2,.pointer y2],.bool k2]) y.w)→k1=false∨k2=false→Calls Tryz.prog 87 #[.pointer (some ⟨p,0,none⟩),.agg #[.string what,.int .i64 a,.int .i64 b]] w1 (DoPost w1 N p m l' last ((none,10),stOf l' last)) :=
  fun h1 h2 hk=>APair_no hA1 what a b ha hb h1 h2 hk
 unfold pairF
 rw [stOf_find,stOf_find]
 cases hf1:fnd l' a with
 | none =>
   cases hf2:fnd l' b with
   | none=>exact hno (x1:=none) (y1:=none) (x2:=none) (y2:=none) (k1:=false) (k2:=false) (fun W1 h=>hA1.lookno_a h ha hf1) (fun W1 h=>hA1.lookno_a h hb hf2) (.inl rfl)
   | some z2 =>
     obtain ⟨x2,y2,hv2⟩:=z2.2.v_two
     exact hno (x1:=none) (y1:=none) (x2:=x2) (y2:=y2) (k1:=false) (k2:=true) (fun W1 h=>hA1.lookno_a h ha hf1) (fun W1 h=>by rw [← hv2]; exact hA1.look_a h hb hf2) (.inl rfl)
 | some z1 =>
   obtain ⟨x1,y1,hv1⟩:=z1.2.v_two
   cases hf2:fnd l' b with
   | none=>exact hno (x1:=x1) (y1:=y1) (x2:=none) (y2:=none) (k1:=true) (k2:=false) (fun W1 h=>by rw [← hv1]; exact hA1.look_a h ha hf1) (fun W1 h=>hA1.lookno_a h hb hf2) (.inr rfl)
   | some z2=>exact H w1 N p m l' last z1 z2 hA1 hf1 hf2 rfl
noncomputable def innF2 (S:St) (T U:AT):(Option Rep × Int) × St:=(wideF (innW T.C T.ls U.C U.ls).1 (innW T.C T.ls U.C U.ls).2,S)
theorem DoIs.inner (S:St) (a b:Int) (ha:I64 a) (hb:I64 b):DoIs S (.pair ⟨#[105,110,110,101,114]⟩ a b) (pairF S a b fun _ T U=>innF2 S T U):=by
 refine pairIs ha hb ?_
 rintro w N p m l' last z1 z2 hA hf1 hf2 rfl
 have:=APair_inner hA a b ha hb hf1 hf2
 unfold innF2
 rw [Th.ab_C,Th.ab_ls,Th.ab_C,Th.ab_ls]
 exact this
def jointF (S:St) (i:Nat) (T U:AT) (er:Cfg→Nat→(Nat→List Int)→Cfg→(Nat→List Int)→Int) (op:List Int→List Int→List Int):(Option Rep × Int) × St :=
 match T with
 | .st C B ls=>(doneF (er C B ls U.C U.ls),if er C B ls U.C U.ls=0 then ⟨setL S.l i (.st C B (fun n=>op (ls n) (U.ls n))),S.last⟩ else S)
 | .wi ..=>((none,3),S)
theorem DoIs.merge (S:St) (a b:Int) (ha:I64 a) (hb:I64 b):DoIs S (.pair ⟨#[109,101,114,103,101]⟩ a b) (pairF S a b fun i T U=>jointF S i T U mrgE plusL):=by
 refine pairIs ha hb ?_
 rintro w N p m l' last ⟨i,T⟩ z2 hA hf1 hf2 rfl
 cases T with
 | st bk C B =>
   have:=APair_merge hA a b ha hb hf1 hf2
   unfold jointF
   rw [Th.ab_C,Th.ab_ls]
   exact this
 | wi p' b' C B n sm bk=>exact APair_win hA _ a b ha hb hf1 hf2 (by rw [Lib.toList_data]; decide)
theorem DoIs.subtract (S:St) (a b:Int) (ha:I64 a) (hb:I64 b):DoIs S (.pair ⟨#[115,117,98,116,114,97,99,116]⟩ a b) (pairF S a b fun i T U=>jointF S i T U subE minusL):=by
 refine pairIs ha hb ?_
 rintro w N p m l' last ⟨i,T⟩ z2 hA hf1 hf2 rfl
 cases T with
 | st bk C B =>
   have:=APair_subtract hA a b ha hb hf1 hf2
   unfold jointF
   rw [Th.ab_C,Th.ab_ls]
   exact this
 | wi p' b' C B n sm bk=>exact APair_win hA _ a b ha hb hf1 hf2 (by rw [Lib.toList_data]; decide)
end Go.Proofs.YtmalncfcgcebhaaGreatDoor
namespace Go.Proofs.YtmalncfcgcebhaaGreatDoor
set_option linter.unusedVariables false
open Go.RowKit
theorem hvN_kid {pt:Nat→Int→Int} {least:Int} {n:Nat} {row:List Int} {j:Int} (h:j∈hvN pt least n row):∃ i∈row,j=2*i∨j=2*i+1:=by
 unfold hvN at h
 split at h
 · cases h
 · obtain ⟨i,hi,hj⟩:=List.mem_flatMap.1 h
   refine ⟨i,(List.mem_filter.1 hi).1, ?_⟩
   simp only [List.mem_cons,List.mem_nil_iff,or_false] at hj
   exact hj
theorem hvF_mem {pt:Nat→Int→Int} {least:Int} {n:Nat} {row:List Int} {f:Fd} (h:f∈hvF pt least n row):∃ i∈row,f=(n,i,pt n i):=by
 unfold hvF at h
 obtain ⟨i,hi,rfl⟩:=List.mem_map.1 h
 exact ⟨i,(List.mem_filter.1 hi).1,rfl⟩
theorem hvGo_ok {pt:Nat→Int→Int} (hI:∀ n i,I64 (pt n i)) {least budget:Int} {B:Nat} (hB:B≤59):∀ (n:Nat) (asked:Int) (row:List Int) (out res:List Fd),n≤B+1→hvGo pt least budget n asked row out=some res →
 (∀ i∈row,0≤i∧i < 2 ^ (B+1 - n))→(∀ f∈out,FdOk f)→((out.length:Int)≤asked)→(asked≤budget∨out=[])→(∀ f∈res,FdOk f)∧((res.length:Int)≤budget∨res=[]):=by
 intro n
 induction n with
 | zero =>
   intro asked row out res hn h hr ho hl hb
   injection h with h
   subst h
   exact ⟨ho,hb.imp (fun h=>by omega) id⟩
 | succ n ih =>
   intro asked row out res hn h hr ho hl hb
   unfold hvGo at h
   split at h
   · cases h
   · rename_i hle
     have hF:=hvF_len pt least n row
     refine ih _ _ _ _ (by omega) h ?_ ?_ ?_ (.inl (by omega))
     · intro j hj
       obtain ⟨i,hi,h2⟩:=hvN_kid hj
       have h3:=hr i hi
       have h4:(2:Int) ^ (B+1 - n)=2 ^ (B+1 - (n+1))*2:=by
        rw [← Int.pow_succ]
        congr 1
        omega
       rw [h4]
       rcases h2 with rfl | rfl <;> omega
     · intro f hf
       rcases List.mem_append.1 hf with hf | hf
       · exact ho f hf
       · obtain ⟨i,hi,rfl⟩:=hvF_mem hf
         have h3:=hr i hi
         have h4:(2:Int) ^ (B+1 - (n+1))≤2 ^ 60:=by
          have:B+1 - (n+1)≤60:=by omega
          have h5:=Nat.pow_le_pow_right (show 1≤2 by decide) this
          have h6:((2 ^ (B+1 - (n+1)):Nat):Int)≤((2 ^ 60:Nat):Int):=by exact_mod_cast h5
          simpa using h6
         have h7:(2:Int) ^ 60=1152921504606846976:=by decide
         refine ⟨by dsimp only; omega,⟨h3.1,by dsimp only; omega⟩,hI _ _⟩
     · rw [List.length_append]
       omega
theorem heavy_ok {pt:Nat→Int→Int} (hI:∀ n i,I64 (pt n i)) {least budget:Int} {B:Nat} (hB:B≤59):(∀ f∈(heavyP pt least budget B).1,FdOk f)∧(heavyP pt least budget B).1.length≤100000:=by
 unfold heavyP
 split
 · exact ⟨fun f hf=>(by cases hf),(by simp)⟩
 · rename_i hb
   cases h:hvGo pt least budget (B+1) 0 [0] [] with
   | none=>exact ⟨fun f hf=>(by cases hf),(by simp)⟩
   | some l =>
     obtain ⟨h1,h2⟩:=hvGo_ok hI hB (B+1) 0 [0] [] l (Nat.le_refl _) h (by
      intro i hi
      rw [List.mem_singleton] at hi
      subst hi
      rw [Nat.sub_self]
      decide) (fun f hf=>(by cases hf)) (by simp) (.inr rfl)
     refine ⟨h1, ?_⟩
     dsimp only
     rcases h2 with h2 | h2
     · omega
     · rw [h2]; simp
end Go.Proofs.YtmalncfcgcebhaaGreatDoor
namespace Go.Proofs.YtmalncfcgcebhaaGreatDoor
set_option linter.unusedVariables false
open Go.Proofs Go.RowKit
theorem txNum {n:Int} (h:I64 n):TextIs (.number n):=by
 rintro base w v rfl hT
 exact AText_num _ h w hT
theorem txList {D:List Fd} (hl:D.length≤100000) (hD:∀ f∈D,FdOk f):TextIs (.list D):=by
 rintro base w v ⟨s,rfl,hr⟩ hT
 exact AText_list D hl hD base s w hT hr
theorem DoOk.ask {S:St} {c:Cmd} {h:Int} {f:AT→Option Rep × Int} (hd:DoIs S c (askF S h f)) (hy:∀ T,(f T).2=0→∃ x,(f T).1=some x) (ht:OfAg S→∀ i T,S.l.find? (fun x=>decide ((x.1:Int)=h))=some (i,T)→∀ x,(f T).1=some x→TextIs x) (hi:∀ T,I64 (f T).2):DoOk S c (askF S h f):=by
 refine ⟨hd, ?_, ?_, ?_⟩
 · unfold askF
   split
   · intro h; cases h
   · exact hy _
 · intro hO x hx
   unfold askF at hx
   split at hx
   · cases hx
   · rename_i hf
     exact ht hO _ _ hf x hx
 · unfold askF
   split
   · unfold I64; dsimp only; omega
   · exact hi _
theorem numF_yes {n e:Int} (h:(numF n e).2=0):∃ x,(numF n e).1=some x:=by
 unfold numF at *
 split at h
 · exact ⟨_,by rw [if_pos (by assumption)]⟩
 · exact absurd h (by assumption)
theorem numF_tx {n e:Int} (hn:I64 n) (x:Rep) (h:(numF n e).1=some x):TextIs x:=by
 unfold numF at h
 split at h
 · cases h; exact txNum hn
 · cases h
theorem numF_i {n e:Int} (he:I64 e):I64 (numF n e).2:=by
 unfold numF
 split
 · unfold I64; dsimp only; omega
 · exact he
theorem listF_yes {n:List Fd} {e:Int} (h:(listF n e).2=0):∃ x,(listF n e).1=some x:=by
 unfold listF at *
 split at h
 · exact ⟨_,by rw [if_pos (by assumption)]⟩
 · exact absurd h (by assumption)
theorem listF_i {n:List Fd} {e:Int} (he:I64 e):I64 (listF n e).2:=by
 unfold listF
 split
 · unfold I64; dsimp only; omega
 · exact he
theorem pointR_I (C:Cfg) (B:Nat) (ls:Nat→List Int) (a b:Int):I64 (pointR C B ls a b).1∧I64 (pointR C B ls a b).2:=by
 have:=ptU_I C ls a.toNat b
 have z0:I64 0:=by unfold I64; omega
 have z2:I64 2:=by unfold I64; omega
 unfold pointR
 split
 · exact ⟨z0,z2⟩
 · split
   · exact ⟨this,z0⟩
   · exact ⟨z0,z2⟩
theorem rangeR_I (pt:Nat→Int→Int) (B:Nat) (a b:Int):I64 (rangeR pt B a b).1∧I64 (rangeR pt B a b).2:=by
 have z0:I64 0:=by unfold I64; omega
 have z1:I64 1:=by unfold I64; omega
 have z2:I64 2:=by unfold I64; omega
 have z4:I64 4:=by unfold I64; omega
 unfold rangeR
 split
 · exact ⟨z0,z1⟩
 · split
   · exact ⟨z0,z2⟩
   · split
     · rename_i hf
       refine ⟨?_,z0⟩
       have:=of_decide_eq_true hf
       unfold I64
       omega
     · exact ⟨z0,z4⟩
theorem DoOk.point (S:St) (h a b:Int) (hh:I64 h) (ha:I64 a) (hb:I64 b):DoOk S (.query ⟨#[112,111,105,110,116]⟩ h [a,b]) (askF S h fun T=>pointF T a b) :=
 DoOk.ask (DoIs.point S h a b hh ha hb) (fun T h=>numF_yes h) (fun _ _ T _ x h=>numF_tx (pointR_I _ _ _ _ _).1 x h) (fun T=>numF_i (pointR_I _ _ _ _ _).2)
theorem ab_59 {S:St} (hO:OfAg S) {h:Int} {i:Nat} {T:AT} (hf:S.l.find? (fun x=>decide ((x.1:Int)=h))=some (i,T)):T.B≤59:=by
 obtain ⟨w,N,p,m,l,last,hA,rfl⟩:=hO
 rw [stOf_find] at hf
 obtain ⟨x,hx,he⟩:=Option.map_eq_some_iff.1 hf
 cases he
 rw [Th.ab_B]
 have hth:=hA.th x (fnd_mem hx).1
 have key:∀ {C:Cfg} {B:Nat},C.Ok→C.bits=B→B≤59:=fun h1 h2=>by
  have:=h1.b2
  omega
 obtain ⟨i,t⟩:=x
 cases t with
 | st bk C B=>exact key (KAt.ok (show bk.At w C B from hth)) (KAt.hB (show bk.At w C B from hth))
 | wi p b C B n sm bk=>exact key (KAt.ok (WAt.sum hth)) (KAt.hB (WAt.sum hth))
theorem heavyP_e (pt:Nat→Int→Int) (a b:Int) (B:Nat):I64 (heavyP pt a b B).2:=by
 unfold heavyP
 repeat' split
 all_goals (unfold I64; dsimp only; omega)
theorem DoOk.heavy (S:St) (h a b:Int) (hh:I64 h) (ha:I64 a) (hb:I64 b):DoOk S (.query ⟨#[104,101,97,118,121]⟩ h [a,b]) (askF S h fun T=>heavF T a b) :=
 DoOk.ask (DoIs.heavy S h a b hh ha hb) (fun T h=>listF_yes h) (fun hO i T hf x hx=>by
  have hk:=heavy_ok (pt:=ptU T.C T.ls) (ptU_I T.C T.ls) (least:=a) (budget:=b) (ab_59 hO hf)
  unfold heavF listF at hx
  split at hx
  · cases hx; exact txList hk.2 hk.1
  · cases hx) (fun T=>listF_i (heavyP_e _ _ _ _))
end Go.Proofs.YtmalncfcgcebhaaGreatDoor
namespace Go.Proofs.YtmalncfcgcebhaaGreatDoor
set_option linter.unusedVariables false
open Go.Proofs Go.RowKit
theorem txDone:TextIs .done:=by
 rintro base w v rfl hT
 exact AText_done w
theorem jointF_ok (S:St) (i:Nat) (T U:AT) {er:Cfg→Nat→(Nat→List Int)→Cfg→(Nat→List Int)→Int} (op:List Int→List Int→List Int) (he:∀ C B l C2 m,I64 (er C B l C2 m)) :
 ((jointF S i T U er op).1.2=0→∃ x,(jointF S i T U er op).1.1=some x)∧(∀ x,(jointF S i T U er op).1.1=some x→TextIs x)∧I64 (jointF S i T U er op).1.2:=by
 unfold jointF
 cases T with
 | wi=>exact ⟨fun h=>(by cases h),fun x h=>(by cases h),(by unfold I64; dsimp only; omega)⟩
 | st C B ls =>
   dsimp only
   have h:=he C B ls U.C U.ls
   generalize er C B ls U.C U.ls=e at h
   unfold doneF
   by_cases h0:e=0
   · simp only [if_pos h0]
     exact ⟨fun _=>⟨_,rfl⟩,fun x hx=>(by cases hx; exact txDone),(by unfold I64; omega)⟩
   · simp only [if_neg h0]
     exact ⟨fun h1=>absurd h1 h0,fun x hx=>(by cases hx),h⟩
theorem DoOk.pair {S:St} {c:Cmd} {a b:Int} {f:Nat→AT→AT→(Option Rep × Int) × St} (hd:DoIs S c (pairF S a b f)) (H:∀ i T U,((f i T U).1.2=0→∃ x,(f i T U).1.1=some x)∧(∀ x,(f i T U).1.1=some x→TextIs x)∧I64 (f i T U).1.2):DoOk S c (pairF S a b f):=by
 refine ⟨hd, ?_, ?_, ?_⟩
 · unfold pairF
   split
   · exact (H _ _ _).1
   · intro h; cases h
 · intro _
   unfold pairF
   split
   · exact (H _ _ _).2.1
   · intro x h; cases h
 · unfold pairF
   split
   · exact (H _ _ _).2.2
   · unfold I64; dsimp only; omega
theorem mrgE_i (C:Cfg) (B:Nat) (l:Nat→List Int) (C2:Cfg) (m:Nat→List Int):I64 (mrgE C B l C2 m):=by
 unfold mrgE
 repeat' split
 all_goals (unfold I64; omega)
theorem subE_i (C:Cfg) (B:Nat) (l:Nat→List Int) (C2:Cfg) (m:Nat→List Int):I64 (subE C B l C2 m):=by
 unfold subE
 repeat' split
 all_goals (unfold I64; omega)
theorem DoOk.merge (S:St) (a b:Int) (ha:I64 a) (hb:I64 b):DoOk S (.pair ⟨#[109,101,114,103,101]⟩ a b) (pairF S a b fun i T U=>jointF S i T U mrgE plusL) :=
 DoOk.pair (DoIs.merge S a b ha hb) fun i T U=>jointF_ok S i T U plusL mrgE_i
theorem DoOk.subtract (S:St) (a b:Int) (ha:I64 a) (hb:I64 b):DoOk S (.pair ⟨#[115,117,98,116,114,97,99,116]⟩ a b) (pairF S a b fun i T U=>jointF S i T U subE minusL) :=
 DoOk.pair (DoIs.subtract S a b ha hb) fun i T U=>jointF_ok S i T U minusL subE_i
end Go.Proofs.YtmalncfcgcebhaaGreatDoor
namespace Go.Proofs.YtmalncfcgcebhaaGreatDoor
set_option linter.unusedVariables false
open Go.RowKit
def absS (ps:List (Int × Int)):Int:=lsum (ps.map fun u=>max u.2 (-u.2))
theorem absS_cons (u:Int × Int) (ps:List (Int × Int)):absS (u :: ps)=max u.2 (-u.2)+absS ps:=by unfold absS; rw [List.map_cons,lsum_cons]
theorem absS_app (a b:List (Int × Int)):absS (a++b)=absS a+absS b:=by unfold absS; rw [List.map_append,lsum_append]
theorem absS_nn:∀ ps:List (Int × Int),0≤absS ps
 | []=>Int.le_refl _
 | u :: ps=>by have:=absS_nn ps; rw [absS_cons]; omega
theorem sumIf_abs (p:Int→Bool):∀ ps:List (Int × Int),-absS ps≤sumIf p ps∧sumIf p ps≤absS ps
 | []=>⟨Int.le_refl _,Int.le_refl _⟩
 | u :: ps=>by
   have:=sumIf_abs p ps
   have h:=absS_nn ps
   rw [absS_cons,sumIf_cons]
   cases p u.1 <;> simp only [cond_true,cond_false] <;> omega
def negP (ps:List (Int × Int)):List (Int × Int):=ps.map fun u=>(u.1,-u.2)
theorem sumIf_negP (p:Int→Bool):∀ ps:List (Int × Int),sumIf p (negP ps)=-sumIf p ps
 | []=>rfl
 | u :: ps=>by
   have:=sumIf_negP p ps
   show sumIf p ((u.1,-u.2) :: negP ps)=_
   rw [sumIf_cons,sumIf_cons,this]
   cases p u.1 <;> simp only [cond_true,cond_false] <;> omega
theorem absS_neg:∀ ps:List (Int × Int),absS (negP ps)=absS ps
 | []=>rfl
 | u :: ps=>by
   have:=absS_neg ps
   show absS ((u.1,-u.2) :: negP ps)=_
   rw [absS_cons,absS_cons,this]
   dsimp only
   omega
structure TInv (C:Cfg) (ps:List (Int × Int)) (T:Int) (ls:Nat→List Int):Prop where
 ky:∀ u∈ps,0≤u.1∧u.1 < 64
 ab:absS ps≤T
 nn:C.mode=2→∀ u∈ps,0≤u.2
 ln:∀ n:Nat,n≤6→(ls n).length=lvN C n
 bd:∀ n:Nat,n≤6→Bnd T (ls n)
 ex:∀ n:Nat,n≤6→isX C n=true→∀ j,j < lvN C n→(ls n).getD j 0=sumIf (fun k=>sh n k == (j:Int)) ps
 su:C.mode≠2→∀ n:Nat,n≤6→isX C n=false→∀ r a,r < rN C→a < wN C→(ls n).getD (r*wN C+a) 0=sumIf (fun k=>(cols C n (sh n k)).getD r 0 == (a:Int)) ps
 lo:C.mode=2→∀ n:Nat,n≤6→isX C n=false→∀ key,0≤key→∀ r,r < rN C→sumIf (fun k=>sh n k == key) ps≤(ls n).getD (at_ (wN C) (cols C n key) r) 0
theorem lvN_x {C:Cfg} {n:Int} (h:isX C n=true):lvN C n=kN C n:=by unfold lvN; rw [h]; rfl
theorem lvN_s {C:Cfg} {n:Int} (h:isX C n=false):lvN C n=rN C*wN C:=by unfold lvN; rw [h]; rfl
theorem TInv.zero {C:Cfg} (T:Int) (hT:0≤T):TInv C [] T (zerosK C):=by
 refine ⟨fun u hu=>(by cases hu),hT,fun _ u hu=>(by cases hu),fun n _=>zs_len _,fun n _=>?_,fun n _ _ j _=>zs_get0 _ _,fun _ n _ _ r a _ _=>zs_get0 _ _,fun _ n _ _ key _ r _=>?_⟩
 · intro x hx
   have:=zs_bnd _ x hx
   omega
 · show (0:Int)≤(zs _).getD _ 0
   rw [zs_get0]
   exact Int.le_refl _
theorem at_lt {R W r a:Nat} (hr:r < R) (ha:a < W):r*W+a < R*W:=by
 have:=Nat.mul_le_mul_right W (show r+1≤R from hr)
 rw [Nat.add_mul,Nat.one_mul] at this
 omega
section
variable {C:Cfg} {ps qs:List (Int × Int)} {T U:Int} {ls ms:Nat→List Int}
theorem TInv.t0 (h:TInv C ps T ls):0≤T:=Int.le_trans (absS_nn ps) h.ab
theorem TInv.mono (h:TInv C ps T ls) (hT:T≤U):TInv C ps U ls :=
 ⟨h.ky,Int.le_trans h.ab hT,h.nn,h.ln,fun n hn x hx=>by have:=h.bd n hn x hx; omega,h.ex,h.su,h.lo⟩
theorem keys64 (hb:C.bits=6):keys C 0=64:=by unfold keys; rw [hb]; rfl
theorem TInv.upd (hok:C.Ok) (hb:C.bits=6) (h:TInv C ps T ls) {key d D:Int} (hk0:0≤key) (hk:key < 64) (hd:-D≤d∧d≤D) (hm:C.mode=2→0≤d):TInv C (ps++[(key,d)]) (T+D) (updK C ls key d):=by
 have hr:=rN_eq hok
 have hw:=wN_eq hok
 refine ⟨?_, ?_, ?_, ?_, ?_, ?_, ?_, ?_⟩
 · intro u hu
   rcases List.mem_append.1 hu with hu | hu
   · exact h.ky u hu
   · rw [List.mem_singleton] at hu; subst hu; exact ⟨hk0,hk⟩
 · rw [absS_app,absS_cons]
   have:=h.ab
   show absS ps+(max d (-d)+0)≤_
   omega
 · intro hm2 u hu
   rcases List.mem_append.1 hu with hu | hu
   · exact h.nn hm2 u hu
   · rw [List.mem_singleton] at hu; subst hu; exact hm hm2
 · intro n hn
   unfold updK
   rw [lvU_len]
   exact h.ln n hn
 · intro n hn
   exact updK_bnd (h.bd n hn) h.t0 (by omega) hd
 · intro n hn hx j hj
   have hl:=h.ln n hn
   rw [lvN_x hx] at hl
   have h1:=sh_lt hok (n:=n) (by omega) hk0 (by rw [keys64 hb]; exact hk)
   rw [sumIf_snoc]
   unfold updK
   rw [lvU_x hx,updX_get (sh_nn hk0 n) (by rw [hl,← kN_eq' hok]; exact h1),h.ex n hn hx j hj]
 · intro hm2 n hn hx r a hrr ha
   rw [sumIf_snoc]
   unfold updK
   rw [lvU_s hx]
   unfold updL
   rw [decide_eq_false hm2]
   have hme:=cols_meets C hok n (sh n key) hr hw
   have hl:=h.ln n hn
   rw [lvN_s hx] at hl
   show (putK (wN C) _ _ (rN C) _).getD _ 0=_
   rw [putK_get hme hl hrr ha (rN C) (Nat.le_refl _)]
   by_cases he:(cols C n (sh n key)).getD r 0=(a:Int)
   · rw [if_pos ⟨hrr,he⟩]
     have hat:at_ (wN C) (cols C n (sh n key)) r=r*wN C+a:=by unfold at_; omega
     rw [hat]
     have hbb:((cols C n (sh n key)).getD r 0 == (a:Int))=true:=by simpa using he
     show _+_=_
     rw [h.su hm2 n hn hx r a hrr ha]
     simp only [hbb]
     rfl
   · rw [if_neg (fun h=>he h.2),h.su hm2 n hn hx r a hrr ha]
     have:((cols C n (sh n key)).getD r 0 == (a:Int))=false:=by simpa using he
     simp only [this]
     simp
 · intro hm2 n hn hx k2 hk2 r hrr
   obtain ⟨a,ha,hat,hc⟩:=at_col (lv:=n) hok hr hw k2 hrr
   have ih:=h.lo hm2 n hn hx k2 hk2 r hrr
   have hl:=h.ln n hn
   rw [lvN_s hx] at hl
   rw [sumIf_snoc,hat]
   rw [hat] at ih
   unfold updK
   rw [lvU_s hx,cons_cell hok hr hw hm2 hl _ _ hrr ha]
   obtain ⟨⟨j,hj,hj'⟩,_⟩:=min_read (lv:=n) hok hr hw (ls n) (sh n key)
   by_cases hkk:sh n key=k2
   · have ihj:=h.lo hm2 n hn hx (sh n key) (sh_nn hk0 n) j hj
     rw [if_pos (by rw [hkk]; exact hc),hj']
     have hbb:(sh n key == k2)=true:=by simpa using hkk
     rw [hkk] at ihj
     simp only [hkk] at *
     simp only [BEq.rfl,cond_true]
     omega
   · have hbb:(sh n key == k2)=false:=by simpa using hkk
     simp only [hbb,cond_false]
     by_cases he:(cols C n (sh n key)).getD r 0=(a:Int)
     · rw [if_pos he]; omega
     · rw [if_neg he]; omega
theorem TInv.plus (hok:C.Ok) (h:TInv C ps T ls) (h2:TInv C qs U ms):TInv C (ps++qs) (T+U) (fun n=>plusL (ls n) (ms n)):=by
 have hr:=rN_eq hok
 have hw:=wN_eq hok
 have t0:=h.t0
 have u0:=h2.t0
 refine ⟨?_, ?_, ?_, ?_, ?_, ?_, ?_, ?_⟩
 · intro u hu
   rcases List.mem_append.1 hu with hu | hu
   · exact h.ky u hu
   · exact h2.ky u hu
 · rw [absS_app]
   have:=h.ab
   have:=h2.ab
   omega
 · intro hm2 u hu
   rcases List.mem_append.1 hu with hu | hu
   · exact h.nn hm2 u hu
   · exact h2.nn hm2 u hu
 · intro n hn
   rw [plusL_len]
   exact h.ln n hn
 · intro n hn x hx
   simp only [plusL,List.mem_map,List.mem_range] at hx
   obtain ⟨j,hj,rfl⟩:=hx
   have a:=(h.bd n hn).getD t0 j
   have b:=(h2.bd n hn).getD u0 j
   omega
 · intro n hn hx j hj
   rw [sumIf_append,plusL_get (by rw [h.ln n hn]; exact hj),h.ex n hn hx j hj,h2.ex n hn hx j hj]
 · intro hm2 n hn hx r a hrr ha
   rw [sumIf_append,plusL_get (by rw [h.ln n hn,lvN_s hx]; exact at_lt hrr ha),h.su hm2 n hn hx r a hrr ha,h2.su hm2 n hn hx r a hrr ha]
 · intro hm2 n hn hx key hk0 r hrr
   obtain ⟨a,ha,hat,hc⟩:=at_col (lv:=n) hok hr hw key hrr
   have i1:=h.lo hm2 n hn hx key hk0 r hrr
   have i2:=h2.lo hm2 n hn hx key hk0 r hrr
   rw [hat] at i1 i2 ⊢
   rw [sumIf_append,plusL_get (by rw [h.ln n hn,lvN_s hx]; exact at_lt hrr ha)]
   omega
theorem TInv.minus (hok:C.Ok) (hm:C.mode≠2) (h:TInv C ps T ls) (h2:TInv C qs U ms):TInv C (ps++negP qs) (T+U) (fun n=>minusL (ls n) (ms n)):=by
 have t0:=h.t0
 have u0:=h2.t0
 refine ⟨?_, ?_,fun h=>absurd h hm, ?_, ?_, ?_, ?_,fun h=>absurd h hm⟩
 · intro u hu
   rcases List.mem_append.1 hu with hu | hu
   · exact h.ky u hu
   · simp only [negP,List.mem_map] at hu
     obtain ⟨v,hv,rfl⟩:=hu
     exact h2.ky v hv
 · rw [absS_app,absS_neg]
   have:=h.ab
   have:=h2.ab
   omega
 · intro n hn
   rw [minusL_len]
   exact h.ln n hn
 · intro n hn x hx
   simp only [minusL,List.mem_map,List.mem_range] at hx
   obtain ⟨j,hj,rfl⟩:=hx
   have a:=(h.bd n hn).getD t0 j
   have b:=(h2.bd n hn).getD u0 j
   omega
 · intro n hn hx j hj
   rw [sumIf_append,sumIf_negP,minusL_get (by rw [h.ln n hn]; exact hj),h.ex n hn hx j hj,h2.ex n hn hx j hj]
   omega
 · intro hm2 n hn hx r a hrr ha
   rw [sumIf_append,sumIf_negP,minusL_get (by rw [h.ln n hn,lvN_s hx]; exact at_lt hrr ha),h.su hm2 n hn hx r a hrr ha,h2.su hm2 n hn hx r a hrr ha]
   omega
theorem TInv.add_ok (hok:C.Ok) (hb:C.bits=6) (h:TInv C ps T ls) {key d D:Int} (hk0:0≤key) (hk:key < 64) (hd:-D≤d∧d≤D) (hm:C.mode=2→0≤d) (hT:T+D≤4611686018427387904):errK C 6 ls key d=0 :=
 errK_ok hok (B:=6) hb (fun n hn=>h.bd n hn) h.t0 (by omega) hd hT hk0 (by rw [keys64 hb]; exact hk) hm
theorem fitK_bnd {ks:Nat→List Int} {V:Int} (hV:V≤4611686018427387904) (h:∀ n,n≤6→Bnd V (ks n)):fitK 6 ks=true :=
 fitK_iff.2 fun n hn x hx=>by
  have:=h n hn x hx
  unfold I64
  omega
theorem TInv.plus_ok (hok:C.Ok) (h:TInv C ps T ls) (h2:TInv C qs U ms) (hT:T+U≤4611686018427387904):mrgE C 6 ls C ms=0:=by
 unfold mrgE
 rw [if_pos rfl,fitK_bnd hT (h.plus hok h2).bd,if_pos rfl]
theorem TInv.minus_ok (hok:C.Ok) (hm:C.mode≠2) (h:TInv C ps T ls) (h2:TInv C qs U ms) (hT:T+U≤4611686018427387904):subE C 6 ls C ms=0:=by
 unfold subE
 rw [if_pos rfl,if_neg hm,fitK_bnd hT (h.minus hok hm h2).bd,if_pos rfl]
theorem sub_mode (hm:C.mode=2):subE C 6 ls C ms=3:=by
 unfold subE
 rw [if_pos rfl,if_pos hm]
theorem ptU_eq {n:Nat} {i x:Int} (h1:I64 x) (hx:lvPt C n (ls n) i x):ptU C ls n i=x:=by
 have he:∃ y,I64 y∧lvPt C n (ls n) i y:=⟨x,h1,hx⟩
 unfold ptU
 rw [dif_pos he]
 exact lvPt_unique he.choose_spec.2 hx
theorem TInv.pt_x (hok:C.Ok) (h:TInv C ps T ls) (hT:T≤4611686018427387904) {n:Nat} (hn:n≤6) (hx:isX C n=true) {i:Int} (h0:0≤i) (h1:i < keys C n):ptU C ls n i=pcS ps n i:=by
 obtain ⟨j,rfl⟩:∃ j:Nat,i=j:=⟨i.toNat,by omega⟩
 have hj:j < lvN C n:=by rw [lvN_x hx]; have:=kN_eq' hok n; omega
 have hc:=h.ex n hn hx j hj
 have hb:=sumIf_abs (fun k=>sh n k == (j:Int)) ps
 have:=h.ab
 refine ptU_eq ?_ (.inl ⟨hx, ?_⟩)
 · unfold pcS I64; omega
 · rw [Int.toNat_natCast,hc]; rfl
theorem TInv.pt_s (hok:C.Ok) (h:TInv C ps T ls) (hT:T≤4611686018427387904) (hm:C.mode≠3) {n:Nat} (hn:n≤6) (hx:isX C n=false) (i:Int) :
 ptU C ls n i=minL (readL (wN C) (ls n) (cols C n i))∧IsKth (readL (wN C) (ls n) (cols C n i)) 0 (minL (readL (wN C) (ls n) (cols C n i))):=by
 have hr:=rN_eq hok
 have hw:=wN_eq hok
 have hR:0 < rN C:=by have:=hok.r1; omega
 have hne:readL (wN C) (ls n) (cols C n i)≠[]:=fun e=>by
  have:=congrArg List.length e
  rw [readL_len,cols_len] at this
  have h2:C.rows.toNat=rN C:=rfl
  rw [h2] at this
  simp at this
  omega
 obtain ⟨g1,g2⟩:=minL_spec _ hne
 have hk:IsKth (readL (wN C) (ls n) (cols C n i)) 0 (minL (readL (wN C) (ls n) (cols C n i))):=⟨by rw [less_nil g2]; exact Nat.le_refl _,by have:=same_mem g1; omega⟩
 refine ⟨ptU_eq ?_ (.inr ⟨hx,by rw [if_neg hm]; exact hk⟩),hk⟩
 have:=(h.bd n hn).readL h.t0 (wN C) (cols C n i) _ g1
 unfold I64
 omega
def othS (C:Cfg) (ps:List (Int × Int)) (n:Nat) (i:Int) (r:Nat):Int:=sumIf (fun k=>!(sh n k == i) && sameCol C n i r (sh n k)) ps
theorem sum_own (C:Cfg) (ps:List (Int × Int)) (n:Nat) (i:Int) (r:Nat):sumIf (fun k=>(cols C n (sh n k)).getD r 0 == (cols C n i).getD r 0) ps=pcS ps n i+othS C ps n i r:=by
 rw [sumIf_split _ (fun k=>sh n k == i)]
 unfold pcS othS
 congr 1
 · refine sumIf_ext ps fun u=>?_
   cases hx:(sh n u == i) with
   | false=>simp
   | true =>
     have:sh n u=i:=by simpa using hx
     rw [this]; simp
 · refine sumIf_ext ps fun u=>?_
   unfold sameCol
   exact Bool.and_comm _ _
def PlainS (ps:List (Int × Int)):Prop:=∀ i,0≤sumIf (fun k=>k == i) ps
theorem PlainS.nn (h:PlainS ps) (p:Int→Bool):0≤sumIf p ps:=sumIf_nn p _ ps (Nat.le_refl _) fun u _=>h u.1
theorem TInv.pt_ge (hok:C.Ok) (h:TInv C ps T ls) (hT:T≤4611686018427387904) (hm:C.mode≠3) (hp:PlainS ps) {n:Nat} (hn:n≤6) {i:Int} (h0:0≤i) (h1:i < keys C n):pcS ps n i≤ptU C ls n i:=by
 cases hx:isX C n with
 | true=>rw [h.pt_x hok hT hn hx h0 h1]; exact Int.le_refl _
 | false =>
   have hr:=rN_eq hok
   have hw:=wN_eq hok
   obtain ⟨e,hk⟩:=h.pt_s hok hT hm hn hx i
   rw [e]
   obtain ⟨⟨r,hrr,hj⟩,_⟩:=min_read (lv:=n) hok hr hw (ls n) i
   rw [hj]
   by_cases hm2:C.mode=2
   · exact h.lo hm2 n hn hx i h0 r hrr
   · obtain ⟨a,ha,hat,hc⟩:=at_col (lv:=n) hok hr hw i hrr
     rw [hat,h.su hm2 n hn hx r a hrr ha,← hc,sum_own]
     have:0≤othS C ps n i r:=hp.nn _
     omega
theorem TInv.pt_bd (hok:C.Ok) (h:TInv C ps T ls) (hT:T≤4611686018427387904) (hm:C.mode≠3) {n:Nat} (hn:n≤6) {i:Int} (h0:0≤i) (h1:i < keys C n):-T≤ptU C ls n i∧ptU C ls n i≤T:=by
 cases hx:isX C n with
 | true =>
   rw [h.pt_x hok hT hn hx h0 h1]
   have:=sumIf_abs (fun k=>sh n k == i) ps
   have:=h.ab
   unfold pcS
   omega
 | false =>
   obtain ⟨e,hk⟩:=h.pt_s hok hT hm hn hx i
   rw [e]
   exact ((h.bd n hn).readL h.t0 (wN C) (cols C n i)).minL h.t0
end
def topSt (C:Cfg) (g:Nat→Nat→List Int):St:=⟨[(1,.st C 6 (g 0)),(2,.st C 6 (g 1)),(3,.st C 6 (g 2))],3⟩
def setG (g:Nat→Nat→List Int) (h:Nat) (ls:Nat→List Int):Nat→Nat→List Int:=fun k=>if k=h then ls else g k
theorem top_find (C:Cfg) (g:Nat→Nat→List Int) {h:Nat} (hh:h < 3):(topSt C g).l.find? (fun x=>decide ((x.1:Int)=((h+1:Nat):Int)))=some (h+1,.st C 6 (g h)):=by
 match h,hh with
 | 0,_=>rfl
 | 1,_=>rfl
 | 2,_=>rfl
theorem top_set (C:Cfg) (g:Nat→Nat→List Int) {h:Nat} (hh:h < 3) (ls:Nat→List Int):(⟨setL (topSt C g).l (h+1) (.st C 6 ls),(topSt C g).last⟩:St)=topSt C (setG g h ls):=by
 match h,hh with
 | 0,_=>rfl
 | 1,_=>rfl
 | 2,_=>rfl
end Go.Proofs.YtmalncfcgcebhaaGreatDoor
namespace Go.Proofs.YtmalncfcgcebhaaGreatDoor
set_option linter.unusedVariables false
open Go.RowKit
def valL:Nat→List UInt8→Nat
 | n,[]=>n
 | n,c :: l=>valL (n*10+(c.toNat - 48)) l
theorem valL_app (l m:List UInt8):∀ n,valL n (l++m)=valL (valL n l) m:=by
 induction l with
 | nil=>intro n; rfl
 | cons c l ih=>intro n; exact ih _
theorem dig48 {d:Nat} (h:d < 10):(UInt8.ofNat (48+d)).toNat=48+d:=by
 rw [UInt8.toNat_ofNat']; omega
theorem dec_snoc {u:Nat} (h:¬ u < 10):Lib.decDigits u=Lib.decDigits (u / 10)++[UInt8.ofNat (48+u % 10)]:=by
 conv=>lhs; rw [Lib.decDigits,dif_neg h]
theorem dec_one {u:Nat} (h:u < 10):Lib.decDigits u=[UInt8.ofNat (48+u)]:=by rw [Lib.decDigits,dif_pos h]
theorem dec_val:∀ (k u:Nat),u < 10 ^ (k+1)→valL 0 (Lib.decDigits u)=u:=by
 intro k
 induction k with
 | zero =>
   intro u h
   have h':u < 10:=by simpa using h
   rw [dec_one h']
   show 0*10+((UInt8.ofNat (48+u)).toNat - 48)=u
   rw [dig48 h']
   omega
 | succ k ih =>
   intro u h
   by_cases h2:u < 10
   · rw [dec_one h2]
     show 0*10+((UInt8.ofNat (48+u)).toNat - 48)=u
     rw [dig48 h2]
     omega
   · have h3:10 ^ (k+1+1)=10 ^ (k+1)*10:=Nat.pow_succ ..
     rw [dec_snoc h2,valL_app,ih (u / 10) (by omega)]
     show u / 10*10+((UInt8.ofNat (48+u % 10)).toNat - 48)=u
     rw [dig48 (by omega)]
     omega
theorem dec_chars:∀ (k u:Nat),u < 10 ^ (k+1)→∀ c∈Lib.decDigits u,48≤c.toNat∧c.toNat≤57:=by
 intro k
 induction k with
 | zero =>
   intro u h c hc
   have h':u < 10:=by simpa using h
   rw [dec_one h',List.mem_singleton] at hc
   rw [hc,dig48 h']
   omega
 | succ k ih =>
   intro u h c hc
   by_cases h2:u < 10
   · rw [dec_one h2,List.mem_singleton] at hc
     rw [hc,dig48 h2]
     omega
   · have h3:10 ^ (k+1+1)=10 ^ (k+1)*10:=Nat.pow_succ ..
     rw [dec_snoc h2] at hc
     rcases List.mem_append.1 hc with hc | hc
     · exact ih (u / 10) (by omega) c hc
     · rw [List.mem_singleton] at hc
       rw [hc,dig48 (by omega)]
       omega
theorem dec_first:∀ (k u:Nat),u < 10 ^ (k+1)→1≤u→((Lib.decDigits u).getD 0 0).toNat≠48:=by
 intro k
 induction k with
 | zero =>
   intro u h h1
   have h':u < 10:=by simpa using h
   rw [dec_one h']
   show (UInt8.ofNat (48+u)).toNat≠48
   rw [dig48 h']
   omega
 | succ k ih =>
   intro u h h1
   by_cases h2:u < 10
   · rw [dec_one h2]
     show (UInt8.ofNat (48+u)).toNat≠48
     rw [dig48 h2]
     omega
   · have h3:10 ^ (k+1+1)=10 ^ (k+1)*10:=Nat.pow_succ ..
     have:=ih (u / 10) (by omega) (by omega)
     have hp:=dec_pos' (u / 10)
     rw [dec_snoc h2,List.getD_eq_getElem?_getD,List.getElem?_append_left hp,← List.getD_eq_getElem?_getD]
     exact this
theorem valL_le (l:List UInt8):∀ n,n≤valL n l:=by
 induction l with
 | nil=>intro n; exact Nat.le_refl _
 | cons c l ih =>
   intro n
   have:=ih (n*10+(c.toNat - 48))
   show n≤valL (n*10+(c.toNat - 48)) l
   omega
theorem valL_take {l:List UInt8} {k:Nat}:valL 0 (l.take k)≤valL 0 l:=by
 conv=>rhs; rw [← List.take_append_drop k l,valL_app]
 exact valL_le _ _
theorem valL_next {l:List UInt8} {k:Nat} (h:k < l.length):valL 0 (l.take (k+1))=valL 0 (l.take k)*10+(l[k].toNat - 48):=by
 rw [List.take_succ_eq_append_getElem h,valL_app]
 rfl
end Go.Proofs.YtmalncfcgcebhaaGreatDoor
