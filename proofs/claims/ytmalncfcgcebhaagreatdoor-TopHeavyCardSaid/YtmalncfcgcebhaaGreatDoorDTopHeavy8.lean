/- Part. No condition. -/
import Derived.Test.YtmalncfcgcebhaaGreatDoorDTopHeavy3
import Derived.Test.YtmalncfcgcebhaaGreatDoorDTopHeavy7
import Derived.Test.YtmalncfcgcebhaaGreatDoorDTopHeavy4
import Derived.Lib.ItoaLen
import Derived.Carry
import Derived.Shelf.Strings.BuilderK
import Derived.Shelf.Strconv.Itoa4
import Derived.Lib.AppendIntMem
namespace Go.Proofs.YtmalncfcgcebhaaGreatDoor
set_option linter.unusedVariables false
open Go.RowKit
abbrev Fd:=Nat × Int × Int
def fdV (fs:List Fd):List Value:=fs.flatMap fun f=>[.int .i64 (f.1:Int),.int .u64 f.2.1,.int .i64 f.2.2]
theorem fdV_append (a b:List Fd):fdV (a++b)=fdV a++fdV b:=by unfold fdV; rw [List.flatMap_append]
theorem fdV_at {fs:List Fd}:∀ {k:Nat} (h:k < fs.length),(fdV fs)[k*3]?=some (.int .i64 ((fs.getD k (0,0,0)).1:Int))∧(fdV fs)[k*3+1]?=some (.int .u64 (fs.getD k (0,0,0)).2.1)∧(fdV fs)[k*3+2]?=some (.int .i64 (fs.getD k (0,0,0)).2.2):=by
 induction fs with
 | nil=>intro k h; simp at h
 | cons u fs ih =>
   intro k h
   have e:fdV (u :: fs)=.int .i64 (u.1:Int) :: .int .u64 u.2.1 :: .int .i64 u.2.2 :: fdV fs:=rfl
   rw [e]
   cases k with
   | zero=>exact ⟨rfl,rfl,rfl⟩
   | succ k =>
     have:=ih (k:=k) (by simpa using h)
     rw [show (k+1)*3=k*3+1+1+1 by omega]
     simp only [List.getElem?_cons_succ,List.getD_cons_succ]
     exact this
def lvl (n:Nat) (row:List Int):List (Nat × Int):=row.map fun i=>(n,i)
def hvF (pt:Nat→Int→Int) (least:Int) (n:Nat) (row:List Int):List Fd:=(row.filter fun i=>decide (least≤pt n i)).map fun i=>(n,i,pt n i)
def hvN (pt:Nat→Int→Int) (least:Int) (n:Nat) (row:List Int):List Int:=if n=0 then [] else (row.filter fun i=>decide (least≤pt n i)).flatMap fun i=>[2*i,2*i+1]
def hvGo (pt:Nat→Int→Int) (least budget:Int):Nat→Int→List Int→List Fd→Option (List Fd)
 | 0,_,_,out=>some out
 | n+1,asked,row,out=>if budget < asked+row.length then none else hvGo pt least budget n (asked+row.length) (hvN pt least n row) (out++hvF pt least n row)
def heavyP (pt:Nat→Int→Int) (least budget:Int) (B:Nat):List Fd × Int :=
 if least < 1∨4096 < budget then ([],1) else
 match hvGo pt least budget (B+1) 0 [0] [] with
 | none=>([],7)
 | some l=>(l,0)
theorem hvF_snoc_yes {pt:Nat→Int→Int} {least:Int} {n:Nat} {row:List Int} {i:Int} (h:least≤pt n i):hvF pt least n (row++[i])=hvF pt least n row++[(n,i,pt n i)]:=by
 unfold hvF; rw [List.filter_append,List.map_append]; simp [h]
theorem hvF_snoc_no {pt:Nat→Int→Int} {least:Int} {n:Nat} {row:List Int} {i:Int} (h:pt n i < least):hvF pt least n (row++[i])=hvF pt least n row:=by
 unfold hvF; rw [List.filter_append,List.map_append]; simp; omega
theorem hvN_snoc_yes {pt:Nat→Int→Int} {least:Int} {n:Nat} {row:List Int} {i:Int} (h:least≤pt (n+1) i):hvN pt least (n+1) (row++[i])=hvN pt least (n+1) row++[2*i,2*i+1]:=by
 unfold hvN; rw [if_neg (by omega),if_neg (by omega),List.filter_append,List.flatMap_append]; simp [h]
theorem hvN_snoc_no {pt:Nat→Int→Int} {least:Int} {n:Nat} {row:List Int} {i:Int} (h:pt n i < least):hvN pt least n (row++[i])=hvN pt least n row:=by
 unfold hvN
 by_cases h0:n=0
 · rw [if_pos h0,if_pos h0]
 · rw [if_neg h0,if_neg h0,List.filter_append,List.flatMap_append]; simp; omega
theorem hvF_len (pt:Nat→Int→Int) (least:Int) (n:Nat) (row:List Int):(hvF pt least n row).length≤row.length:=by
 unfold hvF; rw [List.length_map]; exact List.length_filter_le _ _
theorem hvN_len (pt:Nat→Int→Int) (least:Int) (n:Nat) (row:List Int):(hvN pt least n row).length≤2*row.length:=by
 unfold hvN
 split
 · simp
 · have h:=List.length_filter_le (fun i=>decide (least≤pt n i)) row
   have h2:∀ l:List Int,(l.flatMap fun i=>[2*i,2*i+1]).length=2*l.length:=by
    intro l
    induction l with
    | nil=>rfl
    | cons a l ih=>rw [List.flatMap_cons,List.length_append,ih]; simp; omega
   rw [h2]; omega
theorem hvN_mem {pt:Nat→Int→Int} {least:Int} {n:Nat} {row:List Int} {j:Int} (h:j∈hvN pt least (n+1) row):∃ i∈row,least≤pt (n+1) i∧(j=2*i∨j=2*i+1):=by
 unfold hvN at h
 rw [if_neg (by omega),List.mem_flatMap] at h
 obtain ⟨i,hi,hj⟩:=h
 rw [List.mem_filter] at hi
 exact ⟨i,hi.1,by simpa using hi.2,by simpa using hj⟩
theorem lvl_len (n:Nat) (row:List Int):(lvl n row).length=row.length:=by unfold lvl; rw [List.length_map]
theorem pcV_lvl_append (n:Nat) (a b:List Int):pcV (lvl n (a++b))=pcV (lvl n a)++pcV (lvl n b):=by
 unfold pcV lvl; rw [List.map_append,List.flatMap_append]
theorem pcV_lvl {n:Nat} {row:List Int} {k:Nat} (h:k < row.length):(pcV (lvl n row))[k*2]?=some (.int .i64 n)∧(pcV (lvl n row))[k*2+1]?=some (.int .u64 row[k]):=by
 have h1:=pcV_at (ps:=lvl n row) (k:=k) (by rw [lvl_len]; exact h)
 have h2:(lvl n row).getD k (0,0)=(n,row[k]):=by unfold lvl; simp [List.getD,h]
 rw [h2] at h1
 exact h1
theorem take_snocH {row:List Int} {k:Nat} (h:k < row.length):row.take (k+1)=row.take k++[row[k]]:=by
 rw [List.take_add_one,List.getElem?_eq_getElem h]; rfl
end Go.Proofs.YtmalncfcgcebhaaGreatDoor
namespace Go.Proofs.YtmalncfcgcebhaaGreatDoor
set_option linter.unusedVariables false
open Go.Proofs Go.RowKit
inductive Rep where
 | done
 | handle (h:Int)
 | number (n:Int)
 | key (k:Int)
 | wide (x:Int)
 | list (D:List Fd)
 | bytes (bs:List Int)
def RepAt (base:Nat) (w:World) (v:Value):Rep→Prop
 | .done=>v=.iface 134 (.agg #[])
 | .handle h=>v=.iface 190 (.agg #[.int .i64 h])
 | .number n=>v=.iface 132 (.agg #[.int .i64 n])
 | .key k=>v=.iface 137 (.agg #[.int .u64 k])
 | .wide x=>v=.iface 196 (.agg #[.int .i64 (hi x),.int .u64 (lo x)])
 | .list D=>∃ s,v=.iface 141 (.agg #[s])∧w.ownsRow base 203 3 s D.length (fdV D)
 | .bytes bs=>∃ s,v=.iface 204 (.agg #[s])∧w.ownsRow base 5 1 s bs.length (u8V bs)
def RepOAt (base:Nat) (w:World) (v:Value):Option Rep→Prop
 | none=>v=.nilIface
 | some r=>RepAt base w v r
structure DoPost (w:World) (N p m:Nat) (l:List (Nat × Th)) (last:Nat) (R:(Option Rep × Int) × St) (e:Ending) (w':World):Prop where
 ex:∃ v l' last',e=.returned (.tuple #[v,.int .i64 R.1.2])∧RepOAt w.heap.size w' v R.1.1∧AgAt w' N p m l' last'∧stOf l' last'=R.2∧∀ k,AgF p m l' k→AgF p m l k∨w.heap.size≤k
 md:Mod (AgF p m l) w w'
def madeF (S:St) (T:AT):(Option Rep × Int) × St :=
 if 32≤S.l.length then ((none,11),S) else ((some (.handle ((S.last+1:Nat):Int)),0),⟨S.l++[(S.last+1,T)],S.last+1⟩)
def doneF (e:Int):Option Rep × Int:=if e=0 then (some .done,0) else (none,e)
def numF (n e:Int):Option Rep × Int:=if e=0 then (some (.number n),0) else (none,e)
theorem stOf_app (l:List (Nat × Th)) (last:Nat) (T:Th):stOf (l++[(last+1,T)]) (last+1)=⟨(stOf l last).l++[(last+1,T.ab)],last+1⟩:=by unfold stOf; simp
theorem stOf_len (l:List (Nat × Th)) (last:Nat):(stOf l last).l.length=l.length:=by unfold stOf; simp
theorem agF_more {p m:Nat} {l:List (Nat × Th)} {h:Nat} {T:Th} {k:Nat} (hk:AgF p m (l++[(h,T)]) k):AgF p m l k∨T.cs k:=by
 rcases hk with h | h | ⟨x,hx,h⟩
 · exact .inl (.inl h)
 · exact .inl (.inr (.inl h))
 · rcases List.mem_append.1 hx with hx | hx
   · exact .inl (.inr (.inr ⟨x,hx,h⟩))
   · simp only [List.mem_singleton] at hx
     subst hx
     exact .inr h
theorem DoPost.same {w w':World} {N p m:Nat} {l:List (Nat × Th)} {last:Nat} (h:AgAt w N p m l last) (hx:Ext w w') {v:Value} {r:Option Rep} {c:Int} (hv:RepOAt w.heap.size w' v r):DoPost w N p m l last ((r,c),stOf l last) (.returned (.tuple #[v,.int .i64 c])) w' :=
 ⟨⟨v,l,last,rfl,hv,h.ext hx,rfl,fun k hk=>.inl hk⟩,hx.mod _⟩
end Go.Proofs.YtmalncfcgcebhaaGreatDoor
namespace Go.Proofs.YtmalncfcgcebhaaGreatDoor
set_option linter.unusedVariables false
open Go.Proofs Go.RowKit
theorem cat_data (x y:ByteArray):(x++y).data.toList=x.data.toList++y.data.toList:=by
 rw [ByteArray.data_append,Array.toList_append]
theorem cat_str (a b:List UInt8):(⟨a.toArray⟩++⟨b.toArray⟩:ByteArray)=⟨(a++b).toArray⟩:=by
 have h:=cat_data ⟨a.toArray⟩ ⟨b.toArray⟩
 simp only at h
 generalize (⟨a.toArray⟩++⟨b.toArray⟩:ByteArray)=z at *
 obtain ⟨z⟩:=z
 rw [← h]
def errT (e:Int):List UInt8:=[101,114,114,111,114,32]++Lib.itoa e
theorem Error_c (e:Int) (he:I64 e) (w:World) (hT:Tabs w) :
 Calls Tryz.prog 44 #[.int .i64 e] w fun r w'=>r=.returned (strV (errT e))∧Ext w w':=by
 have HI:=Lib.hid (Itoa_c e he w hT)
 have hil:=Lib.itoa_length_le e he.1 he.2
 go_enter Tryz.func44,Tryz.ntmps44
 go_wp2_with fail
 refine Calls.mono HI.out ?_
 rintro r w1 ⟨rfl,hx⟩
 unfold strV
 go_wp2
 go_ret
 exact ⟨by unfold strV errT; rw [← cat_str]; rfl,hx⟩
theorem ADone_c (e:Int) (w:World) :
 Calls Tryz.prog 124 #[.int .i64 e] w fun r w'=>∃ v,r=.returned (.tuple #[v,.int .i64 (doneF e).2])∧(∀ base w2,RepOAt base w2 v (doneF e).1)∧Ext w w':=by
 by_cases h:e=0
 · subst h
   go_enter Tryz.func124,Tryz.ntmps124
   go_wp2
   go_ret2
   exact ⟨_,rfl,fun _ _=>rfl,Ext.refl w⟩
 · have hf:doneF e=(none,e):=by unfold doneF; rw [if_neg h]
   rw [hf]
   have hn:(e != 0)=true:=by simpa using h
   clear h hf
   go_enter Tryz.func124,Tryz.ntmps124
   go_wp2
   go_ret2
   exact ⟨_,rfl,fun _ _=>rfl,Ext.refl w⟩
theorem ANum_c (n e:Int) (w:World) :
 Calls Tryz.prog 132 #[.int .i64 n,.int .i64 e] w fun r w'=>∃ v,r=.returned (.tuple #[v,.int .i64 (numF n e).2])∧(∀ base w2,RepOAt base w2 v (numF n e).1)∧Ext w w':=by
 by_cases h:e=0
 · subst h
   go_enter Tryz.func132,Tryz.ntmps132
   go_wp2
   go_ret2
   exact ⟨_,rfl,fun _ _=>rfl,Ext.refl w⟩
 · have hf:numF n e=(none,e):=by unfold numF; rw [if_neg h]
   rw [hf]
   have hn:(e != 0)=true:=by simpa using h
   clear h hf
   go_enter Tryz.func132,Tryz.ntmps132
   go_wp2
   go_ret2
   exact ⟨_,rfl,fun _ _=>rfl,Ext.refl w⟩
theorem agN_new (w:World) (N:Nat) (hN:N≤w.heap.size):AgAt ((w.alloc (.map #[] 0)).alloc (.cells #[.map (some w.heap.size),.int .i64 0] 144)) N (w.heap.size+1) w.heap.size [] 0:=by
 refine ⟨heap_at _ _ (by simp),⟨0, ?_,Nat.le_refl _⟩,fun x hx=>by simp at hx,List.Pairwise.nil,List.Pairwise.nil,fun x hx=>by simp at hx,by simp,by omega,by omega,fun x hx=>by simp at hx⟩
 exact (World.ownsMap_made w _ _ _).alloc _
theorem ANew_c (w:World) :
 Calls Tryz.prog 34 #[] w fun r w'=>r=.returned (.pointer (some ⟨w.heap.size+1,0,none⟩))∧AgAt w' w.heap.size (w.heap.size+1) w.heap.size [] 0∧Ext w w':=by
 have hmm:=run_makeMap (P:=Tryz.prog) 142 w
 go_enter Tryz.func34,Tryz.ntmps34
 go_wp2
 go_ret
 exact ⟨rfl,agN_new w _ (Nat.le_refl _),(Ext.alloc' _ _).allocR _⟩
end Go.Proofs.YtmalncfcgcebhaaGreatDoor
namespace Go.Proofs.YtmalncfcgcebhaaGreatDoor
set_option linter.unusedVariables false
open Go.Proofs Go.RowKit
theorem Th.v_two (T:Th):∃ x y,T.v=.agg #[.pointer x,.pointer y]:=by cases T <;> exact ⟨_,_,rfl⟩
theorem turn_mod {w w':World} {b:Nat} (h:w.mapTurned w' b):Mod (fun k=>k=b) w w':=by
 have hg:=h.grown
 exact ⟨hg.os,hg.tape,hg.output,hg.size,fun k hk hn=>hg.block k hk (fun e=>hn (by cases e; rfl))⟩
theorem AMade_err (p:Nat) (x y:Option Addr) (c:Int) (hc:c≠0) (w:World) :
 Calls Tryz.prog 82 #[.pointer (some ⟨p,0,none⟩),.agg #[.pointer x,.pointer y],.int .i64 c] w fun e w'=>e=.returned (.tuple #[.nilIface,.int .i64 c])∧Ext w w':=by
 have hn:(c != 0)=true:=by simpa using hc
 clear hc
 go_enter Tryz.func82,Tryz.ntmps82
 go_wp2
 go_ret2
 exact ⟨rfl,Ext.alloc' _ _⟩
set_option maxRecDepth 20000 in
set_option maxHeartbeats 4000000 in
theorem AMade_c {w:World} {N p m:Nat} {l:List (Nat × Th)} {last:Nat} (h:AgAt w N p m l last) (T:Th) (hT:T.At w) (hf:∀ k,T.cs k→¬ AgF p m l k) (hN:∀ k,T.cs k→N≤k) (hl:last < 1000000) :
 Calls Tryz.prog 82 #[.pointer (some ⟨p,0,none⟩),T.v,.int .i64 0] w (fun e w'=>∃ v l' last',e=.returned (.tuple #[v,.int .i64 (madeF (stOf l last) T.ab).1.2])∧(∀ base w2,RepOAt base w2 v (madeF (stOf l last) T.ab).1.1)∧AgAt w' N p m l' last'∧stOf l' last'=(madeF (stOf l last) T.ab).2∧(∀ k,AgF p m l' k→AgF p m l k∨T.cs k)∧Mod (AgF p m l) w w'):=by
 obtain ⟨x,y,hv⟩:=T.v_two
 have HL:=Lib.hid h
 have hpl:=h.ltp
 obtain ⟨nn,hown,hnn⟩:=h.hm
 have hml:=hown.lt
 have c0:=(cell_of h.hp 0).trans rfl
 have c1:=(cell_of h.hp 1).trans rfl
 have f1:=frozen_of h.hp 1
 have hsz:Maps.size (hD (l.map fun x=>(x.1,x.2.v)))=l.length:=by rw [hD_size,List.length_map]
 have HW:=Lib.hid hown
 have HT:=Lib.hid hT
 clear h hown hT
 by_cases hlen:32≤l.length
 · have hm:madeF (stOf l last) T.ab=((none,11),stOf l last):=by unfold madeF; rw [stOf_len,if_pos hlen]
   rw [hm]
   rw [hv]
   have hge:decide ((32:Int)≤(l.length:Int))=true:=decide_eq_true (by omega)
   clear hm
   go_enter Tryz.func82,Tryz.ntmps82
   go_wp2_with (at_len; refine wpList_len_own _ rfl _ 142 rfl 3 152 Tryz.underlying142 Rh m nn _ rfl (HW.out.alloc _) ?_; rw [hsz])
   go_ret2
   exact ⟨_,l,last,rfl,fun _ _=>rfl,HL.out.ext (Ext.alloc' _ _),rfl,fun k hk=>.inl hk,(Ext.alloc' _ _).mod _⟩
 · have hm:madeF (stOf l last) T.ab=((some (.handle ((last+1:Nat):Int)),0),stOf (l++[(last+1,T)]) (last+1)):=by
    unfold madeF; rw [stOf_len,if_neg hlen,stOf_app]; rfl
   rw [hm]
   rw [hv]
   have hge:decide ((32:Int)≤(l.length:Int))=false:=decide_eq_false (by omega)
   clear hm
   obtain ⟨k,hk⟩:∃ k:Nat,(last:Int)+1=(k:Int):=⟨last+1,by omega⟩
   have HKL:=Lib.hid (show k=last+1 by omega)
   have hkl:(k:Int)≤2000000:=by omega
   go_enter Tryz.func82,Tryz.ntmps82
   go_wp2_with (at_len; refine wpList_len_own _ rfl _ 142 rfl 3 152 Tryz.underlying142 Rh m nn _ rfl (HW.out.alloc _) ?_; rw [hsz])
   obtain ⟨W0,hW0⟩:∃ W0,w.setCell ⟨p,1,none⟩ (.int .i64 (k:Int))=W0:=⟨_,rfl⟩
   have hs0:W0.heap.size=w.heap.size:=by rw [← hW0,size_setCell]
   have hp0:W0.heap[p]?=some (.cells #[.map (some m),.int .i64 (k:Int)] 144 (0,0)):=by rw [← hW0]; exact setCell_same HL.out.hp 1 _
   have hm0:Mod (fun k=>k=p) w W0:=by rw [← hW0]; exact ⟨rfl,rfl,rfl,by rw [size_setCell]; exact Nat.le_refl _,fun k hk hn=>setCell_other _ _ hn⟩
   obtain ⟨W1,hW1⟩:∃ W1,W0.alloc (.cells #[.pointer x,.pointer y] 152)=W1:=⟨_,rfl⟩
   have hx1:Ext W0 W1:=by rw [← hW1]; exact Ext.alloc' _ _
   have hp1:=hx1.keep hp0
   have hb1:W1.heap[w.heap.size]?=some (.cells #[.pointer x,.pointer y] 152 (0,0)):=by rw [← hW1,← hs0]; exact heap_at _ _ rfl
   have hm1:Mod (fun k=>k=p) w W1:=hm0.extR hx1
   have hown1:W1.ownsMap Tryz.prog 3 Rh m nn (hD (l.map fun x=>(x.1,x.2.v))):=owns_keep HW.out (hm1.block m hml (fun e=>HL.out.pm e.symm))
   rw [hW0,hW1]
   have p0:=(cell_of hp1 0).trans rfl
   have p1:=(cell_of hp1 1).trans rfl
   have pl1:=lt_of hp1
   have b0:=(cell_of hb1 0).trans rfl
   have b1:=(cell_of hb1 1).trans rfl
   have bl1:=lt_of hb1
   have HP1:=Lib.hid hp1
   have HM1:=Lib.hid hm1
   have HO1:=Lib.hid hown1
   clear hx1 hp0 hm0 hm1 hown1 hs0 hW0 hW1 c0 c1 f1 hp1 hb1
   have hC0:=af_drew W1
   refine pi_start (fun w'=>∃ x:After W1,w'=x.w) [9] (by kernel_rfl) ?_
   refine pi_t 0 rfl (by kernel_rfl) (by kernel_rfl) (fun _ _ _ _ h=>h) (fun K hK=>?_)
   go_big_quiet_op
   refine hK _ ?_
   clear hK K
   refine pi_t 1 rfl (by kernel_rfl) (by kernel_rfl) (fun _ _ _ _ h=>h) (fun K hK=>?_)
   go_big_quiet_op
   refine hK _ ?_
   clear hK K
   refine pi_t 2 rfl (by kernel_rfl) (by kernel_rfl) (fun _ _ _ _ h=>h) (fun K hK=>?_)
   go_big_quiet_op
   refine hK _ ?_
   clear hK K
   refine pi_t 4 rfl (by kernel_rfl) (by kernel_rfl) (fun _ _ _ _ h=>h) (fun K hK=>?_)
   go_big_quiet_op
   refine hK _ ?_
   clear hK K
   refine pi_t 5 rfl (by kernel_rfl) (by kernel_rfl) (fun _ _ _ _ h=>h) (fun K hK=>?_)
   go_big_quiet_op
   refine hK _ ?_
   clear hK K
   refine pi_t 6 rfl (by kernel_rfl) (by kernel_rfl) (fun _ _ _ _ h=>h) (fun K hK=>?_)
   go_big_quiet_op
   refine hK _ ?_
   clear hK K
   refine pi_c 3 (by assumption) rfl (by kernel_rfl) (by kernel_rfl) (fun _ _ _ _ h=>h) (fun K hK=>?_)
   go_big_quiet_op
   refine hK _ ?_
   clear hK K
   refine pi_c 7 (by assumption) rfl (by kernel_rfl) (by kernel_rfl) (fun _ _ _ _ h=>h) (fun K hK=>?_)
   go_big_quiet_op
   refine hK _ ?_
   clear hK K
   refine pi_c 8 (by assumption) rfl (by kernel_rfl) (by kernel_rfl) (fun _ _ _ _ h=>h) (fun K hK=>?_)
   go_big_quiet_op
   refine hK _ ?_
   clear hK K
   refine pi_l 9 rfl (by kernel_rfl) (fun K hK=>?_)
   refine wpList_mapUpdate_in _ rfl _ _ _ 142 rfl 3 152 (Maps.int_keyed Tryz.underlying3) Tryz.underlying142 Rh m nn _ rfl HO1.out.drew (by unfold maxLen; omega) _ _ _ rfl rfl (key_int _ _ Tryz.underlying3 _ ⟨by omega,by omega⟩) _ [] rfl ?_
   intro w2 hown2 hturn
   have hM2:Mod (fun k=>k=m) W1 w2:=⟨(turn_mod hturn).os,(turn_mod hturn).tape,(turn_mod hturn).output,(turn_mod hturn).size,(turn_mod hturn).block⟩
   have hp2:=hM2.keep HP1.out HL.out.pm
   have q1:=(cell_of hp2 1).trans rfl
   have ql:=lt_of hp2
   have HP2:=Lib.hid hp2
   have HM2:=Lib.hid hM2
   have HO2:=Lib.hid hown2
   clear hown2 hturn hM2 hp2 p0 p1 pl1 b0 b1 bl1
   go_wp2
   refine hK _ _ (by simp) ?_
   clear hK K
   refine pi_end (by kernel_rfl) ?_
   go_wp2
   go_ret2
   have hkk:=HKL.out
   subst hkk
   have hM:Mod (fun k=>k=p∨k=m) w w2:=(HM1.out.mono (fun k hk _=>.inl hk)).trans (HM2.out.mono (fun k hk _=>.inr hk))
   have hO:=HO2.out
   rw [← hv] at hO
   refine ⟨_,l++[(last+1,T)],last+1,rfl,fun _ _=>rfl,HL.out.more HT.out hf hN (by omega) HP2.out hO (by omega) hM,rfl,fun k hk=>agF_more hk,hM.mono fun k hk _=>?_⟩
   rcases hk with rfl | rfl
   · exact .inl rfl
   · exact .inr (.inl rfl)
end Go.Proofs.YtmalncfcgcebhaaGreatDoor
namespace Go.Proofs.YtmalncfcgcebhaaGreatDoor
set_option linter.unusedVariables false
open Go.Proofs Go.RowKit
@[go_sem] theorem ta_c00 (v:Value) (w:World):(Instr.typeAssert (.iface 167 v) 85 167 true).run Tryz.prog w=.ok (.tuple #[v,.bool true]) w:=by kernel_rfl
@[go_sem] theorem ta_c10 (v:Value) (w:World):(Instr.typeAssert (.iface 170 v) 85 167 true).run Tryz.prog w=.ok (.tuple #[.agg #[.int .i64 0,.int .i64 0,.int .i64 0,.int .i64 0,.int .u64 0],.bool false]) w:=by kernel_rfl
@[go_sem] theorem ta_c11 (v:Value) (w:World):(Instr.typeAssert (.iface 170 v) 85 170 true).run Tryz.prog w=.ok (.tuple #[v,.bool true]) w:=by kernel_rfl
@[go_sem] theorem ta_c20 (v:Value) (w:World):(Instr.typeAssert (.iface 174 v) 85 167 true).run Tryz.prog w=.ok (.tuple #[.agg #[.int .i64 0,.int .i64 0,.int .i64 0,.int .i64 0,.int .u64 0],.bool false]) w:=by kernel_rfl
@[go_sem] theorem ta_c21 (v:Value) (w:World):(Instr.typeAssert (.iface 174 v) 85 170 true).run Tryz.prog w=.ok (.tuple #[.agg #[.int .i64 0,.int .i64 0,.int .i64 0,.int .i64 0,.int .u64 0,.int .i64 0],.bool false]) w:=by kernel_rfl
@[go_sem] theorem ta_c22 (v:Value) (w:World):(Instr.typeAssert (.iface 174 v) 85 174 true).run Tryz.prog w=.ok (.tuple #[v,.bool true]) w:=by kernel_rfl
@[go_sem] theorem ta_c30 (v:Value) (w:World):(Instr.typeAssert (.iface 176 v) 85 167 true).run Tryz.prog w=.ok (.tuple #[.agg #[.int .i64 0,.int .i64 0,.int .i64 0,.int .i64 0,.int .u64 0],.bool false]) w:=by kernel_rfl
@[go_sem] theorem ta_c31 (v:Value) (w:World):(Instr.typeAssert (.iface 176 v) 85 170 true).run Tryz.prog w=.ok (.tuple #[.agg #[.int .i64 0,.int .i64 0,.int .i64 0,.int .i64 0,.int .u64 0,.int .i64 0],.bool false]) w:=by kernel_rfl
@[go_sem] theorem ta_c32 (v:Value) (w:World):(Instr.typeAssert (.iface 176 v) 85 174 true).run Tryz.prog w=.ok (.tuple #[.agg #[.int .i64 0,.bool false,.string ⟨#[]⟩,.int .u64 0,.int .i64 0],.bool false]) w:=by kernel_rfl
@[go_sem] theorem ta_c33 (v:Value) (w:World):(Instr.typeAssert (.iface 176 v) 85 176 true).run Tryz.prog w=.ok (.tuple #[v,.bool true]) w:=by kernel_rfl
@[go_sem] theorem ta_c40 (v:Value) (w:World):(Instr.typeAssert (.iface 179 v) 85 167 true).run Tryz.prog w=.ok (.tuple #[.agg #[.int .i64 0,.int .i64 0,.int .i64 0,.int .i64 0,.int .u64 0],.bool false]) w:=by kernel_rfl
@[go_sem] theorem ta_c41 (v:Value) (w:World):(Instr.typeAssert (.iface 179 v) 85 170 true).run Tryz.prog w=.ok (.tuple #[.agg #[.int .i64 0,.int .i64 0,.int .i64 0,.int .i64 0,.int .u64 0,.int .i64 0],.bool false]) w:=by kernel_rfl
@[go_sem] theorem ta_c42 (v:Value) (w:World):(Instr.typeAssert (.iface 179 v) 85 174 true).run Tryz.prog w=.ok (.tuple #[.agg #[.int .i64 0,.bool false,.string ⟨#[]⟩,.int .u64 0,.int .i64 0],.bool false]) w:=by kernel_rfl
@[go_sem] theorem ta_c43 (v:Value) (w:World):(Instr.typeAssert (.iface 179 v) 85 176 true).run Tryz.prog w=.ok (.tuple #[.agg #[],.bool false]) w:=by kernel_rfl
@[go_sem] theorem ta_c44 (v:Value) (w:World):(Instr.typeAssert (.iface 179 v) 85 179 true).run Tryz.prog w=.ok (.tuple #[v,.bool true]) w:=by kernel_rfl
@[go_sem] theorem ta_c50 (v:Value) (w:World):(Instr.typeAssert (.iface 182 v) 85 167 true).run Tryz.prog w=.ok (.tuple #[.agg #[.int .i64 0,.int .i64 0,.int .i64 0,.int .i64 0,.int .u64 0],.bool false]) w:=by kernel_rfl
@[go_sem] theorem ta_c51 (v:Value) (w:World):(Instr.typeAssert (.iface 182 v) 85 170 true).run Tryz.prog w=.ok (.tuple #[.agg #[.int .i64 0,.int .i64 0,.int .i64 0,.int .i64 0,.int .u64 0,.int .i64 0],.bool false]) w:=by kernel_rfl
@[go_sem] theorem ta_c52 (v:Value) (w:World):(Instr.typeAssert (.iface 182 v) 85 174 true).run Tryz.prog w=.ok (.tuple #[.agg #[.int .i64 0,.bool false,.string ⟨#[]⟩,.int .u64 0,.int .i64 0],.bool false]) w:=by kernel_rfl
@[go_sem] theorem ta_c53 (v:Value) (w:World):(Instr.typeAssert (.iface 182 v) 85 176 true).run Tryz.prog w=.ok (.tuple #[.agg #[],.bool false]) w:=by kernel_rfl
@[go_sem] theorem ta_c54 (v:Value) (w:World):(Instr.typeAssert (.iface 182 v) 85 179 true).run Tryz.prog w=.ok (.tuple #[.agg #[.string ⟨#[]⟩,.int .i64 0,.slice none 0 0],.bool false]) w:=by kernel_rfl
@[go_sem] theorem ta_c55 (v:Value) (w:World):(Instr.typeAssert (.iface 182 v) 85 182 true).run Tryz.prog w=.ok (.tuple #[v,.bool true]) w:=by kernel_rfl
@[go_sem] theorem ta_c60 (v:Value) (w:World):(Instr.typeAssert (.iface 185 v) 85 167 true).run Tryz.prog w=.ok (.tuple #[.agg #[.int .i64 0,.int .i64 0,.int .i64 0,.int .i64 0,.int .u64 0],.bool false]) w:=by kernel_rfl
@[go_sem] theorem ta_c61 (v:Value) (w:World):(Instr.typeAssert (.iface 185 v) 85 170 true).run Tryz.prog w=.ok (.tuple #[.agg #[.int .i64 0,.int .i64 0,.int .i64 0,.int .i64 0,.int .u64 0,.int .i64 0],.bool false]) w:=by kernel_rfl
@[go_sem] theorem ta_c62 (v:Value) (w:World):(Instr.typeAssert (.iface 185 v) 85 174 true).run Tryz.prog w=.ok (.tuple #[.agg #[.int .i64 0,.bool false,.string ⟨#[]⟩,.int .u64 0,.int .i64 0],.bool false]) w:=by kernel_rfl
@[go_sem] theorem ta_c63 (v:Value) (w:World):(Instr.typeAssert (.iface 185 v) 85 176 true).run Tryz.prog w=.ok (.tuple #[.agg #[],.bool false]) w:=by kernel_rfl
@[go_sem] theorem ta_c64 (v:Value) (w:World):(Instr.typeAssert (.iface 185 v) 85 179 true).run Tryz.prog w=.ok (.tuple #[.agg #[.string ⟨#[]⟩,.int .i64 0,.slice none 0 0],.bool false]) w:=by kernel_rfl
@[go_sem] theorem ta_c65 (v:Value) (w:World):(Instr.typeAssert (.iface 185 v) 85 182 true).run Tryz.prog w=.ok (.tuple #[.agg #[.string ⟨#[]⟩,.int .i64 0,.int .i64 0],.bool false]) w:=by kernel_rfl
@[go_sem] theorem ta_c66 (v:Value) (w:World):(Instr.typeAssert (.iface 185 v) 85 185 true).run Tryz.prog w=.ok (.tuple #[v,.bool true]) w:=by kernel_rfl
@[go_sem] theorem ta_r00 (v:Value) (w:World):(Instr.typeAssert (.iface 134 v) 89 134 true).run Tryz.prog w=.ok (.tuple #[v,.bool true]) w:=by kernel_rfl
@[go_sem] theorem ta_r10 (v:Value) (w:World):(Instr.typeAssert (.iface 190 v) 89 134 true).run Tryz.prog w=.ok (.tuple #[.agg #[],.bool false]) w:=by kernel_rfl
@[go_sem] theorem ta_r11 (v:Value) (w:World):(Instr.typeAssert (.iface 190 v) 89 190 true).run Tryz.prog w=.ok (.tuple #[v,.bool true]) w:=by kernel_rfl
@[go_sem] theorem ta_r20 (v:Value) (w:World):(Instr.typeAssert (.iface 132 v) 89 134 true).run Tryz.prog w=.ok (.tuple #[.agg #[],.bool false]) w:=by kernel_rfl
@[go_sem] theorem ta_r21 (v:Value) (w:World):(Instr.typeAssert (.iface 132 v) 89 190 true).run Tryz.prog w=.ok (.tuple #[.agg #[.int .i64 0],.bool false]) w:=by kernel_rfl
@[go_sem] theorem ta_r22 (v:Value) (w:World):(Instr.typeAssert (.iface 132 v) 89 132 true).run Tryz.prog w=.ok (.tuple #[v,.bool true]) w:=by kernel_rfl
@[go_sem] theorem ta_r30 (v:Value) (w:World):(Instr.typeAssert (.iface 137 v) 89 134 true).run Tryz.prog w=.ok (.tuple #[.agg #[],.bool false]) w:=by kernel_rfl
@[go_sem] theorem ta_r31 (v:Value) (w:World):(Instr.typeAssert (.iface 137 v) 89 190 true).run Tryz.prog w=.ok (.tuple #[.agg #[.int .i64 0],.bool false]) w:=by kernel_rfl
@[go_sem] theorem ta_r32 (v:Value) (w:World):(Instr.typeAssert (.iface 137 v) 89 132 true).run Tryz.prog w=.ok (.tuple #[.agg #[.int .i64 0],.bool false]) w:=by kernel_rfl
@[go_sem] theorem ta_r33 (v:Value) (w:World):(Instr.typeAssert (.iface 137 v) 89 137 true).run Tryz.prog w=.ok (.tuple #[v,.bool true]) w:=by kernel_rfl
@[go_sem] theorem ta_r40 (v:Value) (w:World):(Instr.typeAssert (.iface 196 v) 89 134 true).run Tryz.prog w=.ok (.tuple #[.agg #[],.bool false]) w:=by kernel_rfl
@[go_sem] theorem ta_r41 (v:Value) (w:World):(Instr.typeAssert (.iface 196 v) 89 190 true).run Tryz.prog w=.ok (.tuple #[.agg #[.int .i64 0],.bool false]) w:=by kernel_rfl
@[go_sem] theorem ta_r42 (v:Value) (w:World):(Instr.typeAssert (.iface 196 v) 89 132 true).run Tryz.prog w=.ok (.tuple #[.agg #[.int .i64 0],.bool false]) w:=by kernel_rfl
@[go_sem] theorem ta_r43 (v:Value) (w:World):(Instr.typeAssert (.iface 196 v) 89 137 true).run Tryz.prog w=.ok (.tuple #[.agg #[.int .u64 0],.bool false]) w:=by kernel_rfl
@[go_sem] theorem ta_r44 (v:Value) (w:World):(Instr.typeAssert (.iface 196 v) 89 196 true).run Tryz.prog w=.ok (.tuple #[v,.bool true]) w:=by kernel_rfl
@[go_sem] theorem ta_r50 (v:Value) (w:World):(Instr.typeAssert (.iface 141 v) 89 134 true).run Tryz.prog w=.ok (.tuple #[.agg #[],.bool false]) w:=by kernel_rfl
@[go_sem] theorem ta_r51 (v:Value) (w:World):(Instr.typeAssert (.iface 141 v) 89 190 true).run Tryz.prog w=.ok (.tuple #[.agg #[.int .i64 0],.bool false]) w:=by kernel_rfl
@[go_sem] theorem ta_r52 (v:Value) (w:World):(Instr.typeAssert (.iface 141 v) 89 132 true).run Tryz.prog w=.ok (.tuple #[.agg #[.int .i64 0],.bool false]) w:=by kernel_rfl
@[go_sem] theorem ta_r53 (v:Value) (w:World):(Instr.typeAssert (.iface 141 v) 89 137 true).run Tryz.prog w=.ok (.tuple #[.agg #[.int .u64 0],.bool false]) w:=by kernel_rfl
@[go_sem] theorem ta_r54 (v:Value) (w:World):(Instr.typeAssert (.iface 141 v) 89 196 true).run Tryz.prog w=.ok (.tuple #[.agg #[.int .i64 0,.int .u64 0],.bool false]) w:=by kernel_rfl
@[go_sem] theorem ta_r55 (v:Value) (w:World):(Instr.typeAssert (.iface 141 v) 89 141 true).run Tryz.prog w=.ok (.tuple #[v,.bool true]) w:=by kernel_rfl
@[go_sem] theorem ta_r60 (v:Value) (w:World):(Instr.typeAssert (.iface 204 v) 89 134 true).run Tryz.prog w=.ok (.tuple #[.agg #[],.bool false]) w:=by kernel_rfl
@[go_sem] theorem ta_r61 (v:Value) (w:World):(Instr.typeAssert (.iface 204 v) 89 190 true).run Tryz.prog w=.ok (.tuple #[.agg #[.int .i64 0],.bool false]) w:=by kernel_rfl
@[go_sem] theorem ta_r62 (v:Value) (w:World):(Instr.typeAssert (.iface 204 v) 89 132 true).run Tryz.prog w=.ok (.tuple #[.agg #[.int .i64 0],.bool false]) w:=by kernel_rfl
@[go_sem] theorem ta_r63 (v:Value) (w:World):(Instr.typeAssert (.iface 204 v) 89 137 true).run Tryz.prog w=.ok (.tuple #[.agg #[.int .u64 0],.bool false]) w:=by kernel_rfl
@[go_sem] theorem ta_r64 (v:Value) (w:World):(Instr.typeAssert (.iface 204 v) 89 196 true).run Tryz.prog w=.ok (.tuple #[.agg #[.int .i64 0,.int .u64 0],.bool false]) w:=by kernel_rfl
@[go_sem] theorem ta_r65 (v:Value) (w:World):(Instr.typeAssert (.iface 204 v) 89 141 true).run Tryz.prog w=.ok (.tuple #[.agg #[.slice none 0 0],.bool false]) w:=by kernel_rfl
@[go_sem] theorem ta_r66 (v:Value) (w:World):(Instr.typeAssert (.iface 204 v) 89 204 true).run Tryz.prog w=.ok (.tuple #[v,.bool true]) w:=by kernel_rfl
end Go.Proofs.YtmalncfcgcebhaaGreatDoor
namespace Go.Proofs.YtmalncfcgcebhaaGreatDoor
set_option linter.unusedVariables false
open Go.Proofs Go.Shelf Go.RowKit
def BldAt (B b:Nat) (l:List UInt8) (w:World):Prop:=Lib.IsBuilderF 188 5 B b (Lib.byteCells l) w
set_option maxRecDepth 100000 in
theorem bldU (b:Nat) (w:World) (h0:w.cell? ⟨b,0,none⟩=some (.pointer (some ⟨b,0,none⟩))) :
 Calls Tryz.prog 145 #[.pointer (some ⟨b,0,none⟩)] w fun e w'=>e=.returned (.tuple #[])∧w'=w:=by
 have hsz:(Tryz.prog.info? 188).map (·.size)=some 2:=by kernel_rfl
 obtain ⟨j,hj,hjs⟩:=Option.map_eq_some_iff.1 hsz
 go_enter Tryz.func145,Tryz.ntmps145
 go_wp2
 rw [Lib.run_neq_ptr_same w _ Tryz.underlying186 hj]
 go_wp2
 go_end0
 exact ⟨rfl,rfl⟩
set_option maxRecDepth 100000 in
theorem bldF (b:Nat) (w:World) (h0:w.cell? ⟨b,0,none⟩=some (.pointer none)) (hsh:w.shape? b=some (188,2)) (hfz:w.frozen? ⟨b,0,none⟩=false) :
 Calls Tryz.prog 145 #[.pointer (some ⟨b,0,none⟩)] w fun e w'=>e=.returned (.tuple #[])∧w'=w.setCell ⟨b,0,none⟩ (.pointer (some ⟨b,0,none⟩)):=by
 have hsz:(Tryz.prog.info? 188).map (·.size)=some 2:=by kernel_rfl
 obtain ⟨j,hj,hjs⟩:=Option.map_eq_some_iff.1 hsz
 go_enter Tryz.func145,Tryz.ntmps145
 go_wp2
 rw [Lib.run_to_unsafe w ⟨b,0,none⟩ Tryz.underlying186 Tryz.underlying304 hj (by rw [hjs]; decide) hsh (Nat.zero_lt_succ 1)]
 simp only [Result.andThen]
 rw [Oper.upon_value]
 go_wp2
 rw [run_callFunc_extern Tryz.func188 (by kernel_rfl) (by kernel_rfl) (by kernel_rfl) (e:=Extern.AbiNoEscape.same) (by kernel_rfl)]
 rw [Lib.run_noEscape]
 simp only [Result.andThen]
 rw [Oper.upon_value]
 go_wp2
 rw [Lib.run_from_unsafe w ⟨b,0,none⟩ Tryz.underlying304 Tryz.underlying186 hj hsh Tryz.bstX.liesBuilder]
 simp only [Result.andThen]
 rw [Oper.upon_value]
 go_wp2
 go_end0
 exact ⟨rfl,rfl⟩
theorem bldC (B b:Nat) (bs:List Value) (w:World) (h:Lib.IsBuilderF 188 5 B b bs w) :
 Calls Tryz.prog 145 #[.pointer (some ⟨b,0,none⟩)] w fun e w'=>e=.returned (.tuple #[])∧Lib.BuilderAtF 188 5 B b (.pointer (some ⟨b,0,none⟩)) bs w'∧Below B w w'∧Lib.OthersKept 5 (some b) w w':=by
 rcases h with h | h
 · refine (bldF b w h.cell0 h.shape h.frozen0).mono ?_
   rintro e w' ⟨rfl,rfl⟩
   exact ⟨rfl,h.used _,(Below.refl B w).setCell (p:=⟨b,0,none⟩) h.1 _,(Lib.OthersKept.refl _ _ w).setCell ⟨b,0,none⟩ rfl _⟩
 · refine (bldU b w h.cell0).mono ?_
   rintro e w' ⟨rfl,rfl⟩
   exact ⟨rfl,h,Below.refl B _,Lib.OthersKept.refl _ _ _⟩
theorem info_byte:∃ i,Tryz.prog.info? 5=some i∧i.zero=some (.int .u8 0)∧i.size=1∧i.bytes=1:=by
 obtain ⟨i,h1,h2,h3,h4⟩:=info_parts Tryz.bstX.infoByte
 exact ⟨i,h1,h2,h3,h4⟩
set_option maxRecDepth 100000 in
set_option maxHeartbeats 2000000 in
theorem BWriteString_c (B b:Nat) (l:List UInt8) (s:ByteArray) (w:World) (h:BldAt B b l w) (hlen:l.length+s.size≤140737488355328) (hBw:B≤w.heap.size) :
 Calls Tryz.prog 92 #[.pointer (some ⟨b,0,none⟩),.string s] w fun e w'=>e=.returned (.tuple #[.int .i64 s.size,.nilIface])∧BldAt B b (l++s.data.toList) w'∧Below B w w'∧Lib.OthersKept 5 (some b) w w':=by
 obtain ⟨i0,hi,hz0,hz1,hz2⟩:=info_byte
 have HC:=Lib.hid (bldC B b _ w h)
 clear h
 go_enter Tryz.func92,Tryz.ntmps92
 go_wp2_with fail
 refine Calls.mono HC.out ?_
 rintro e w1 ⟨rfl,h1,hb1,hk1⟩
 have HK1:=Lib.hid hk1
 clear hk1
 obtain ⟨hB,v,hbk,hown,hne⟩:=h1
 have c0:w1.cell? ⟨b,0,none⟩=some (.pointer (some ⟨b,0,none⟩)):=by rw [Lib.cell_of_heap hbk]; rfl
 have c1:w1.cell? ⟨b,1,none⟩=some v:=by rw [Lib.cell_of_heap hbk]; rfl
 have hlt:=lt_of hbk
 rw [Lib.byteCells_length] at hown
 go_wp2_with (at_builtin; refine Lib.wpList_append_own_stringF _ rfl _ _ 44 9 rfl B 5 i0 Tryz.underlying44 Tryz.underlying9 hi hz0 hz1 hz2 _ _ _ rfl hown s rfl ?c3 ?c4 ?c5 ?_)
 case c3=>unfold maxLen; omega
 case c4=>omega
 case c5=>have:=hb1.size; omega
 intro v' w2 hown' hgrow _
 have hb2:w2.heap[b]?=some (.cells #[.pointer (some ⟨b,0,none⟩),v] 188 (0,0)):=by
  rw [hgrow.block b hlt (fun e=>hne e.symm)]
  exact hbk
 have d0:w2.cell? ⟨b,0,none⟩=some (.pointer (some ⟨b,0,none⟩)):=by rw [Lib.cell_of_heap hb2]; rfl
 have d1:w2.cell? ⟨b,1,none⟩=some v:=by rw [Lib.cell_of_heap hb2]; rfl
 have f1:w2.frozen? ⟨b,1,none⟩=false:=Lib.frozen_of_heap hb2 1
 obtain ⟨ao,n',cap,rfl⟩:∃ ao n' cap,v'=.slice ao n' cap:=by
  rcases hown'.2 with ⟨hv,_⟩ | ⟨g,cap,cur,fz,hv,_⟩
  · exact ⟨_,_,_,hv⟩
  · exact ⟨_,_,_,hv⟩
 clear c0 c1 hlt
 have HO:=Lib.hid hown'
 have HG:=Lib.hid hgrow
 have HB2:=Lib.hid hb2
 have HOW:=Lib.hid hown
 have HB1:=Lib.hid hb1
 clear hown' hgrow hb2 hown hbk hb1
 go_wp2
 go_ret2
 have e1:Lib.byteCells l++Lib.strCells s=Lib.byteCells (l++s.data.toList):=by
  simp [Lib.byteCells,Lib.strCells]
 refine ⟨rfl,.inr ?_, ?_,(HK1.out.grown HG.out (Lib.ownsRowF_kind HOW.out)).setCell ⟨b,1,none⟩ rfl _⟩
 · rw [← e1]
   exact Lib.BuilderAtF.put (T:=188) (e:=5) hB HB2.out (bs':=Lib.byteCells l++Lib.strCells s) (by simpa [Lib.strCells_length,Lib.byteCells_length] using HO.out) Tryz.bstX.neB5
 · exact (HB1.out.grown HG.out (by have:=HB1.out.size; omega) (fun k hk=>(HOW.out.lt k hk).1)).setCell (p:=⟨b,1,none⟩) hB _
theorem BString_c (B b:Nat) (l:List UInt8) (w:World) (h:BldAt B b l w) (h0:l≠[]) :
 Calls Tryz.prog 94 #[.pointer (some ⟨b,0,none⟩)] w fun e w'=>e=.returned (strV l)∧Below B w w' :=
 (Any.Builder_String_k Tryz.bstL Tryz.bstX B b l w h h0).mono fun e w' h=>⟨h.1,h.2.2.1⟩
end Go.Proofs.YtmalncfcgcebhaaGreatDoor
namespace Go.Proofs.YtmalncfcgcebhaaGreatDoor
set_option linter.unusedVariables false
open Go.Proofs Go.RowKit
theorem AText_done (w:World):Calls Tryz.prog 46 #[.iface 134 (.agg #[])] w fun e w'=>e=.returned (strV [100,111,110,101])∧Ext w w':=by
 go_enter Tryz.func46,Tryz.ntmps46
 go_wp2_with fail
 go_ret
 exact ⟨rfl,by (repeat' (first | exact Ext.refl _ | assumption | apply Ext.allocR | apply Ext.drewR | apply Ext.drewNR | (refine Ext.trans' ?_ (by assumption))))⟩
theorem AText_handle (h:Int) (hh:I64 h) (w:World) (hT:Tabs w):Calls Tryz.prog 46 #[.iface 190 (.agg #[.int .i64 h])] w fun e w'=>e=.returned (strV ([104,97,110,100,108,101,32]++Lib.itoa h))∧Ext w w':=by
 have HI:=fun w' (hx:Ext w w')=>Lib.hid (Itoa_c h hh w' (hT.ext hx))
 have hil:=Lib.itoa_length_le h hh.1 hh.2
 go_enter Tryz.func46,Tryz.ntmps46
 go_wp2_with fail
 refine Calls.mono (HI _ (by (repeat' (first | exact Ext.refl _ | assumption | apply Ext.allocR | apply Ext.drewR | apply Ext.drewNR | (refine Ext.trans' ?_ (by assumption)))))).out ?_
 rintro r w1 ⟨rfl,hx⟩
 have HX:=Lib.hid (show Ext w w1 from Ext.trans' (by (repeat' (first | exact Ext.refl _ | assumption | apply Ext.allocR | apply Ext.drewR | apply Ext.drewNR | (refine Ext.trans' ?_ (by assumption))))) hx)
 clear hx
 unfold strV
 go_wp2
 go_ret
 exact ⟨congrArg Ending.returned (congrArg Value.string (cat_str _ _)),HX.out⟩
theorem AText_num (h:Int) (hh:I64 h) (w:World) (hT:Tabs w):Calls Tryz.prog 46 #[.iface 132 (.agg #[.int .i64 h])] w fun e w'=>e=.returned (strV ([110,117,109,98,101,114,32]++Lib.itoa h))∧Ext w w':=by
 have HI:=fun w' (hx:Ext w w')=>Lib.hid (FormatInt_c h hh w' (hT.ext hx))
 have hil:=Lib.itoa_length_le h hh.1 hh.2
 go_enter Tryz.func46,Tryz.ntmps46
 go_wp2_with fail
 refine Calls.mono (HI _ (by (repeat' (first | exact Ext.refl _ | assumption | apply Ext.allocR | apply Ext.drewR | apply Ext.drewNR | (refine Ext.trans' ?_ (by assumption)))))).out ?_
 rintro r w1 ⟨rfl,hx⟩
 have HX:=Lib.hid (show Ext w w1 from Ext.trans' (by (repeat' (first | exact Ext.refl _ | assumption | apply Ext.allocR | apply Ext.drewR | apply Ext.drewNR | (refine Ext.trans' ?_ (by assumption))))) hx)
 clear hx
 unfold strV
 go_wp2
 go_ret
 exact ⟨congrArg Ending.returned (congrArg Value.string (cat_str _ _)),HX.out⟩
@[go_sem] theorem ta_n_yes (v:Value) (w:World):(Instr.typeAssert (.iface 132 v) 89 132 false).run Tryz.prog w=.ok v w:=by kernel_rfl
@[go_sem] theorem ta_n_k (v:Value) (w:World):(Instr.typeAssert (.iface 137 v) 89 132 true).run Tryz.prog w=.ok (.tuple #[.agg #[.int .i64 0],.bool false]) w:=by kernel_rfl
end Go.Proofs.YtmalncfcgcebhaaGreatDoor
namespace Go.Proofs.YtmalncfcgcebhaaGreatDoor
set_option linter.unusedVariables false
open Go.Proofs Go.RowKit Go.Shelf Go.Sort
set_option maxRecDepth 100000 in
set_option maxHeartbeats 4000000 in
theorem FmtUin_c (u:Nat) (hu64:u < 18446744073709551616) (w:World) (hT:Tabs w) :
 Calls Tryz.prog 141 #[.int .u64 u,.int .i64 10] w fun e w'=>e=.returned (strV (Lib.decDigits u))∧Ext w w':=by
 by_cases hs:u < 100
 · have HS:=Lib.hid (Any.internal_strconv_small { Tryz.itoaL with } u hs w)
   go_enter Tryz.func141,Tryz.ntmps141
   go_wp2_with fail
   refine Calls.mono HS.out ?_
   rintro e w1 ⟨rfl,rfl⟩
   go_wp2
   go_ret
   exact ⟨rfl,Ext.refl _⟩
 · have hu1:1≤u:=by omega
   have hnd20:Lib.nDigits u≤20:=by have:=Lib.numDigits_eq u hu1 hu64; split at this <;> omega
   have hb3:Lib.nDigits u≤23:=by omega
   have hal:Tryz.prog.arrayLen 299=24:=by kernel_rfl
   have hsl1:∀ W,(Instr.sliceAt 299 (.pointer (some ⟨w.heap.size,0,none⟩)) none (some (.int .i64 (Lib.nDigits u:Int))) none).run Tryz.prog W=.ok (.slice (some ⟨w.heap.size,0,none⟩) (Lib.nDigits u) 24) W:=fun W=>by
    rw [run_sliceAt_array_h W 299 ⟨w.heap.size,0,none⟩ (by kernel_rfl) .i64 (Lib.nDigits u:Int) (by omega) (by rw [hal]; omega)]
    go_simp
   have hH0:=Lib.holds_zero0 w 299 (Lib.nDigits u) (by omega)
   have hfmt:=Any.internal_strconv_formatBase10 { Tryz.itoaL with } w.heap.size 0 24 u (Array.replicate (Lib.nDigits u) 0) (w.alloc (.cells Lib.zeros24 299)) hH0 (by rw [Array.size_replicate]; exact Lib.lt_pow_nDigits u) hu64 (by rw [Array.size_replicate]; omega)
   rw [Array.size_replicate] at hfmt
   have HH0:=Lib.hid hH0
   have HF:=Lib.hid hfmt
   have HN := fun W (h : Lib.TabIs Tryz.prog W "internal/strconv.uint64pow10" .u64 Lib.pow10Tab) => Lib.hid (Any.internal_strconv_numDigits { Tryz.itoaL with } u hu1 hu64 W h)
   have HP:=Lib.hid hT.pow
   clear hH0 hal hT hfmt
   go_enter Tryz.func141,Tryz.ntmps141
   go_wp2_with fail
   refine Calls.mono (HN _ (Lib.tabIs_alloc HP.out _)).out ?_
   rintro e w1 ⟨rfl,rfl⟩
   go_wp2_with fail
   refine Calls.mono HF.out ?_
   rintro e w' ⟨rfl,k,v',dk,rfl,hF⟩
   have hcv:(convert 44 9 (.slice (some ⟨w.heap.size,0,none⟩) (Lib.nDigits u) 24)).run Tryz.prog ((putRow (fun (b:UInt8)=>Value.int .u8 (b.toNat:Int)) (w.alloc (.cells Lib.zeros24 299)) w.heap.size 0 dk).drewN k)=.ok (.string ⟨(Lib.decDigits u).toArray⟩) ((putRow (fun (b:UInt8)=>Value.int .u8 (b.toNat:Int)) (w.alloc (.cells Lib.zeros24 299)) w.heap.size 0 dk).drewN k):=by
    have h:=run_convert_bytes_back (P:=Tryz.prog) ((putRow (fun (b:UInt8)=>Value.int .u8 (b.toNat:Int)) (w.alloc (.cells Lib.zeros24 299)) w.heap.size 0 dk).drewN k) 44 9 5 ⟨w.heap.size,0,none⟩ 24 (Lib.decDigits u) Tryz.underlying44 Tryz.underlying5 Tryz.underlying9 (fun j hj=>by
     rw [Lib.row_is_numeral hF j hj,Lib.add_plain,World.cell?_drewN]
     exact cell?_putRow (fun (b:UInt8)=>Value.int .u8 (b.toNat:Int)) _ w.heap.size 0 _ dk HH0.out (by rw [hF.size,Array.size_replicate]) j (by rw [hF.size]; rw [Lib.decDigits_length] at hj; exact hj))
    rw [Lib.decDigits_length] at h
    exact h
   go_wp2
   go_ret
   obtain ⟨os,eo⟩:=Lib.fin_at w (.cells Lib.zeros24 299) dk k 0
   refine ⟨rfl, ?_⟩
   rw [eo]
   exact ext_grow'
theorem FormatUint_c (u:Nat) (hu:u < 18446744073709551616) (w:World) (hT:Tabs w) :
 Calls Tryz.prog 90 #[.int .u64 u,.int .i64 10] w fun e w'=>e=.returned (strV (Lib.decDigits u))∧Ext w w':=by
 have HU:=Lib.hid (FmtUin_c u hu w hT)
 clear hT
 go_enter Tryz.func90,Tryz.ntmps90
 go_wp2_with fail
 refine Calls.mono HU.out ?_
 rintro e w1 ⟨rfl,hx⟩
 unfold strV
 go_wp2
 go_ret
 exact ⟨rfl,hx⟩
end Go.Proofs.YtmalncfcgcebhaaGreatDoor
namespace Go.Proofs.YtmalncfcgcebhaaGreatDoor
set_option linter.unusedVariables false
open Go.Proofs Go.RowKit
def zerosK (C:Cfg):Nat→List Int:=fun n=>zs (lvN C n)
def createF (S:St) (C:Cfg):(Option Rep × Int) × St:=if okB C=true then madeF S (.st C C.bits.toNat (zerosK C)) else ((none,1),S)
theorem DoPost.made {w w1 w':World} {N p m:Nat} {l:List (Nat × Th)} {last:Nat} {T:Th} {e:Ending} (hx:Ext w w1) (hf:∀ k,T.cs k→w.heap.size≤k)
 (h:∃ v l' last',e=.returned (.tuple #[v,.int .i64 (madeF (stOf l last) T.ab).1.2])∧(∀ base w2,RepOAt base w2 v (madeF (stOf l last) T.ab).1.1)∧AgAt w' N p m l' last'∧stOf l' last'=(madeF (stOf l last) T.ab).2∧(∀ k,AgF p m l' k→AgF p m l k∨T.cs k)∧Mod (AgF p m l) w1 w'):DoPost w N p m l last (madeF (stOf l last) T.ab) e w':=by
 obtain ⟨v,l',last',h1,h2,h3,h4,h5,h6⟩:=h
 refine ⟨⟨v,l',last',h1,h2 _ _,h3,h4,fun k hk=>?_⟩,(hx.mod _).trans h6⟩
 rcases h5 k hk with h7 | h7
 · exact .inl h7
 · exact .inr (hf k h7)
set_option maxRecDepth 20000 in
set_option maxHeartbeats 4000000 in
theorem DoCreate_c {w:World} {N p m:Nat} {l:List (Nat × Th)} {last:Nat} (h:AgAt w N p m l last) (C:Cfg) (hs:U64 C.seed) (hl:last < 1000000) :
 Calls Tryz.prog 43 #[.pointer (some ⟨p,0,none⟩),.iface 167 (.agg #[.int .i64 C.bits,.int .i64 C.rows,.int .i64 C.width,.int .i64 C.mode,.int .u64 C.seed])] w (DoPost w N p m l last (createF (stOf l last) C)):=by
 have hpl:=h.ltp
 have HL:=Lib.hid h
 have hNw:N≤w.heap.size:=Nat.le_trans h.lo.1 (Nat.le_of_lt hpl)
 clear h
 by_cases hok:okB C=true
 · have hm:createF (stOf l last) C=madeF (stOf l last) (.st C C.bits.toNat (zerosK C)):=by unfold createF; rw [if_pos hok]
   rw [hm]
   have HK:=fun w'=>Lib.hid (KNew_c C (okB_ok hok hs) w')
   clear hm hok
   go_enter Tryz.func43,Tryz.ntmps43
   go_wp2_with fail
   refine Calls.mono (HK _).out ?_
   rintro e w1 ⟨s,g,L,rfl,hK1,h2,h3,h4,hx⟩
   have hx1:Ext w w1:=(Ext.alloc' _ _).trans' hx
   have HX:=Lib.hid hx1
   have hT:Th.At w1 (.st ⟨s,g,L,zerosK C⟩ C C.bits.toNat):=hK1
   have hfr:∀ k,Th.cs (.st ⟨s,g,L,zerosK C⟩ C C.bits.toNat) k→w.heap.size≤k:=by
    rintro k ⟨n,hn,rfl⟩
    have:=(h4 n hn).2.2
    rw [size_alloc] at this
    exact Nat.le_trans (Nat.le_succ _) this
   have HM:=Lib.hid (AMade_c (HL.out.ext hx1) _ hT (fun k hk hk2=>by have:=hfr k hk; have:=HL.out.flt hk2; omega) (fun k hk=>Nat.le_trans hNw (hfr k hk)) hl)
   clear hK1 h2 h3 h4 hx hx1 hT
   go_wp2_with fail
   refine Calls.mono HM.out ?_
   intro e w2 h5
   have h6:=DoPost.made HX.out hfr h5
   obtain ⟨v,l',last',rfl,_⟩:=h5
   have H6:=Lib.hid h6
   clear h6
   go_wp2
   go_ret2
   exact H6.out
 · have hm:createF (stOf l last) C=((none,1),stOf l last):=by unfold createF; rw [if_neg hok]
   rw [hm]
   have hno:okB C=false:=by simpa using hok
   have HK:=fun w'=>Lib.hid (KNew_no C hno w')
   clear hm hok hno
   go_enter Tryz.func43,Tryz.ntmps43
   go_wp2_with fail
   refine Calls.mono (HK _).out ?_
   rintro e w1 ⟨rfl,hx⟩
   have HX:=Lib.hid ((Ext.alloc' _ _).trans' hx)
   clear hx
   go_wp2_with fail
   refine Calls.mono (AMade_err p none none 1 (by decide) _) ?_
   rintro e w2 ⟨rfl,hx2⟩
   have HX2:=Lib.hid (HX.out.trans' hx2)
   clear hx2
   go_wp2
   go_ret2
   exact DoPost.same HL.out HX2.out rfl
end Go.Proofs.YtmalncfcgcebhaaGreatDoor
namespace Go.Proofs.YtmalncfcgcebhaaGreatDoor
set_option linter.unusedVariables false
open Go.Proofs Go.RowKit
def Th.C:Th→Cfg
 | .st _ C _=>C
 | .wi _ _ C _ _ _ _=>C
def Th.B:Th→Nat
 | .st _ _ B=>B
 | .wi _ _ _ B _ _ _=>B
def Th.ls:Th→Nat→List Int
 | .st k _ _=>k.ls
 | .wi _ _ _ _ _ sm _=>sm.ls
def AT.C:AT→Cfg
 | .st C _ _=>C
 | .wi C _ _ _ _=>C
def AT.B:AT→Nat
 | .st _ B _=>B
 | .wi _ B _ _ _=>B
def AT.ls:AT→Nat→List Int
 | .st _ _ ls=>ls
 | .wi _ _ _ sm _=>sm
theorem Th.ab_C (T:Th):T.ab.C=T.C:=by cases T <;> rfl
theorem Th.ab_B (T:Th):T.ab.B=T.B:=by cases T <;> rfl
theorem Th.ab_ls (T:Th):T.ab.ls=T.ls:=by cases T <;> rfl
def AStackPost (w:World) (T:Th) (e:Ending) (w':World):Prop :=
 ∃ s g L,e=.returned (.pointer (some ⟨s,0,none⟩))∧KAt w' s g T.C T.B L T.ls∧Ext w w'
set_option maxRecDepth 20000 in
theorem AStack_c (T:Th) (w:World) (h:T.At w):Calls Tryz.prog 129 #[T.v] w (AStackPost w T):=by
 cases T with
 | st k C B =>
   have HK:=Lib.hid h
   clear h
   show Calls _ _ #[.agg #[.pointer (some ⟨k.s,0,none⟩),.pointer none]] _ _
   go_enter Tryz.func129,Tryz.ntmps129
   go_wp2
   go_ret
   exact ⟨k.s,k.g,k.L,rfl,KAt.ext HK.out (Ext.alloc' _ _),Ext.alloc' _ _⟩
 | wi p b C B n sm bk =>
   have HK:=fun (x:World) (hx:Ext w x)=>Lib.hid (WSum_c (WAt.ext h hx))
   show Calls _ _ #[.agg #[.pointer none,.pointer (some ⟨p,0,none⟩)]] _ _
   clear h
   go_enter Tryz.func129,Tryz.ntmps129
   go_wp2_with fail
   refine Calls.mono (HK _ (Ext.alloc' _ _)).out ?_
   rintro e w1 ⟨s,g,L,rfl,h1,_,_,_,hx⟩
   have HX:=Lib.hid ((Ext.alloc' _ _).trans' hx)
   have H1:=Lib.hid h1
   clear h1 hx
   go_wp2
   go_ret
   exact ⟨s,g,L,rfl,H1.out,HX.out⟩
end Go.Proofs.YtmalncfcgcebhaaGreatDoor
namespace Go.Proofs.YtmalncfcgcebhaaGreatDoor
set_option linter.unusedVariables false
open Go.Proofs Go.RowKit
theorem AgAt.look_a {w W1:World} {N p m:Nat} {l:List (Nat × Th)} {last:Nat} (h:AgAt w N p m l last) (hx:Ext w W1) {k:Int} (hk:I64 k) {x:Nat × Th} (hf:fnd l k=some x) :
 ∀ y:After W1,(Instr.lookup 142 (.map (some m)) (.int .i64 k) true).run Tryz.prog y.w=.ok (.tuple #[x.2.v,.bool true]) y.w:=fun y=>((h.ext (hx.trans' y.h)).look hk hf).1
theorem AgAt.lookno_a {w W1:World} {N p m:Nat} {l:List (Nat × Th)} {last:Nat} (h:AgAt w N p m l last) (hx:Ext w W1) {k:Int} (hk:I64 k) (hf:fnd l k=none) :
 ∀ y:After W1,(Instr.lookup 142 (.map (some m)) (.int .i64 k) true).run Tryz.prog y.w=.ok (.tuple #[zT,.bool false]) y.w:=fun y=>(h.ext (hx.trans' y.h)).lookno hk hf
set_option maxRecDepth 20000 in
set_option maxHeartbeats 4000000 in
theorem AQuery_no {w:World} {N p m:Nat} {l:List (Nat × Th)} {last:Nat} (h:AgAt w N p m l last) (what:ByteArray) (k:Int) (s:Value) (hs1:s.oneCell'=true) (hk:I64 k) (hf:fnd l k=none) :
 Calls Tryz.prog 86 #[.pointer (some ⟨p,0,none⟩),.agg #[.string what,.int .i64 k,s]] w fun e w'=>e=.returned (.tuple #[.nilIface,.int .i64 10])∧Ext w w':=by
 have hpl:=h.ltp
 have hx1:Ext w (w.alloc (.cells #[.string what,.int .i64 k,s] 179)):=Ext.alloc' _ _
 have hlk:=h.lookno_a hx1 hk hf
 unfold zT at hlk
 have HL:=Lib.hid h
 have hhp:=hx1.keep h.hp
 have hb:=heap_at w (.cells #[.string what,.int .i64 k,s] 179) rfl
 clear h
 go_enter Tryz.func86,Tryz.ntmps86
 go_wp2_with fail
 obtain ⟨W1,hW1⟩:∃ W1,w.alloc (.cells #[.string what,.int .i64 k,s] 179)=W1:=⟨_,rfl⟩
 rw [hW1] at hx1 hlk hhp hb ⊢
 clear hW1
 have p0:=(cell_of hhp 0).trans rfl
 have p1:=(cell_of hhp 1).trans rfl
 have pl1:=lt_of hhp
 have b0:=(cell_of hb 0).trans rfl
 have b1:=(cell_of hb 1).trans rfl
 have b2:=(cell_of hb 2).trans rfl
 have bl:=lt_of hb
 have HX1:=Lib.hid hx1
 have HB:=Lib.hid hb
 have HP:=Lib.hid hhp
 clear hx1 hhp hb
 have hC0:=af_drew W1
 refine pi_start (fun w'=>∃ x:After W1,w'=x.w) [] (by kernel_rfl) ?_
 refine pi_t 0 rfl (by kernel_rfl) (by kernel_rfl) (fun _ _ _ _ h=>h) (fun K hK=>?_)
 go_big_quiet_op
 refine hK _ ?_
 clear hK K
 refine pi_t 1 rfl (by kernel_rfl) (by kernel_rfl) (fun _ _ _ _ h=>h) (fun K hK=>?_)
 go_big_quiet_op
 refine hK _ ?_
 clear hK K
 refine pi_t 2 rfl (by kernel_rfl) (by kernel_rfl) (fun _ _ _ _ h=>h) (fun K hK=>?_)
 go_big_quiet_op
 refine hK _ ?_
 clear hK K
 refine pi_t 4 rfl (by kernel_rfl) (by kernel_rfl) (fun _ _ _ _ h=>h) (fun K hK=>?_)
 go_big_quiet_op
 refine hK _ ?_
 clear hK K
 refine pi_c 3 (by assumption) rfl (by kernel_rfl) (by kernel_rfl) (fun _ _ _ _ h=>h) (fun K hK=>?_)
 go_big_quiet_op
 refine hK _ ?_
 clear hK K
 refine pi_c 5 (by assumption) rfl (by kernel_rfl) (by kernel_rfl) (fun _ _ _ _ h=>h) (fun K hK=>?_)
 go_big_quiet_op
 refine hK _ ?_
 clear hK K
 refine pi_c 6 (by assumption) rfl (by kernel_rfl) (by kernel_rfl) (fun _ _ _ _ h=>h) (fun K hK=>?_)
 go_big_quiet_op
 refine hK _ ?_
 clear hK K
 refine pi_t 7 rfl (by kernel_rfl) (by kernel_rfl) (fun _ _ _ _ h=>h) (fun K hK=>?_)
 go_big_quiet_op
 refine hK _ ?_
 clear hK K
 refine pi_t 8 rfl (by kernel_rfl) (by kernel_rfl) (fun _ _ _ _ h=>h) (fun K hK=>?_)
 go_big_quiet_op
 refine hK _ ?_
 clear hK K
 refine pi_t 9 rfl (by kernel_rfl) (by kernel_rfl) (fun _ _ _ _ h=>h) (fun K hK=>?_)
 go_big_quiet_op
 refine hK _ ?_
 clear hK K
 refine pi_l 10 rfl (by kernel_rfl) (fun K hK=>?_)
 go_wp2
 refine hK _ _ (fun _ h=>af_step h (Ext.alloc' _ _)) ?_
 clear hK K
 refine pi_l 11 rfl (by kernel_rfl) (fun K hK=>?_)
 go_wp2
 refine hK _ _ (fun _ _=>⟨⟨_,(Ext.alloc' W1 _).drewR⟩,rfl⟩) ?_
 clear hK K
 refine pi_t 12 rfl (by kernel_rfl) (by kernel_rfl) (fun _ _ _ _ h=>h) (fun K hK=>?_)
 go_big_quiet_op
 refine hK _ ?_
 clear hK K
 refine pi_end (by kernel_rfl) ?_
 go_wp2
 go_ret2
 exact ⟨rfl,HX1.out.trans' ((Ext.alloc' W1 _).drewR)⟩
theorem stOf_drop (l:List (Nat × Th)) (last:Nat) (k:Int):stOf (dropL l k) last=⟨dropL (stOf l last).l k,last⟩:=by unfold stOf; rw [ab_drop]
set_option maxRecDepth 20000 in
set_option maxHeartbeats 4000000 in
theorem AQuery_drop {w:World} {N p m:Nat} {l:List (Nat × Th)} {last:Nat} (h:AgAt w N p m l last) (k:Int) (s:Value) (hs1:s.oneCell'=true) (hk:I64 k) {z:Nat × Th} (hf:fnd l k=some z) :
 Calls Tryz.prog 86 #[.pointer (some ⟨p,0,none⟩),.agg #[.string ⟨#[100,114,111,112]⟩,.int .i64 k,s]] w (DoPost w N p m l last ((some .done,0),⟨dropL (stOf l last).l k,last⟩)):=by
 obtain ⟨x,y,hv⟩:=z.2.v_two
 have hpl:=h.ltp
 have hx1:Ext w (w.alloc (.cells #[.string ⟨#[100,114,111,112]⟩,.int .i64 k,s] 179)):=Ext.alloc' _ _
 have hlk:=h.look_a hx1 hk hf
 rw [hv] at hlk
 have HL:=Lib.hid h
 have hhp:=hx1.keep h.hp
 have hb:=heap_at w (.cells #[.string ⟨#[100,114,111,112]⟩,.int .i64 k,s] 179) rfl
 clear h
 go_enter Tryz.func86,Tryz.ntmps86
 go_wp2_with fail
 obtain ⟨W1,hW1⟩:∃ W1,w.alloc (.cells #[.string ⟨#[100,114,111,112]⟩,.int .i64 k,s] 179)=W1:=⟨_,rfl⟩
 rw [hW1] at hx1 hlk hhp hb ⊢
 clear hW1
 have p0:=(cell_of hhp 0).trans rfl
 have p1:=(cell_of hhp 1).trans rfl
 have pl1:=lt_of hhp
 have b0:=(cell_of hb 0).trans rfl
 have b1:=(cell_of hb 1).trans rfl
 have b2:=(cell_of hb 2).trans rfl
 have bl:=lt_of hb
 have HX1:=Lib.hid hx1
 have HB:=Lib.hid hb
 have HP:=Lib.hid hhp
 clear hx1 hhp hb
 have hC0:=af_drew W1
 refine pi_start (fun w'=>∃ x:After W1,w'=x.w) [] (by kernel_rfl) ?_
 refine pi_t 0 rfl (by kernel_rfl) (by kernel_rfl) (fun _ _ _ _ h=>h) (fun K hK=>?_)
 go_big_quiet_op
 refine hK _ ?_
 clear hK K
 refine pi_t 1 rfl (by kernel_rfl) (by kernel_rfl) (fun _ _ _ _ h=>h) (fun K hK=>?_)
 go_big_quiet_op
 refine hK _ ?_
 clear hK K
 refine pi_t 2 rfl (by kernel_rfl) (by kernel_rfl) (fun _ _ _ _ h=>h) (fun K hK=>?_)
 go_big_quiet_op
 refine hK _ ?_
 clear hK K
 refine pi_t 4 rfl (by kernel_rfl) (by kernel_rfl) (fun _ _ _ _ h=>h) (fun K hK=>?_)
 go_big_quiet_op
 refine hK _ ?_
 clear hK K
 refine pi_c 3 (by assumption) rfl (by kernel_rfl) (by kernel_rfl) (fun _ _ _ _ h=>h) (fun K hK=>?_)
 go_big_quiet_op
 refine hK _ ?_
 clear hK K
 refine pi_c 5 (by assumption) rfl (by kernel_rfl) (by kernel_rfl) (fun _ _ _ _ h=>h) (fun K hK=>?_)
 go_big_quiet_op
 refine hK _ ?_
 clear hK K
 refine pi_c 6 (by assumption) rfl (by kernel_rfl) (by kernel_rfl) (fun _ _ _ _ h=>h) (fun K hK=>?_)
 go_big_quiet_op
 refine hK _ ?_
 clear hK K
 refine pi_t 7 rfl (by kernel_rfl) (by kernel_rfl) (fun _ _ _ _ h=>h) (fun K hK=>?_)
 go_big_quiet_op
 refine hK _ ?_
 clear hK K
 refine pi_t 8 rfl (by kernel_rfl) (by kernel_rfl) (fun _ _ _ _ h=>h) (fun K hK=>?_)
 go_big_quiet_op
 refine hK _ ?_
 clear hK K
 refine pi_t 9 rfl (by kernel_rfl) (by kernel_rfl) (fun _ _ _ _ h=>h) (fun K hK=>?_)
 go_big_quiet_op
 refine hK _ ?_
 clear hK K
 refine pi_l 10 rfl (by kernel_rfl) (fun K hK=>?_)
 go_wp2
 refine hK _ _ (fun _ h=>af_step h (Ext.alloc' _ _)) ?_
 clear hK K
 refine pi_l 11 rfl (by kernel_rfl) (fun K hK=>?_)
 go_wp2
 refine hK _ _ (fun _ _=>⟨⟨_,(Ext.alloc' W1 _).drewR⟩,rfl⟩) ?_
 clear hK K
 refine pi_t 12 rfl (by kernel_rfl) (by kernel_rfl) (fun _ _ _ _ h=>h) (fun K hK=>?_)
 go_big_quiet_op
 refine hK _ ?_
 clear hK K
 refine pi_end (by kernel_rfl) ?_
 have hx2:Ext W1 (W1.alloc (.cells #[.pointer x,.pointer y] 152)).drew:=(Ext.alloc' W1 _).drewR
 have hb2:(W1.alloc (.cells #[.pointer x,.pointer y] 152)).drew.heap[W1.heap.size]?=some (.cells #[.pointer x,.pointer y] 152 (0,0)):=heap_at W1 _ rfl
 obtain ⟨W2,hW2⟩:∃ W2,(W1.alloc (.cells #[.pointer x,.pointer y] 152)).drew=W2:=⟨_,rfl⟩
 rw [hW2] at hx2 hb2 ⊢
 clear hW2 hC0 hlk
 have HX2:=Lib.hid (HX1.out.trans' hx2)
 have t0:=(cell_of hb2 0).trans rfl
 have t1:=(cell_of hb2 1).trans rfl
 have tl:=lt_of hb2
 have hb':=hx2.keep HB.out
 have hp':=hx2.keep HP.out
 clear b0 b1 b2 bl p0 p1 pl1
 have b0:=(cell_of hb' 0).trans rfl
 have b1:=(cell_of hb' 1).trans rfl
 have b2:=(cell_of hb' 2).trans rfl
 have bl:=lt_of hb'
 have p0:=(cell_of hp' 0).trans rfl
 have p1:=(cell_of hp' 1).trans rfl
 have pl1:=lt_of hp'
 clear hb' hp' hb2 hx2
 obtain ⟨nn,hown,hnn⟩:=(HL.out.ext HX2.out).hm
 have HO:=Lib.hid hown
 clear hown
 go_wp2_with fail
 have hC0:=af_drew W2
 refine pi_start (fun w'=>∃ x:After W2,w'=x.w) [6] (by kernel_rfl) ?_
 refine pi_t 0 rfl (by kernel_rfl) (by kernel_rfl) (fun _ _ _ _ h=>h) (fun K hK=>?_)
 go_big_quiet_op
 refine hK _ ?_
 clear hK K
 refine pi_t 1 rfl (by kernel_rfl) (by kernel_rfl) (fun _ _ _ _ h=>h) (fun K hK=>?_)
 go_big_quiet_op
 refine hK _ ?_
 clear hK K
 refine pi_t 2 rfl (by kernel_rfl) (by kernel_rfl) (fun _ _ _ _ h=>h) (fun K hK=>?_)
 go_big_quiet_op
 refine hK _ ?_
 clear hK K
 refine pi_t 4 rfl (by kernel_rfl) (by kernel_rfl) (fun _ _ _ _ h=>h) (fun K hK=>?_)
 go_big_quiet_op
 refine hK _ ?_
 clear hK K
 refine pi_c 3 (by assumption) rfl (by kernel_rfl) (by kernel_rfl) (fun _ _ _ _ h=>h) (fun K hK=>?_)
 go_big_quiet_op
 refine hK _ ?_
 clear hK K
 refine pi_c 5 (by assumption) rfl (by kernel_rfl) (by kernel_rfl) (fun _ _ _ _ h=>h) (fun K hK=>?_)
 go_big_quiet_op
 refine hK _ ?_
 clear hK K
 refine pi_l 6 rfl (by kernel_rfl) (fun K hK=>?_)
 refine wpList_delete_own _ rfl _ _ 142 3 rfl 152 (Maps.int_keyed Tryz.underlying3) Tryz.underlying142 Rh m nn _ rfl HO.out.drew _ _ rfl (key_int _ _ Tryz.underlying3 _ hk) ?_
 intro w3 hown3 hturn
 have hM2:Mod (fun k=>k=m) W2 w3:=⟨(turn_mod hturn).os,(turn_mod hturn).tape,(turn_mod hturn).output,(turn_mod hturn).size,(turn_mod hturn).block⟩
 have HM2:=Lib.hid hM2
 have HO2:=Lib.hid hown3
 clear hown3 hturn hM2
 go_wp2
 refine hK _ _ (by simp) ?_
 clear hK K
 refine pi_end (by kernel_rfl) ?_
 go_wp2
 go_ret2
 have hA:=(HL.out.ext HX2.out).less HO2.out hnn HM2.out
 have hM:Mod (AgF p m l) w w3:=(HX2.out.mod _).trans (HM2.out.mono (fun k hk _=>by subst hk; exact .inr (.inl rfl)))
 exact ⟨⟨_,dropL l k,last,rfl,rfl,hA,stOf_drop l last k,fun i hi=>.inl (agF_drop hi)⟩,hM⟩
theorem DoPost.told {w w':World} {N p m:Nat} {l:List (Nat × Th)} {last:Nat} (h:AgAt w N p m l last) (hx:Ext w w') {v:Value} {r:Rep} (hv:RepAt w.heap.size w' v r):DoPost w N p m l last ((some r,0),stOf l last) (.returned (.tuple #[v,.int .i64 0])) w':=DoPost.same h hx (r:=some r) hv
set_option maxRecDepth 20000 in
set_option maxHeartbeats 4000000 in
theorem AQuery_total {w:World} {N p m:Nat} {l:List (Nat × Th)} {last:Nat} (h:AgAt w N p m l last) (k:Int) (s:Value) (hs1:s.oneCell'=true) (hk:I64 k) {z:Nat × Th} (hf:fnd l k=some z) :
 Calls Tryz.prog 86 #[.pointer (some ⟨p,0,none⟩),.agg #[.string ⟨#[116,111,116,97,108]⟩,.int .i64 k,s]] w (DoPost w N p m l last ((some (.number ((z.2.ls z.2.B).getD 0 0)),0),stOf l last)):=by
 obtain ⟨x,y,hv⟩:=z.2.v_two
 have HS:=fun w' (hw:Ext w w')=>Lib.hid (AStack_c z.2 w' ((h.th z (fnd_mem hf).1).ext hw))
 have hpl:=h.ltp
 have hx1:Ext w (w.alloc (.cells #[.string ⟨#[116,111,116,97,108]⟩,.int .i64 k,s] 179)):=Ext.alloc' _ _
 have hlk:=h.look_a hx1 hk hf
 rw [hv] at hlk
 have HL:=Lib.hid h
 have hhp:=hx1.keep h.hp
 have hb:=heap_at w (.cells #[.string ⟨#[116,111,116,97,108]⟩,.int .i64 k,s] 179) rfl
 clear h
 go_enter Tryz.func86,Tryz.ntmps86
 go_wp2_with fail
 obtain ⟨W1,hW1⟩:∃ W1,w.alloc (.cells #[.string ⟨#[116,111,116,97,108]⟩,.int .i64 k,s] 179)=W1:=⟨_,rfl⟩
 rw [hW1] at hx1 hlk hhp hb ⊢
 clear hW1
 have p0:=(cell_of hhp 0).trans rfl
 have p1:=(cell_of hhp 1).trans rfl
 have pl1:=lt_of hhp
 have b0:=(cell_of hb 0).trans rfl
 have b1:=(cell_of hb 1).trans rfl
 have b2:=(cell_of hb 2).trans rfl
 have bl:=lt_of hb
 have HX1:=Lib.hid hx1
 have HB:=Lib.hid hb
 have HP:=Lib.hid hhp
 clear hx1 hhp hb
 have hC0:=af_drew W1
 refine pi_start (fun w'=>∃ x:After W1,w'=x.w) [] (by kernel_rfl) ?_
 refine pi_t 0 rfl (by kernel_rfl) (by kernel_rfl) (fun _ _ _ _ h=>h) (fun K hK=>?_)
 go_big_quiet_op
 refine hK _ ?_
 clear hK K
 refine pi_t 1 rfl (by kernel_rfl) (by kernel_rfl) (fun _ _ _ _ h=>h) (fun K hK=>?_)
 go_big_quiet_op
 refine hK _ ?_
 clear hK K
 refine pi_t 2 rfl (by kernel_rfl) (by kernel_rfl) (fun _ _ _ _ h=>h) (fun K hK=>?_)
 go_big_quiet_op
 refine hK _ ?_
 clear hK K
 refine pi_t 4 rfl (by kernel_rfl) (by kernel_rfl) (fun _ _ _ _ h=>h) (fun K hK=>?_)
 go_big_quiet_op
 refine hK _ ?_
 clear hK K
 refine pi_c 3 (by assumption) rfl (by kernel_rfl) (by kernel_rfl) (fun _ _ _ _ h=>h) (fun K hK=>?_)
 go_big_quiet_op
 refine hK _ ?_
 clear hK K
 refine pi_c 5 (by assumption) rfl (by kernel_rfl) (by kernel_rfl) (fun _ _ _ _ h=>h) (fun K hK=>?_)
 go_big_quiet_op
 refine hK _ ?_
 clear hK K
 refine pi_c 6 (by assumption) rfl (by kernel_rfl) (by kernel_rfl) (fun _ _ _ _ h=>h) (fun K hK=>?_)
 go_big_quiet_op
 refine hK _ ?_
 clear hK K
 refine pi_t 7 rfl (by kernel_rfl) (by kernel_rfl) (fun _ _ _ _ h=>h) (fun K hK=>?_)
 go_big_quiet_op
 refine hK _ ?_
 clear hK K
 refine pi_t 8 rfl (by kernel_rfl) (by kernel_rfl) (fun _ _ _ _ h=>h) (fun K hK=>?_)
 go_big_quiet_op
 refine hK _ ?_
 clear hK K
 refine pi_t 9 rfl (by kernel_rfl) (by kernel_rfl) (fun _ _ _ _ h=>h) (fun K hK=>?_)
 go_big_quiet_op
 refine hK _ ?_
 clear hK K
 refine pi_l 10 rfl (by kernel_rfl) (fun K hK=>?_)
 go_wp2
 refine hK _ _ (fun _ h=>af_step h (Ext.alloc' _ _)) ?_
 clear hK K
 refine pi_l 11 rfl (by kernel_rfl) (fun K hK=>?_)
 go_wp2
 refine hK _ _ (fun _ _=>⟨⟨_,(Ext.alloc' W1 _).drewR⟩,rfl⟩) ?_
 clear hK K
 refine pi_t 12 rfl (by kernel_rfl) (by kernel_rfl) (fun _ _ _ _ h=>h) (fun K hK=>?_)
 go_big_quiet_op
 refine hK _ ?_
 clear hK K
 refine pi_end (by kernel_rfl) ?_
 have hx2:Ext W1 (W1.alloc (.cells #[.pointer x,.pointer y] 152)).drew:=(Ext.alloc' W1 _).drewR
 have hb2:(W1.alloc (.cells #[.pointer x,.pointer y] 152)).drew.heap[W1.heap.size]?=some (.cells #[.pointer x,.pointer y] 152 (0,0)):=heap_at W1 _ rfl
 obtain ⟨W2,hW2⟩:∃ W2,(W1.alloc (.cells #[.pointer x,.pointer y] 152)).drew=W2:=⟨_,rfl⟩
 rw [hW2] at hx2 hb2 ⊢
 clear hW2 hC0 hlk
 have HX2:=Lib.hid (HX1.out.trans' hx2)
 have t0:=(cell_of hb2 0).trans rfl
 have t1:=(cell_of hb2 1).trans rfl
 have tl:=lt_of hb2
 have hb':=hx2.keep HB.out
 have hp':=hx2.keep HP.out
 clear b0 b1 b2 bl p0 p1 pl1
 have b0:=(cell_of hb' 0).trans rfl
 have b1:=(cell_of hb' 1).trans rfl
 have b2:=(cell_of hb' 2).trans rfl
 have bl:=lt_of hb'
 have p0:=(cell_of hp' 0).trans rfl
 have p1:=(cell_of hp' 1).trans rfl
 have pl1:=lt_of hp'
 clear hb' hp' hb2 hx2
 rw [hv] at HS
 go_wp2_with fail
 refine Calls.mono (HS _ HX2.out).out ?_
 rintro e w3 ⟨s3,g3,L3,rfl,hK3,hx3⟩
 have hx23:=HX2.out.trans' hx3
 have HX3:=Lib.hid hx23
 have HK3:=Lib.hid hK3
 have c0:=(hx3.cell (p:=⟨w.heap.size,0,none⟩) bl).trans b0
 have bl3:=Nat.lt_of_lt_of_le bl hx3.size
 clear b0 b1 b2 bl p0 p1 pl1 t0 t1 tl hx3 hK3 hx23
 go_wp2_with fail
 refine Calls.mono (KTotal_c _ _ _ _ _ _ _ HK3.out) ?_
 rintro e w4 ⟨rfl,hx4⟩
 have HX4:=Lib.hid (HX3.out.trans' hx4)
 clear c0 bl3 hx4
 go_wp2
 go_ret2
 exact DoPost.told HL.out HX4.out rfl
end Go.Proofs.YtmalncfcgcebhaaGreatDoor
namespace Go.Proofs.YtmalncfcgcebhaaGreatDoor
set_option linter.unusedVariables false
open Go.Proofs Go.RowKit
theorem RepOAt.mono {b b':Nat} {w:World} {v:Value} {r:Option Rep} (h:RepOAt b w v r) (hb:b'≤b):RepOAt b' w v r:=by
 cases r with
 | none=>exact h
 | some r =>
   cases r with
   | list D=>obtain ⟨s,h1,h2⟩:=h; exact ⟨s,h1,own_bmono h2 hb⟩
   | bytes bs=>obtain ⟨s,h1,h2⟩:=h; exact ⟨s,h1,own_bmono h2 hb⟩
   | done=>exact h
   | handle=>exact h
   | number=>exact h
   | key=>exact h
   | wide=>exact h
theorem DoPost.back {w w1 w':World} {N p m:Nat} {l:List (Nat × Th)} {last:Nat} {R:(Option Rep × Int) × St} {e:Ending} (h:DoPost w1 N p m l last R e w') (hx:Ext w w1):DoPost w N p m l last R e w':=by
 obtain ⟨⟨v,l',last',h1,h2,h3,h4,h5⟩,h6⟩:=h
 refine ⟨⟨v,l',last',h1,h2.mono hx.size,h3,h4,fun k hk=>?_⟩,(hx.mod _).trans h6⟩
 rcases h5 k hk with h7 | h7
 · exact .inl h7
 · exact .inr (Nat.le_trans hx.size h7)
set_option maxRecDepth 20000 in
set_option maxHeartbeats 4000000 in
theorem DoQuery_c {w:World} {N p m:Nat} {l:List (Nat × Th)} {last:Nat} {R:(Option Rep × Int) × St} (hpl:p < w.heap.size) (what:ByteArray) (k:Int) (q:Option Addr) (n c:Nat)
 (H:∀ w1,Ext w w1→Calls Tryz.prog 86 #[.pointer (some ⟨p,0,none⟩),.agg #[.string what,.int .i64 k,.slice q n c]] w1 (DoPost w1 N p m l last R)) :
 Calls Tryz.prog 43 #[.pointer (some ⟨p,0,none⟩),.iface 179 (.agg #[.string what,.int .i64 k,.slice q n c])] w (DoPost w N p m l last R):=by
 have HH:=Lib.hid H
 clear H
 go_enter Tryz.func43,Tryz.ntmps43
 go_wp2_with fail
 refine Calls.mono (HH.out _ (Ext.alloc' _ _)) ?_
 intro e w2 h5
 have h6:=h5.back (Ext.alloc' w _)
 obtain ⟨⟨v,l',last',rfl,_⟩,_⟩:=h5
 have H6:=Lib.hid h6
 clear h6
 go_wp2
 go_ret2
 exact H6.out
end Go.Proofs.YtmalncfcgcebhaaGreatDoor
namespace Go.Proofs.YtmalncfcgcebhaaGreatDoor
set_option linter.unusedVariables false
open Go.Proofs Go.RowKit
set_option maxRecDepth 20000 in
set_option maxHeartbeats 4000000 in
theorem AAdd_no {w:World} {N p m:Nat} {l:List (Nat × Th)} {last:Nat} (h:AgAt w N p m l last) (k:Int) (nm:Bool) (name:ByteArray) (key d:Int) (hk:I64 k) (hf:fnd l k=none) :
 Calls Tryz.prog 84 #[.pointer (some ⟨p,0,none⟩),.agg #[.int .i64 k,.bool nm,.string name,.int .u64 key,.int .i64 d]] w fun e w'=>e=.returned (.tuple #[.nilIface,.int .i64 10])∧Ext w w':=by
 have hpl:=h.ltp
 have hx1:Ext w (w.alloc (.cells #[.int .i64 k,.bool nm,.string name,.int .u64 key,.int .i64 d] 174)):=Ext.alloc' _ _
 have hlk:=h.lookno_a hx1 hk hf
 unfold zT at hlk
 have HL:=Lib.hid h
 have hhp:=hx1.keep h.hp
 have hb:=heap_at w (.cells #[.int .i64 k,.bool nm,.string name,.int .u64 key,.int .i64 d] 174) rfl
 clear h
 go_enter Tryz.func84,Tryz.ntmps84
 go_wp2_with fail
 obtain ⟨W1,hW1⟩:∃ W1,w.alloc (.cells #[.int .i64 k,.bool nm,.string name,.int .u64 key,.int .i64 d] 174)=W1:=⟨_,rfl⟩
 rw [hW1] at hx1 hlk hhp hb ⊢
 clear hW1
 have p0:=(cell_of hhp 0).trans rfl
 have p1:=(cell_of hhp 1).trans rfl
 have pl1:=lt_of hhp
 have b0:=(cell_of hb 0).trans rfl
 have b1:=(cell_of hb 1).trans rfl
 have b2:=(cell_of hb 2).trans rfl
 have b3:=(cell_of hb 3).trans rfl
 have b4:=(cell_of hb 4).trans rfl
 have bl:=lt_of hb
 have HX1:=Lib.hid hx1
 have HB:=Lib.hid hb
 have HP:=Lib.hid hhp
 clear hx1 hhp hb
 have hC0:=af_drew W1
 refine pi_start (fun w'=>∃ x:After W1,w'=x.w) [] (by kernel_rfl) ?_
 refine pi_t 0 rfl (by kernel_rfl) (by kernel_rfl) (fun _ _ _ _ h=>h) (fun K hK=>?_)
 go_big_quiet_op
 refine hK _ ?_
 clear hK K
 refine pi_t 1 rfl (by kernel_rfl) (by kernel_rfl) (fun _ _ _ _ h=>h) (fun K hK=>?_)
 go_big_quiet_op
 refine hK _ ?_
 clear hK K
 refine pi_t 2 rfl (by kernel_rfl) (by kernel_rfl) (fun _ _ _ _ h=>h) (fun K hK=>?_)
 go_big_quiet_op
 refine hK _ ?_
 clear hK K
 refine pi_t 4 rfl (by kernel_rfl) (by kernel_rfl) (fun _ _ _ _ h=>h) (fun K hK=>?_)
 go_big_quiet_op
 refine hK _ ?_
 clear hK K
 refine pi_c 3 (by assumption) rfl (by kernel_rfl) (by kernel_rfl) (fun _ _ _ _ h=>h) (fun K hK=>?_)
 go_big_quiet_op
 refine hK _ ?_
 clear hK K
 refine pi_c 5 (by assumption) rfl (by kernel_rfl) (by kernel_rfl) (fun _ _ _ _ h=>h) (fun K hK=>?_)
 go_big_quiet_op
 refine hK _ ?_
 clear hK K
 refine pi_c 6 (by assumption) rfl (by kernel_rfl) (by kernel_rfl) (fun _ _ _ _ h=>h) (fun K hK=>?_)
 go_big_quiet_op
 refine hK _ ?_
 clear hK K
 refine pi_t 7 rfl (by kernel_rfl) (by kernel_rfl) (fun _ _ _ _ h=>h) (fun K hK=>?_)
 go_big_quiet_op
 refine hK _ ?_
 clear hK K
 refine pi_t 8 rfl (by kernel_rfl) (by kernel_rfl) (fun _ _ _ _ h=>h) (fun K hK=>?_)
 go_big_quiet_op
 refine hK _ ?_
 clear hK K
 refine pi_t 9 rfl (by kernel_rfl) (by kernel_rfl) (fun _ _ _ _ h=>h) (fun K hK=>?_)
 go_big_quiet_op
 refine hK _ ?_
 clear hK K
 refine pi_l 10 rfl (by kernel_rfl) (fun K hK=>?_)
 go_wp2
 refine hK _ _ (fun _ h=>af_step h (Ext.alloc' _ _)) ?_
 clear hK K
 refine pi_l 11 rfl (by kernel_rfl) (fun K hK=>?_)
 go_wp2
 refine hK _ _ (fun _ _=>⟨⟨_,(Ext.alloc' W1 _).drewR⟩,rfl⟩) ?_
 clear hK K
 refine pi_t 12 rfl (by kernel_rfl) (by kernel_rfl) (fun _ _ _ _ h=>h) (fun K hK=>?_)
 go_big_quiet_op
 refine hK _ ?_
 clear hK K
 refine pi_end (by kernel_rfl) ?_
 go_wp2
 go_ret2
 exact ⟨rfl,HX1.out.trans' ((Ext.alloc' W1 _).drewR)⟩
def addK (C:Cfg) (nm:Bool) (key:Int):Int:=bif nm then key % keys C 0 else key
def addT (T:AT) (key d:Int):Int × AT :=
 match T with
 | .st C B ls=>(errK C B ls key d,.st C B (updK C ls key d))
 | .wi C B n sm bk=>(if errK C B sm key d=0 then errK C B (bk (n - 1)) key d else errK C B sm key d,.wi C B n (updK C sm key d) (fun i=>if i=n - 1 then updK C (bk (n - 1)) key d else bk i))
def addF (S:St) (h:Int) (nm:Bool) (key d:Int):(Option Rep × Int) × St :=
 match S.l.find? (fun x=>decide ((x.1:Int)=h)) with
 | none=>((none,10),S)
 | some (i,T)=>(doneF (addT T (addK T.C nm key) d).1,if (addT T (addK T.C nm key) d).1=0 then ⟨setL S.l i (addT T (addK T.C nm key) d).2,S.last⟩ else S)
theorem addF_none {l:List (Nat × Th)} {last:Nat} {h:Int} (hf:fnd l h=none) (nm:Bool) (key d:Int):addF (stOf l last) h nm key d=((none,10),stOf l last):=by
 unfold addF
 rw [show (stOf l last).l.find? (fun x=>decide ((x.1:Int)=h))=(fnd l h).map fun x=>(x.1,x.2.ab) from fnd_ab l h,hf]
 rfl
theorem addF_some {l:List (Nat × Th)} {last:Nat} {h:Int} {z:Nat × Th} (hf:fnd l h=some z) (nm:Bool) (key d:Int):addF (stOf l last) h nm key d=(doneF (addT z.2.ab (addK z.2.C nm key) d).1,if (addT z.2.ab (addK z.2.C nm key) d).1=0 then ⟨setL (stOf l last).l z.1 (addT z.2.ab (addK z.2.C nm key) d).2,last⟩ else stOf l last):=by
 unfold addF
 rw [show (stOf l last).l.find? (fun x=>decide ((x.1:Int)=h))=(fnd l h).map fun x=>(x.1,x.2.ab) from fnd_ab l h,hf]
 simp only [Option.map_some,Th.ab_C]
 rfl
theorem keys0 {C:Cfg} (h:C.Ok):keys C 0=2 ^ C.bits.toNat:=by unfold keys; rw [Int.sub_zero]
theorem DoPost.upd {w w1 w':World} {N p m:Nat} {l:List (Nat × Th)} {last:Nat} (h:AgAt w N p m l last) (hx:Ext w w1) {k:Int} {z:Nat × Th} (hf:fnd l k=some z) {T:Th} (hv:T.v=z.2.v) (hT:T.At w') (hM:Mod z.2.cs w1 w') (hc:∀ i,T.cs i→z.2.cs i∨w1.heap.size≤i) {v:Value} {r:Option Rep} {c:Int} (hr:RepOAt w.heap.size w' v r) :
 DoPost w N p m l last ((r,c),⟨setL (stOf l last).l z.1 T.ab,last⟩) (.returned (.tuple #[v,.int .i64 c])) w':=by
 obtain ⟨a,b,hl⟩:=fnd_split hf
 obtain ⟨i,T0⟩:=z
 subst hl
 have h1:=h.ext hx
 have hA:=h1.chg (T:=T) hv hT hM hc
 have hmod:Mod (AgF p m (a++(i,T0) :: b)) w w':=(hx.mod _).trans (hM.mono fun j hj _=>.inr (.inr ⟨(i,T0),by simp,hj⟩))
 refine ⟨⟨v,a++(i,T) :: b,last,rfl,hr,hA, ?_,fun j hj=>?_⟩,hmod⟩
 · unfold stOf
   congr 1
   show _=setL ((a++(i,T0) :: b).map fun x=>(x.1,x.2.ab)) i T.ab
   rw [← setL_ab,setL_at h.up]
 · rcases hj with hj | hj | ⟨x,hx2,hj⟩
   · exact .inl (.inl hj)
   · exact .inl (.inr (.inl hj))
   · rcases List.mem_append.1 hx2 with hx2 | hx2
     · exact .inl (.inr (.inr ⟨x,by simp [hx2],hj⟩))
     · rcases List.mem_cons.1 hx2 with rfl | hx2
       · rcases hc j hj with h2 | h2
         · exact .inl (.inr (.inr ⟨(i,T0),by simp,h2⟩))
         · exact .inr (Nat.le_trans hx.size h2)
       · exact .inl (.inr (.inr ⟨x,by simp [hx2],hj⟩))
theorem addEnd {w w2 w3 w4:World} {N p m:Nat} {l:List (Nat × Th)} {last:Nat} (h:AgAt w N p m l last) (hx:Ext w w2) {k:Int} {i:Nat} {bk:Bk} {C:Cfg} {B:Nat} (hf:fnd l k=some (i,.st bk C B)) {nm:Bool} {key d er:Int} {R:(Option Rep × Int) × St}
 (hR:R=(doneF (addT (Th.st bk C B).ab (addK C nm key) d).1,if (addT (Th.st bk C B).ab (addK C nm key) d).1=0 then ⟨setL (stOf l last).l i (addT (Th.st bk C B).ab (addK C nm key) d).2,last⟩ else stOf l last))
 (he:errK C B bk.ls (addK C nm key) d=er) (hK:KAt w3 bk.s bk.g C B bk.L (bif decide (er=0) then updK C bk.ls (addK C nm key) d else bk.ls)) (hM:Mod (cellsOf B bk.L) w2 w3) (hx4:Ext w3 w4) {v:Value} (hv:RepOAt w.heap.size w4 v (doneF er).1) :
 DoPost w N p m l last R (.returned (.tuple #[v,.int .i64 (doneF er).2])) w4:=by
 subst hR
 have e1:(addT (Th.st bk C B).ab (addK C nm key) d).1=er:=he
 rw [e1]
 by_cases h0:er=0
 · subst h0
   rw [if_pos rfl]
   exact DoPost.upd (T:=.st ⟨bk.s,bk.g,bk.L,updK C bk.ls (addK C nm key) d⟩ C B) h hx hf rfl (KAt.ext hK hx4) (hM.extR hx4) (fun j hj=>.inl hj) hv
 · rw [if_neg h0]
   rw [decide_eq_false h0] at hK
   obtain ⟨a,b,hl⟩:=fnd_split hf
   subst hl
   have hA:=(h.ext hx).chg (T:=.st bk C B) rfl (KAt.ext hK hx4) (hM.extR hx4) (fun j hj=>.inl hj)
   exact ⟨⟨v,_,last,rfl,hv,hA,rfl,fun j hj=>.inl hj⟩,(hx.mod _).trans ((hM.extR hx4).mono fun j hj _=>.inr (.inr ⟨(i,.st bk C B),by simp,hj⟩))⟩
set_option maxRecDepth 20000 in
set_option maxHeartbeats 4000000 in
theorem AAdd_st {w:World} {N p m:Nat} {l:List (Nat × Th)} {last:Nat} (h:AgAt w N p m l last) (k:Int) (nm:Bool) (name:ByteArray) (key d:Int) (hk:I64 k) (hkey:U64 key) (hd:I64 d) {i:Nat} {bk:Bk} {C:Cfg} {B:Nat} (hf:fnd l k=some (i,.st bk C B)) :
 Calls Tryz.prog 84 #[.pointer (some ⟨p,0,none⟩),.agg #[.int .i64 k,.bool nm,.string name,.int .u64 key,.int .i64 d]] w (DoPost w N p m l last (addF (stOf l last) k nm key d)):=by
 have hth:bk.At w C B:=h.th _ (fnd_mem hf).1
 have hok:C.Ok:=KAt.ok hth
 have hadd:=Lib.hid (addF_some (last:=last) hf nm key d)
 have HTH:=Lib.hid hth
 clear hth
 have hpl:=h.ltp
 have hx1:Ext w (w.alloc (.cells #[.int .i64 k,.bool nm,.string name,.int .u64 key,.int .i64 d] 174)):=Ext.alloc' _ _
 have hlk:=h.look_a hx1 hk hf
 unfold Th.v at hlk
 have HL:=Lib.hid h
 have hhp:=hx1.keep h.hp
 have hb:=heap_at w (.cells #[.int .i64 k,.bool nm,.string name,.int .u64 key,.int .i64 d] 174) rfl
 clear h
 go_enter Tryz.func84,Tryz.ntmps84
 go_wp2_with fail
 obtain ⟨W1,hW1⟩:∃ W1,w.alloc (.cells #[.int .i64 k,.bool nm,.string name,.int .u64 key,.int .i64 d] 174)=W1:=⟨_,rfl⟩
 rw [hW1] at hx1 hlk hhp hb ⊢
 clear hW1
 have p0:=(cell_of hhp 0).trans rfl
 have p1:=(cell_of hhp 1).trans rfl
 have pl1:=lt_of hhp
 have b0:=(cell_of hb 0).trans rfl
 have b1:=(cell_of hb 1).trans rfl
 have b2:=(cell_of hb 2).trans rfl
 have b3:=(cell_of hb 3).trans rfl
 have b4:=(cell_of hb 4).trans rfl
 have bl:=lt_of hb
 have HX1:=Lib.hid hx1
 have HB:=Lib.hid hb
 have HP:=Lib.hid hhp
 clear hx1 hhp hb
 have hC0:=af_drew W1
 refine pi_start (fun w'=>∃ x:After W1,w'=x.w) [] (by kernel_rfl) ?_
 refine pi_t 0 rfl (by kernel_rfl) (by kernel_rfl) (fun _ _ _ _ h=>h) (fun K hK=>?_)
 go_big_quiet_op
 refine hK _ ?_
 clear hK K
 refine pi_t 1 rfl (by kernel_rfl) (by kernel_rfl) (fun _ _ _ _ h=>h) (fun K hK=>?_)
 go_big_quiet_op
 refine hK _ ?_
 clear hK K
 refine pi_t 2 rfl (by kernel_rfl) (by kernel_rfl) (fun _ _ _ _ h=>h) (fun K hK=>?_)
 go_big_quiet_op
 refine hK _ ?_
 clear hK K
 refine pi_t 4 rfl (by kernel_rfl) (by kernel_rfl) (fun _ _ _ _ h=>h) (fun K hK=>?_)
 go_big_quiet_op
 refine hK _ ?_
 clear hK K
 refine pi_c 3 (by assumption) rfl (by kernel_rfl) (by kernel_rfl) (fun _ _ _ _ h=>h) (fun K hK=>?_)
 go_big_quiet_op
 refine hK _ ?_
 clear hK K
 refine pi_c 5 (by assumption) rfl (by kernel_rfl) (by kernel_rfl) (fun _ _ _ _ h=>h) (fun K hK=>?_)
 go_big_quiet_op
 refine hK _ ?_
 clear hK K
 refine pi_c 6 (by assumption) rfl (by kernel_rfl) (by kernel_rfl) (fun _ _ _ _ h=>h) (fun K hK=>?_)
 go_big_quiet_op
 refine hK _ ?_
 clear hK K
 refine pi_t 7 rfl (by kernel_rfl) (by kernel_rfl) (fun _ _ _ _ h=>h) (fun K hK=>?_)
 go_big_quiet_op
 refine hK _ ?_
 clear hK K
 refine pi_t 8 rfl (by kernel_rfl) (by kernel_rfl) (fun _ _ _ _ h=>h) (fun K hK=>?_)
 go_big_quiet_op
 refine hK _ ?_
 clear hK K
 refine pi_t 9 rfl (by kernel_rfl) (by kernel_rfl) (fun _ _ _ _ h=>h) (fun K hK=>?_)
 go_big_quiet_op
 refine hK _ ?_
 clear hK K
 refine pi_l 10 rfl (by kernel_rfl) (fun K hK=>?_)
 go_wp2
 refine hK _ _ (fun _ h=>af_step h (Ext.alloc' _ _)) ?_
 clear hK K
 refine pi_l 11 rfl (by kernel_rfl) (fun K hK=>?_)
 go_wp2
 refine hK _ _ (fun _ _=>⟨⟨_,(Ext.alloc' W1 _).drewR⟩,rfl⟩) ?_
 clear hK K
 refine pi_t 12 rfl (by kernel_rfl) (by kernel_rfl) (fun _ _ _ _ h=>h) (fun K hK=>?_)
 go_big_quiet_op
 refine hK _ ?_
 clear hK K
 refine pi_end (by kernel_rfl) ?_
 have hx2:Ext W1 (W1.alloc (.cells #[.pointer (some ⟨bk.s,0,none⟩),.pointer none] 152)).drew:=(Ext.alloc' W1 _).drewR
 have hb2:(W1.alloc (.cells #[.pointer (some ⟨bk.s,0,none⟩),.pointer none] 152)).drew.heap[W1.heap.size]?=some (.cells #[.pointer (some ⟨bk.s,0,none⟩),.pointer none] 152 (0,0)):=heap_at W1 _ rfl
 obtain ⟨W2,hW2⟩:∃ W2,(W1.alloc (.cells #[.pointer (some ⟨bk.s,0,none⟩),.pointer none] 152)).drew=W2:=⟨_,rfl⟩
 rw [hW2] at hx2 hb2 ⊢
 clear hW2 hC0 hlk
 have HX2:=Lib.hid (HX1.out.trans' hx2)
 have t0:=(cell_of hb2 0).trans rfl
 have t1:=(cell_of hb2 1).trans rfl
 have tl:=lt_of hb2
 have hb':=hx2.keep HB.out
 have hp':=hx2.keep HP.out
 clear b0 b1 b2 b3 b4 bl p0 p1 pl1
 have b0:=(cell_of hb' 0).trans rfl
 have b1:=(cell_of hb' 1).trans rfl
 have b2:=(cell_of hb' 2).trans rfl
 have b3:=(cell_of hb' 3).trans rfl
 have b4:=(cell_of hb' 4).trans rfl
 have bl:=lt_of hb'
 have p0:=(cell_of hp' 0).trans rfl
 have p1:=(cell_of hp' 1).trans rfl
 have pl1:=lt_of hp'
 clear hb' hp' hb2 hx2
 cases nm with
 | false =>
   have HKU:=Lib.hid hkey
   have HXX:=HX2
   have hNM:addK C false key=key:=rfl
   go_wp2_with fail
   refine Calls.mono (KUpdate_c _ _ _ _ _ _ key d _ (KAt.ext HTH.out HXX.out) hd HKU.out) ?_
   rintro e w3 ⟨rfl,hK3,hM3⟩
   have HK3:=Lib.hid hK3
   have HM3:=Lib.hid hM3
   clear hK3 hM3
   generalize her:errK C B bk.ls key d=er at *
   have HER:=Lib.hid her
   clear her
   go_wp2_with fail
   refine Calls.mono (ADone_c er _) ?_
   rintro e w4 ⟨v,rfl,hv,hx4⟩
   have HX4:=Lib.hid hx4
   have HV:=Lib.hid hv
   clear hx4 hv
   go_wp2
   go_ret2
   exact addEnd HL.out HXX.out hf hadd.out (by rw [hNM]; exact HER.out) HK3.out HM3.out HX4.out (HV.out _ _)
 | true =>
   have hkk:=keys_bd C hok 0 (Int.le_refl 0)
   have hk0:=keys0 hok
   have hpw:=pow_bd C.bits.toNat (by have:=hok.b2; omega)
   have hb1:=hok.b1
   have hb2:=hok.b2
   have hfd:∀ w,(Instr.field 24 (.agg #[.int .i64 C.bits,.int .i64 C.rows,.int .i64 C.width,.int .i64 C.mode,.int .u64 C.seed]) 0).run Tryz.prog w=.ok (.int .i64 C.bits) w:=fun _=>by kernel_rfl
   go_wp2_with fail
   refine Calls.mono (SKConfig_c _ _ _ _ _ _ _ (KAt.ext HTH.out HX2.out)) ?_
   rintro e w5 ⟨rfl,hx5⟩
   have hkk2:key.tmod (2 ^ C.bits.toNat)=addK C true key:=by
    show _=key % keys C 0
    rw [hk0,Int.tmod_eq_emod_of_nonneg hkey.1]
   have hku:U64 (addK C true key):=by
    show U64 (key % keys C 0)
    unfold U64 at hkey ⊢
    have h1:=Int.emod_nonneg key (show keys C 0≠0 by omega)
    have h2:=Int.emod_lt_of_pos key (show 0 < keys C 0 by omega)
    omega
   have HKU:=Lib.hid hku
   have HXX:=Lib.hid (HX2.out.trans' hx5)
   generalize hNM:addK C true key=kk at *
   have s0:=(hx5.cell (p:=⟨W1.heap.size,0,none⟩) tl).trans t0
   have s1:=(hx5.cell (p:=⟨W1.heap.size,1,none⟩) tl).trans t1
   have s4:=(hx5.cell (p:=⟨w.heap.size,4,none⟩) bl).trans b4
   have tl5:=Nat.lt_of_lt_of_le tl hx5.size
   have bl5:=Nat.lt_of_lt_of_le bl hx5.size
   clear t0 t1 tl b0 b1 b2 b3 b4 bl p0 p1 pl1 hx5 hk0 hkk hku
   have HNM:=Lib.hid hNM
   clear hNM
   go_wp2_with fail
   refine Calls.mono (KUpdate_c _ _ _ _ _ _ kk d _ (KAt.ext HTH.out HXX.out) hd HKU.out) ?_
   rintro e w3 ⟨rfl,hK3,hM3⟩
   have HK3:=Lib.hid hK3
   have HM3:=Lib.hid hM3
   clear hK3 hM3
   generalize her:errK C B bk.ls kk d=er at *
   have HER:=Lib.hid her
   clear her
   go_wp2_with fail
   refine Calls.mono (ADone_c er _) ?_
   rintro e w4 ⟨v,rfl,hv,hx4⟩
   have HX4:=Lib.hid hx4
   have HV:=Lib.hid hv
   clear hx4 hv
   go_wp2
   go_ret2
   exact addEnd HL.out HXX.out hf hadd.out (by rw [HNM.out]; exact HER.out) (by rw [HNM.out]; exact HK3.out) HM3.out HX4.out (HV.out _ _)
end Go.Proofs.YtmalncfcgcebhaaGreatDoor
namespace Go.Proofs.YtmalncfcgcebhaaGreatDoor
set_option linter.unusedVariables false
open Go.Proofs Go.RowKit
structure LinePost (w:World) (N p m:Nat) (l:List (Nat × Th)) (last:Nat) (R:Option (List UInt8) × St) (e:Ending) (w':World):Prop where
 ex:∃ l' last',e=.returned (.tuple #[strV (R.1.getD []),.bool R.1.isSome])∧AgAt w' N p m l' last'∧stOf l' last'=R.2∧∀ k,AgF p m l' k→AgF p m l k∨w.heap.size≤k
 md:Mod (AgF p m l) w w'
theorem AgAt.tabs {w w':World} {N p m:Nat} {l:List (Nat × Th)} {last:Nat} (h:AgAt w N p m l last) (hN:10≤N) (hT:Tabs w) (hM:Mod (AgF p m l) w w'):Tabs w':=hT.below hN (h.below hM)
theorem LinePost.same {w w':World} {N p m:Nat} {l:List (Nat × Th)} {last:Nat} (h:AgAt w N p m l last) (hx:Ext w w') (r:Option (List UInt8)):LinePost w N p m l last (r,stOf l last) (.returned (.tuple #[strV (r.getD []),.bool r.isSome])) w' :=
 ⟨⟨l,last,rfl,h.ext hx,rfl,fun k hk=>.inl hk⟩,hx.mod _⟩
theorem ALine_err {w:World} {N p m:Nat} {l:List (Nat × Th)} {last:Nat} (h:AgAt w N p m l last) (hT:Tabs w) (s:ByteArray) (hs:s.size≤100000000) {at_ c:Int} (hp:parseS s=(none,at_,c)) (hc:c≠0) (ha:I64 at_) (hc2:I64 c) :
 Calls Tryz.prog 15 #[.pointer (some ⟨p,0,none⟩),.string s] w (LinePost w N p m l last (some (errT c++[32,97,116,32]++Lib.itoa at_),stOf l last)):=by
 have HL:=Lib.hid h
 have HP:=Lib.hid (Parse_c s hs w hT)
 rw [hp] at HP
 have HT:=Lib.hid hT
 have hn:(c != 0)=true:=by simpa using hc
 have h1:=Lib.itoa_length_le c hc2.1 hc2.2
 have h2:=Lib.itoa_length_le at_ ha.1 ha.2
 have h3:(errT c).length≤27:=by unfold errT; simp; omega
 clear h hT hp hc
 go_enter Tryz.func15,Tryz.ntmps15
 go_wp2_with fail
 refine Calls.mono HP.out ?_
 rintro e w1 ⟨⟨v,rfl,hv⟩,hx1⟩
 have HX:=Lib.hid hx1
 clear hx1
 go_wp2_with fail
 refine Calls.mono (Error_c c hc2 _ (HT.out.ext HX.out)) ?_
 rintro e w2 ⟨rfl,hx2⟩
 have HX2:=Lib.hid (HX.out.trans' hx2)
 clear hx2
 unfold strV
 go_wp2_with fail
 refine Calls.mono (Itoa_c at_ ha _ (HT.out.ext HX2.out)) ?_
 rintro e w3 ⟨rfl,hx3⟩
 have HX3:=Lib.hid (HX2.out.trans' hx3)
 clear hx3
 unfold strV
 go_wp2
 go_ret2
 have e1:(⟨(errT c).toArray⟩++⟨#[32,97,116,32]⟩++⟨(Lib.itoa at_).toArray⟩:ByteArray)=⟨(errT c++[32,97,116,32]++Lib.itoa at_).toArray⟩:=by
  rw [show (⟨#[32,97,116,32]⟩:ByteArray)=⟨([32,97,116,32]:List UInt8).toArray⟩ from rfl,cat_str,cat_str]
 rw [e1]
 exact LinePost.same HL.out HX3.out (some _)
theorem ALine_none {w:World} {N p m:Nat} {l:List (Nat × Th)} {last:Nat} (h:AgAt w N p m l last) (hT:Tabs w) (s:ByteArray) (hs:s.size≤100000000) {at_:Int} (hp:parseS s=(none,at_,0)) :
 Calls Tryz.prog 15 #[.pointer (some ⟨p,0,none⟩),.string s] w (LinePost w N p m l last (none,stOf l last)):=by
 have HL:=Lib.hid h
 have HP:=Lib.hid (Parse_c s hs w hT)
 rw [hp] at HP
 clear h hT hp
 go_enter Tryz.func15,Tryz.ntmps15
 go_wp2_with fail
 refine Calls.mono HP.out ?_
 rintro e w1 ⟨⟨v,rfl,hv⟩,hx1⟩
 obtain rfl:v=.nilIface:=hv
 have HX:=Lib.hid hx1
 clear hx1
 go_wp2
 go_ret2
 exact LinePost.same HL.out HX.out none
theorem cmd_iface {base:Nat} {w:World} {v:Value} {c:Cmd} (h:CmdAt base w v c):∃ t u,v=.iface t u:=by
 cases c with
 | query=>obtain ⟨s,h,_⟩:=h; exact ⟨_,_,h⟩
 | imp=>obtain ⟨s,h,_⟩:=h; exact ⟨_,_,h⟩
 | create=>exact ⟨_,_,h⟩
 | window=>exact ⟨_,_,h⟩
 | add=>exact ⟨_,_,h⟩
 | tick=>exact ⟨_,_,h⟩
 | pair=>exact ⟨_,_,h⟩
def repT:Rep→List UInt8
 | .done=>[100,111,110,101]
 | .handle h=>[104,97,110,100,108,101,32]++Lib.itoa h
 | .number n=>[110,117,109,98,101,114,32]++Lib.itoa n
 | .key k=>[107,101,121,32]++Lib.decDigits k.toNat
 | .wide x=>[119,105,100,101,32]++Lib.itoa x
 | .list D=>[108,105,115,116]++D.flatMap fun f=>[32]++Lib.itoa f.1++[58]++Lib.decDigits f.2.1.toNat++[58]++Lib.itoa f.2.2
 | .bytes bs=>[98,121,116,101,115,32]++bs.flatMap fun b=>[hexDigs.getD (b / 16).toNat 0,hexDigs.getD (b % 16).toNat 0]
def ansT (r:Option Rep × Int):List UInt8:=if r.2=0 then (match r.1 with | some x=>repT x | none=>[]) else errT r.2
theorem ALine_cmd {w:World} {N p m:Nat} {l:List (Nat × Th)} {last:Nat} (h:AgAt w N p m l last) (hN:10≤N) (hT:Tabs w) (s:ByteArray) (hs:s.size≤100000000) {c:Cmd} {at_:Int} (hp:parseS s=(some c,at_,0)) {R:(Option Rep × Int) × St} (hR:R.1.2=0→∃ x,R.1.1=some x) (hR2:I64 R.1.2)
 (hdo:∀ w1 v,Ext w w1→CmdAt w.heap.size w1 v c→Calls Tryz.prog 43 #[.pointer (some ⟨p,0,none⟩),v] w1 (DoPost w1 N p m l last R))
 (htx:∀ x base w1 v,R.1.1=some x→RepAt base w1 v x→Tabs w1→Calls Tryz.prog 46 #[v] w1 fun e w'=>e=.returned (strV (repT x))∧Ext w1 w') :
 Calls Tryz.prog 15 #[.pointer (some ⟨p,0,none⟩),.string s] w (LinePost w N p m l last (some (ansT R.1),R.2)):=by
 have HL:=Lib.hid h
 have HP:=Lib.hid (Parse_c s hs w hT)
 rw [hp] at HP
 have HT:=Lib.hid hT
 have HD:=Lib.hid hdo
 have HX0:=Lib.hid htx
 clear h hT hp hdo htx
 obtain ⟨⟨ro,er⟩,S'⟩:=R
 dsimp only at hR hR2
 go_enter Tryz.func15,Tryz.ntmps15
 go_wp2_with fail
 refine Calls.mono HP.out ?_
 rintro e w1 ⟨⟨v,rfl,hv⟩,hx1⟩
 have HV:=Lib.hid hv
 obtain ⟨t,u,rfl⟩:=cmd_iface (show CmdAt w.heap.size w1 v c from hv)
 have HX:=Lib.hid hx1
 clear hx1 hv
 go_wp2_with fail
 refine Calls.mono (HD.out _ _ HX.out HV.out) ?_
 intro e w2 h5
 have h6:=h5.back HX.out
 obtain ⟨⟨v2,l',last',rfl,h7,h8,h9,h10⟩,h11⟩:=h5
 have H6:=Lib.hid h6
 have H7:=Lib.hid h7
 have H8:=Lib.hid h8
 have H9:=Lib.hid h9
 have HT2:=Lib.hid ((HL.out.ext HX.out).tabs hN (HT.out.ext HX.out) h11)
 clear h6 h7 h8 h9 h10 h11
 by_cases h0:er=0
 · obtain ⟨x,rfl⟩:=hR h0
   subst h0
   go_wp2_with fail
   refine Calls.mono (HX0.out x _ _ _ rfl H7.out HT2.out) ?_
   rintro e w3 ⟨rfl,hx3⟩
   obtain ⟨⟨_,l2,last2,_,_,g3,g4,g5⟩,g6⟩:=H6.out
   have G:=Lib.hid (show LinePost w N p m l last (some (ansT (some x,0)),S') (.returned (.tuple #[strV (repT x),.bool true])) w3 from ⟨⟨l2,last2,rfl,g3.ext hx3,g4,g5⟩,g6.extR hx3⟩)
   clear hx3 g3 g4 g5 g6
   go_wp2
   go_ret2
   exact G.out
 · have hn:(er != 0)=true:=by simpa using h0
   go_wp2_with fail
   refine Calls.mono (Error_c er hR2 _ HT2.out) ?_
   rintro e w3 ⟨rfl,hx3⟩
   obtain ⟨⟨_,l2,last2,_,_,g3,g4,g5⟩,g6⟩:=H6.out
   have G:=Lib.hid (show LinePost w N p m l last (some (ansT (ro,er)),S') (.returned (.tuple #[strV (errT er),.bool true])) w3 from ⟨⟨l2,last2,by unfold ansT; rw [if_neg h0]; rfl,g3.ext hx3,g4,g5⟩,g6.extR hx3⟩)
   clear hx3 g3 g4 g5 g6
   go_wp2
   go_ret2
   exact G.out
end Go.Proofs.YtmalncfcgcebhaaGreatDoor
namespace Go.Proofs.YtmalncfcgcebhaaGreatDoor
set_option linter.unusedVariables false
open Go.Proofs Go.RowKit
theorem decD_len (u:Nat) (hu:u < 18446744073709551616):(Lib.decDigits u).length≤20:=by rw [Lib.decDigits_length]; exact Lib.nDigits_le20 u hu
theorem AText_key (k:Int) (hk:U64 k) (w:World) (hT:Tabs w):Calls Tryz.prog 46 #[.iface 137 (.agg #[.int .u64 k])] w fun e w'=>e=.returned (strV ([107,101,121,32]++Lib.decDigits k.toNat))∧Ext w w':=by
 obtain ⟨h0,h1⟩:=hk
 obtain ⟨u,rfl⟩:∃ u:Nat,k=u:=⟨k.toNat,by omega⟩
 have hu:u < 18446744073709551616:=by omega
 have HI:=fun w' (hx:Ext w w')=>Lib.hid (FormatUint_c u hu w' (hT.ext hx))
 have hil:=decD_len u hu
 rw [Int.toNat_natCast]
 go_enter Tryz.func46,Tryz.ntmps46
 go_wp2_with fail
 refine Calls.mono (HI _ (by (repeat' (first | exact Ext.refl _ | assumption | apply Ext.allocR | apply Ext.drewR | apply Ext.drewNR | (refine Ext.trans' ?_ (by assumption)))))).out ?_
 rintro r w1 ⟨rfl,hx⟩
 have HX:=Lib.hid (show Ext w w1 from Ext.trans' (by (repeat' (first | exact Ext.refl _ | assumption | apply Ext.allocR | apply Ext.drewR | apply Ext.drewNR | (refine Ext.trans' ?_ (by assumption))))) hx)
 clear hx
 unfold strV
 go_wp2
 go_ret
 exact ⟨congrArg Ending.returned (congrArg Value.string (cat_str _ _)),HX.out⟩
def fdT (f:Fd):List UInt8:=[32]++Lib.itoa f.1++[58]++Lib.decDigits f.2.1.toNat++[58]++Lib.itoa f.2.2
def FdOk (f:Fd):Prop:=f.1≤64∧U64 f.2.1∧I64 f.2.2
theorem fdT_len {f:Fd} (h:FdOk f):(fdT f).length≤65:=by
 obtain ⟨h1,⟨h2,h3⟩,h4⟩:=h
 have a:=Lib.itoa_length_le (f.1:Int) (by omega) (by omega)
 have b:=Lib.itoa_length_le f.2.2 h4.1 h4.2
 have c:=decD_len f.2.1.toNat (by omega)
 unfold fdT
 simp only [List.length_append,List.length_cons,List.length_nil]
 omega
theorem fdTs_len:∀ {D:List Fd},(∀ f∈D,FdOk f)→(D.flatMap fdT).length≤65*D.length:=by
 intro D
 induction D with
 | nil=>intro _; simp
 | cons f D ih =>
   intro h
   rw [List.flatMap_cons,List.length_append,List.length_cons]
   have:=fdT_len (h f (by simp))
   have:=ih fun x hx=>h x (by simp [hx])
   omega
theorem own_n {w:World} {base g size:Nat} {e:TypeId} {n cap:Nat} {xs:List Value} (h:w.ownsRow base e size (.slice (some ⟨g,0,none⟩) n cap) n xs):g < w.heap.size∧∀ j v,xs[j]?=some v→w.cell? ⟨g,j,none⟩=some v:=by
 obtain ⟨h1,⟨h2,_⟩ | ⟨g',cap',cur,h2,h3,h4,h5,h6,h7,h8⟩⟩:=h
 · cases h2
 · cases h2
   refine ⟨lt_of h4,fun j v hv=>?_⟩
   rw [cell_of h4]
   have hj:j < n*size:=by
    rw [← h1]
    exact (List.getElem?_eq_some_iff.1 hv).1
   rw [← h8,List.getElem?_take,if_pos hj] at hv
   rw [← hv,Array.getElem?_toList]
theorem own_s {w:World} {base size:Nat} {e:TypeId} {v:Value} {n:Nat} {xs:List Value} (h:w.ownsRow base e size v n xs) (hn:n≠0):∃ g cap,v=.slice (some ⟨g,0,none⟩) n cap:=by
 obtain ⟨h1,⟨h2,h3⟩ | ⟨g',cap',cur,h2,h3⟩⟩:=h
 · exact absurd h3 hn
 · exact ⟨_,_,h2⟩
theorem BldAt.ext {B b:Nat} {l:List UInt8} {w w':World} (h:BldAt B b l w) (hx:Ext w w'):BldAt B b l w':=by
 have key:∀ {p:Value},Lib.BuilderAtF 188 5 B b p (Lib.byteCells l) w→Lib.BuilderAtF 188 5 B b p (Lib.byteCells l) w':=by
  rintro p ⟨h1,v,h2,⟨h3,h4⟩,h5⟩
  refine ⟨h1,v,hx.keep h2,⟨h3, ?_⟩,h5⟩
  rcases h4 with h4 | ⟨g,cap,cur,fz,h6,h7,h8,h9⟩
  · exact .inl h4
  · exact .inr ⟨g,cap,cur,fz,h6,h7,hx.keep h8,h9⟩
 rcases h with h | h
 · exact .inl (key h)
 · exact .inr (key h)
set_option maxRecDepth 20000 in
set_option maxHeartbeats 8000000 in
theorem AText_list (D:List Fd) (hl:D.length≤100000) (hD:∀ f∈D,FdOk f) (base:Nat) (s:Value) (w:World) (hT:Tabs w) (hr:w.ownsRow base 203 3 s D.length (fdV D)) :
 Calls Tryz.prog 46 #[.iface 141 (.agg #[s])] w fun e w'=>e=.returned (strV ([108,105,115,116]++D.flatMap fdT))∧Ext w w':=by
 have HT:=Lib.hid hT
 have HR:=Lib.hid hr
 have HD:=Lib.hid hD
 obtain ⟨sp,sc,rfl⟩:=own_sl hr
 clear hT hr hD
 go_enter Tryz.func46,Tryz.ntmps46
 go_wp2_with fail
 obtain ⟨W1,hW1⟩:∃ W1,(w.alloc (.cells #[.pointer none,.slice none 0 0] 188)).alloc (.cells #[.slice sp D.length sc] 141)=W1:=⟨_,rfl⟩
 have hB:BldAt w.heap.size w.heap.size [] W1:=by
  rw [← hW1]
  exact .inl ⟨Nat.le_refl _,.slice none 0 0,(heap_old _ _ (by simp)).trans (heap_at _ _ rfl),⟨rfl,.inl ⟨rfl,rfl⟩⟩,by simp [Value.ownBlock]⟩
 have hx1:Ext w W1:=by rw [← hW1]; exact (Ext.alloc' _ _).allocR _
 have hl1:W1.heap[w.heap.size+1]?=some (.cells #[.slice sp D.length sc] 141 (0,0)):=by rw [← hW1]; exact heap_at _ _ (by simp)
 have hs1:=hx1.size
 rw [hW1]
 refine Calls.mono (BWriteString_c _ _ _ _ _ hB (by decide) hs1) ?_
 rintro e w2 ⟨rfl,hB2,hb2,hk2⟩
 have hl2:=hk2 _ _ hl1 (by simp) (by rintro c fz ⟨⟩)
 have l0:=(cell_of hl2 0).trans rfl
 have ll:=lt_of hl2
 have HX2:=Lib.hid (show Ext w w2 from Below.trans hx1 hb2)
 have HB2:=Lib.hid hB2
 clear hB hx1 hl1 hs1 hW1 hB2 hb2 hk2 hl2
 go_wp2_with fail
 go_loopw [54] (fun u54 wr=>∃ k:Nat,k≤D.length∧u54=.int .i64 (k:Nat)∧BldAt w.heap.size w.heap.size ([108,105,115,116]++(D.take k).flatMap fdT) wr∧Ext w wr) (fun u54 _=>D.length - (intOf u54).toNat)
 case atStart=>exact ⟨0,Nat.zero_le _,rfl,HB2.out,HX2.out⟩
 case round =>
  obtain ⟨k,hk,rfl,hB,hE⟩:=hrel
  by_cases hlt:k < D.length
  · obtain ⟨f,hf⟩:∃ f,f=D.getD k (0,0,0):=⟨_,rfl⟩
    have hfm:D[k]?=some f:=by rw [hf,List.getD_eq_getElem?_getD,List.getElem?_eq_getElem hlt]; rfl
    have hok:=HD.out f (List.mem_of_getElem? hfm)
    obtain ⟨g,cap,he⟩:=own_s HR.out (by omega)
    cases he
    obtain ⟨hgl,hgc⟩:=own_n HR.out
    obtain ⟨v0,v1,v2⟩:=fdV_at hlt
    rw [← hf] at v0 v1 v2
    have c0:=(hE.cell hgl).trans (hgc _ _ v0)
    have c1:=(hE.cell hgl).trans (hgc _ _ v1)
    have c2:=(hE.cell hgl).trans (hgc _ _ v2)
    have hgl2:g < wr.heap.size:=Nat.lt_of_lt_of_le hgl hE.size
    clear hgc v0 v1 v2
    have hlen:=fdT_len hok
    have htk:D.take (k+1)=D.take k++[f]:=by
     obtain ⟨h1,h2⟩:=List.getElem?_eq_some_iff.1 hfm
     rw [← h2]
     exact List.take_succ_eq_append_getElem h1
    have hpre:=fdTs_len (D:=D.take k) fun x hx=>HD.out x (List.mem_of_mem_take hx)
    rw [List.length_take] at hpre
    have HTK:=Lib.hid htk
    have HB:=Lib.hid hB
    obtain ⟨h64,⟨u0,u1⟩,hi64⟩:=hok
    obtain ⟨a,ux,n⟩:=f
    dsimp only at *
    obtain ⟨u,rfl⟩:∃ u:Nat,ux=u:=⟨ux.toNat,by omega⟩
    have HI1:=fun w' (hx:Ext w w')=>Lib.hid (Itoa_c (a:Int) (by unfold I64; omega) w' (HT.out.ext hx))
    have HI2:=fun w' (hx:Ext w w')=>Lib.hid (FormatUint_c u (by omega) w' (HT.out.ext hx))
    have HI3:=fun w' (hx:Ext w w')=>Lib.hid (FormatInt_c n hi64 w' (HT.out.ext hx))
    clear htk hB hfm hf
    go_wp2_with fail
    have hx3:=hE.trans' (Ext.alloc' wr (.cells #[.int .i64 (a:Int),.int .u64 (u:Int),.int .i64 n] 203))
    have hb3:=heap_at wr (.cells #[.int .i64 (a:Int),.int .u64 (u:Int),.int .i64 n] 203) rfl
    have HB3:=Lib.hid (show BldAt w.heap.size w.heap.size ([108,105,115,116]++(D.take k).flatMap fdT) (wr.alloc (.cells #[.int .i64 (a:Int),.int .u64 (u:Int),.int .i64 n] 203)) from BldAt.ext HB.out (Ext.alloc' _ _))
    obtain ⟨W3,hW3⟩:∃ W3,wr.alloc (.cells #[.int .i64 (a:Int),.int .u64 (u:Int),.int .i64 n] 203)=W3:=⟨_,rfl⟩
    rw [hW3] at hx3 hb3 HB3 ⊢
    clear hW3 c0 c1 c2
    have hbr:w.heap.size < wr.heap.size:=by rcases HB.out with h | h <;> exact Lib.BuilderAtF.lt h
    generalize hbn:wr.heap.size=bn at *
    have HX3:=Lib.hid hx3
    have HBB:=Lib.hid hb3
    have c0:=(cell_of hb3 0).trans rfl
    have c1:=(cell_of hb3 1).trans rfl
    have c2:=(cell_of hb3 2).trans rfl
    have cl:=lt_of hb3
    clear hx3 hb3
    have hC0:=afs_drew (fun k=>w.heap.size≤k∧k≠bn) W3
    have hil1:=Lib.itoa_length_le (a:Int) (by omega) (by omega)
    have hil2:=decD_len u (by omega)
    have hil3:=Lib.itoa_length_le n hi64.1 hi64.2
    have hS3:Ext W3 W3.drew:=Below.drew (Ext.refl W3)
    refine pi_start (fun w'=>∃ x:AftS (fun k=>w.heap.size≤k∧k≠bn) W3,w'=x.w) [] (by kernel_rfl) ?_
    refine pi_t 0 rfl (by kernel_rfl) (by kernel_rfl) (fun _ _ _ _ h=>h) (fun K hK=>?_)
    go_big_quiet_op
    refine hK _ ?_
    clear hK K
    refine pi_t 1 rfl (by kernel_rfl) (by kernel_rfl) (fun _ _ _ _ h=>h) (fun K hK=>?_)
    go_big_quiet_op
    refine hK _ ?_
    clear hK K
    refine pi_t 6 rfl (by kernel_rfl) (by kernel_rfl) (fun _ _ _ _ h=>h) (fun K hK=>?_)
    go_big_quiet_op
    refine hK _ ?_
    clear hK K
    refine pi_t 7 rfl (by kernel_rfl) (by kernel_rfl) (fun _ _ _ _ h=>h) (fun K hK=>?_)
    go_big_quiet_op
    refine hK _ ?_
    clear hK K
    refine pi_t 12 rfl (by kernel_rfl) (by kernel_rfl) (fun _ _ _ _ h=>h) (fun K hK=>?_)
    go_big_quiet_op
    refine hK _ ?_
    clear hK K
    refine pi_c 2 (by assumption) rfl (by kernel_rfl) (by kernel_rfl) (fun _ _ _ _ h=>h) (fun K hK=>?_)
    go_big_quiet_op
    refine hK _ ?_
    clear hK K
    refine pi_c 8 (by assumption) rfl (by kernel_rfl) (by kernel_rfl) (fun _ _ _ _ h=>h) (fun K hK=>?_)
    go_big_quiet_op
    refine hK _ ?_
    clear hK K
    refine pi_c 13 (by assumption) rfl (by kernel_rfl) (by kernel_rfl) (fun _ _ _ _ h=>h) (fun K hK=>?_)
    go_big_quiet_op
    refine hK _ ?_
    clear hK K
    refine pi_l 3 rfl (by kernel_rfl) (fun K hK=>?_)
    go_wp2_with fail
    refine Calls.mono (HI1 _ (HX3.out.trans' hS3)).out ?_
    rintro e w4 ⟨rfl,hx4⟩
    have HX4:=Lib.hid (hS3.trans' hx4)
    unfold strV
    go_wp2
    refine hK _ _ (fun _ h=>afs_step h hx4) ?_
    clear hK K hx4 HI1
    refine pi_t 4 rfl (by kernel_rfl) (by kernel_rfl) (fun _ _ _ _ h=>h) (fun K hK=>?_)
    go_big_quiet_op
    refine hK _ ?_
    clear hK K
    refine pi_t 5 rfl (by kernel_rfl) (by kernel_rfl) (fun _ _ _ _ h=>h) (fun K hK=>?_)
    go_big_quiet_op
    refine hK _ ?_
    clear hK K
    refine pi_l 9 rfl (by kernel_rfl) (fun K hK=>?_)
    go_wp2_with fail
    refine Calls.mono (HI2 _ (HX3.out.trans' HX4.out)).out ?_
    rintro e w5 ⟨rfl,hx5⟩
    have HX5:=Lib.hid (HX4.out.trans' hx5)
    unfold strV
    go_wp2
    refine hK _ _ (fun _ h=>afs_step h hx5) ?_
    clear hK K hx5 HI2
    refine pi_t 10 rfl (by kernel_rfl) (by kernel_rfl) (fun _ _ _ _ h=>h) (fun K hK=>?_)
    go_big_quiet_op
    refine hK _ ?_
    clear hK K
    refine pi_t 11 rfl (by kernel_rfl) (by kernel_rfl) (fun _ _ _ _ h=>h) (fun K hK=>?_)
    go_big_quiet_op
    refine hK _ ?_
    clear hK K
    refine pi_l 14 rfl (by kernel_rfl) (fun K hK=>?_)
    go_wp2_with fail
    refine Calls.mono (HI3 _ (HX3.out.trans' HX5.out)).out ?_
    rintro e w6 ⟨rfl,hx6⟩
    have HX6:=Lib.hid (HX5.out.trans' hx6)
    unfold strV
    go_wp2
    refine hK _ _ (fun _ h=>afs_step h hx6) ?_
    clear hK K hx6 HI3
    refine pi_t 15 rfl (by kernel_rfl) (by kernel_rfl) (fun _ _ _ _ h=>h) (fun K hK=>?_)
    go_big_quiet_op
    refine hK _ ?_
    clear hK K
    refine pi_l 16 rfl (by kernel_rfl) (fun K hK=>?_)
    go_wp2_with fail
    have hst:(⟨#[32]⟩++⟨(Lib.itoa (a:Int)).toArray⟩++⟨#[58]⟩++⟨(Lib.decDigits u).toArray⟩++⟨#[58]⟩++⟨(Lib.itoa n).toArray⟩:ByteArray)=⟨(fdT (a,((u:Nat):Int),n)).toArray⟩:=by
     rw [show (⟨#[32]⟩:ByteArray)=⟨([32]:List UInt8).toArray⟩ from rfl,show (⟨#[58]⟩:ByteArray)=⟨([58]:List UInt8).toArray⟩ from rfl,cat_str,cat_str,cat_str,cat_str,cat_str]
     rfl
    rw [hst]
    have hsz:(⟨(fdT (a,((u:Nat):Int),n)).toArray⟩:ByteArray).size=(fdT (a,((u:Nat):Int),n)).length:=by rw [Lib.size_eq]
    refine Calls.mono (BWriteString_c _ _ _ _ _ (BldAt.ext HB3.out HX6.out) (by rw [hsz,List.length_append]; simp only [List.length_cons,List.length_nil]; omega) (HX3.out.trans' HX6.out).size) ?_
    rintro e w7 ⟨rfl,hB7,hb7,hk7⟩
    have hkeep:=hk7 _ _ (HX6.out.keep HBB.out) (fun h=>by injection h with h; omega) (by rintro c fz ⟨⟩)
    have hM7:Mod (fun k=>w.heap.size≤k∧k≠bn) W3 w7:=(HX6.out.mod _).trans ⟨hb7.os,hb7.tape,hb7.output,hb7.size,fun k hk hn=>by
     by_cases hkb:k=bn
     · subst hkb; exact hkeep.trans (HX6.out.keep HBB.out).symm
     · rcases Nat.lt_or_ge k w.heap.size with h | h
       · exact hb7.block k h
       · exact absurd ⟨h,hkb⟩ hn⟩
    have HB7:=Lib.hid hB7
    have HX7:=Lib.hid (show Ext w w7 from Below.trans (HX3.out.trans' HX6.out) hb7)
    go_wp2
    refine hK _ _ (fun _ _=>⟨⟨_,hM7⟩,rfl⟩) ?_
    clear hK K hB7 hb7 hk7 hkeep hM7 hst hsz
    refine pi_end (by kernel_rfl) ?_
    go_wp2
    go_roundw
    case rel =>
     refine ⟨k+1,by omega,by go_num, ?_,HX7.out⟩
     rw [HTK.out,List.flatMap_append]
     have:=HB7.out
     simpa using this
    case measure=>simp [intOf]; omega
  · obtain rfl:k=D.length:=by omega
    rw [List.take_length] at hB
    have HB:=Lib.hid hB
    clear hB
    go_wp2_with fail
    refine Calls.mono (BString_c _ _ _ _ HB.out (by simp)) ?_
    rintro e w3 ⟨rfl,hb3⟩
    have HX3:=Lib.hid (show Ext w w3 from Below.trans hE hb3)
    clear hb3
    unfold strV
    go_wp2
    go_ret
    exact ⟨rfl,HX3.out⟩
end Go.Proofs.YtmalncfcgcebhaaGreatDoor
