/- Part. No condition. -/
import Derived.Test.YtmalncfcgcebhaaGreatDoorDTopHeavy2
import Derived.Test.YtmalncfcgcebhaaGreatDoorDTopHeavy1
import Derived.Laws.CopyOwn
namespace Go.Proofs.YtmalncfcgcebhaaGreatDoor
set_option linter.unusedVariables false
def sumIf (p:Int→Bool) (ps:List (Int × Int)):Int:=lsum (ps.map fun u=>bif p u.1 then u.2 else 0)
theorem sumIf_cons (p:Int→Bool) (u:Int × Int) (ps:List (Int × Int)):sumIf p (u :: ps)=(bif p u.1 then u.2 else 0)+sumIf p ps:=by
 unfold sumIf; rw [List.map_cons,lsum_cons]
theorem sumIf_snoc (p:Int→Bool) (u:Int × Int) (ps:List (Int × Int)):sumIf p (ps++[u])=sumIf p ps+(bif p u.1 then u.2 else 0):=by
 unfold sumIf; rw [List.map_append,lsum_append,List.map_cons,List.map_nil,lsum_cons,lsum_nil]; omega
theorem sumIf_split (p q:Int→Bool) (ps:List (Int × Int)):sumIf p ps=sumIf (fun k=>p k && q k) ps+sumIf (fun k=>p k && !q k) ps:=by
 induction ps with
 | nil=>rfl
 | cons u ps ih =>
   simp only [sumIf_cons]
   rw [ih]
   cases p u.1 <;> cases q u.1 <;> simp <;> omega
theorem sumIf_congr {p q:Int→Bool} {ps:List (Int × Int)} (h:∀ u∈ps,p u.1=q u.1):sumIf p ps=sumIf q ps:=by
 induction ps with
 | nil=>rfl
 | cons u ps ih =>
   rw [sumIf_cons,sumIf_cons,h u (by simp),ih (fun v hv=>h v (by simp [hv]))]
theorem sumIf_filter (p q:Int→Bool) (ps:List (Int × Int)):sumIf p (ps.filter fun u=>q u.1)=sumIf (fun k=>p k && q k) ps:=by
 induction ps with
 | nil=>rfl
 | cons u ps ih =>
   rw [List.filter_cons]
   cases h:q u.1
   · simp only [Bool.false_eq_true,if_false]
     rw [sumIf_cons,ih,h,Bool.and_false]; simp
   · simp only [if_true]
     rw [sumIf_cons,sumIf_cons,ih,h,Bool.and_true]
def notK (v k:Int):Bool:=!(k == v)
theorem sumIf_nn (p:Int→Bool):∀ (n:Nat) (ps:List (Int × Int)),ps.length≤n→(∀ u∈ps,0≤sumIf (fun k=>k == u.1) ps)→0≤sumIf p ps:=by
 intro n
 induction n with
 | zero =>
   intro ps hl _
   obtain rfl:ps=[]:=List.length_eq_zero_iff.1 (by omega)
   exact Int.le_refl _
 | succ n ih =>
   intro ps hl h
   cases ps with
   | nil=>exact Int.le_refl _
   | cons v ps =>
     have hv:=h v (by simp)
     have hlen:((v :: ps).filter fun u=>notK v.1 u.1).length≤n:=by
      rw [List.filter_cons]
      have e0:notK v.1 v.1=false:=by simp [notK]
      simp only [e0,Bool.false_eq_true,if_false]
      have:=List.length_filter_le (fun u:Int × Int=>notK v.1 u.1) ps
      simp only [List.length_cons] at hl
      omega
     have hrest:=ih _ hlen (fun u hu=>by
      rw [List.mem_filter] at hu
      rw [sumIf_filter (fun k=>k == u.1) (notK v.1)]
      have e:sumIf (fun k=>k == u.1 && notK v.1 k) (v :: ps)=sumIf (fun k=>k == u.1) (v :: ps):=by
       apply sumIf_congr
       intro x _
       cases hx:(x.1 == u.1) with
       | false=>rfl
       | true =>
         have:x.1=u.1:=by simpa using hx
         rw [this,hu.2]; rfl
      rw [e]; exact h u hu.1)
     rw [sumIf_filter p (notK v.1)] at hrest
     rw [sumIf_split p (fun k=>k == v.1)]
     replace hrest:0≤sumIf (fun k=>p k && !(k == v.1)) (v :: ps):=hrest
     have e:sumIf (fun k=>p k && (k == v.1)) (v :: ps)=bif p v.1 then sumIf (fun k=>k == v.1) (v :: ps) else 0:=by
      cases hp:p v.1 with
      | true =>
        show _=sumIf (fun k=>k == v.1) (v :: ps)
        apply sumIf_congr
        intro x _
        cases hx:(x.1 == v.1) with
        | false=>simp
        | true =>
          have:x.1=v.1:=by simpa using hx
          rw [this,hp]; rfl
      | false =>
        show _=(0:Int)
        have:sumIf (fun k=>p k && (k == v.1)) (v :: ps)=sumIf (fun _=>false) (v :: ps):=by
         apply sumIf_congr
         intro x _
         cases hx:(x.1 == v.1) with
         | false=>simp
         | true =>
           have:x.1=v.1:=by simpa using hx
           rw [this,hp]; rfl
        rw [this]
        clear this hrest hv h hlen hl ih
        induction (v :: ps) with
        | nil=>rfl
        | cons a l ih=>rw [sumIf_cons,ih]; rfl
     rw [e]
     cases p v.1 <;> simp <;> omega
def sameCol (C:Cfg) (lv key:Int) (r:Nat) (k:Int):Bool:=(cols C lv k).getD r 0 == (cols C lv key).getD r 0
theorem at_ne {W r j:Nat} {a c:Nat} (ha:a < W) (hc:c < W) (h:r≠j∨a≠c):r*W+a≠j*W+c:=by
 intro he
 have hW:0 < W:=by omega
 have h1:(r*W+a) / W=(j*W+c) / W:=by rw [he]
 rw [Nat.add_comm,Nat.mul_comm r,Nat.add_mul_div_left _ _ hW,Nat.div_eq_of_lt ha,Nat.add_comm (j*W),Nat.mul_comm j,Nat.add_mul_div_left _ _ hW,Nat.div_eq_of_lt hc] at h1
 have h2:r=j:=by omega
 subst h2
 omega
theorem putK_get {R W:Nat} {cs:List Int} (hm:Meets R W cs) {f:Nat→Int} {l:List Int} (hl:l.length=R*W) {r a:Nat} (hr:r < R) (ha:a < W) :
 ∀ k,k≤R→(putK W cs f k l).getD (r*W+a) 0=if r < k∧cs.getD r 0=(a:Int) then f r else l.getD (r*W+a) 0:=by
 intro k
 induction k with
 | zero=>intro _; rw [putK,if_neg (by omega)]
 | succ k ih =>
   intro hk
   have h0:=hm.lo k (by omega)
   have h1:=hm.hi k (by omega)
   rw [putK]
   by_cases he:k=r∧cs.getD k 0=(a:Int)
   · obtain ⟨rfl,he⟩:=he
     rw [if_pos ⟨by omega,he⟩]
     have hat:at_ W cs k=k*W+a:=by unfold at_; omega
     rw [hat]
     have hlen:k*W+a < (putK W cs f k l).length:=by
      rw [putK_len,hl]
      calc k*W+a < k*W+W:=by omega
       _=(k+1)*W:=by rw [Nat.add_mul,Nat.one_mul]
       _≤R*W:=Nat.mul_le_mul_right W hr
     simp [hlen]
   · have hne:at_ W cs k≠r*W+a:=by
      unfold at_
      refine at_ne (by omega) ha ?_
      by_cases hkr:k=r
      · right
        intro h
        exact he ⟨hkr,by omega⟩
      · exact .inl hkr
     have e:((putK W cs f k l).set (at_ W cs k) (f k)).getD (r*W+a) 0=(putK W cs f k l).getD (r*W+a) 0:=by
      simp [List.getElem?_set_ne hne]
     rw [e,ih (by omega)]
     by_cases hc:r < k∧cs.getD r 0=(a:Int)
     · rw [if_pos hc,if_pos ⟨by omega,hc.2⟩]
     · rw [if_neg hc,if_neg]
       intro h
       by_cases hkr:k=r
       · subst hkr; exact he ⟨rfl,h.2⟩
       · exact hc ⟨by omega,h.2⟩
end Go.Proofs.YtmalncfcgcebhaaGreatDoor
namespace Go.Proofs.YtmalncfcgcebhaaGreatDoor
set_option linter.unusedVariables false
open Go.RowKit
def allI (l:List Int):Prop:=∀ x∈l,I64 x
def JoinPost (w:World) (b c R W:Nat) (m:List Int) (e:Ending) (w':World):Prop :=
 (allI m∧e=.returned (.int .i64 0)∧GAt w' b c R W m∧Mod (fun k=>k=c) w w')∨(¬ allI m∧e=.returned (.int .i64 4)∧Ext w w')
def plusL (l m:List Int):List Int:=(List.range l.length).map fun k=>l.getD k 0+m.getD k 0
def minusL (l m:List Int):List Int:=(List.range l.length).map fun k=>l.getD k 0 - m.getD k 0
theorem plusL_len (l m:List Int):(plusL l m).length=l.length:=by simp [plusL]
theorem minusL_len (l m:List Int):(minusL l m).length=l.length:=by simp [minusL]
theorem map_all {f:Nat→Int} {n:Nat} (h:∀ j,j < n→I64 (f j)):allI ((List.range n).map f):=by
 intro x hx
 simp only [List.mem_map,List.mem_range] at hx
 obtain ⟨j,hj,rfl⟩:=hx
 exact h j hj
theorem map_not {f:Nat→Int} {n j:Nat} (hj:j < n) (h:¬ I64 (f j)):¬ allI ((List.range n).map f):=by
 intro ha
 exact h (ha _ (by simp only [List.mem_map,List.mem_range]; exact ⟨j,hj,rfl⟩))
theorem ints_one {l:List Int}:∀ v∈ints l,v.oneCell'=true:=by
 intro v hv
 simp only [ints,List.mem_map] at hv
 obtain ⟨x,_,rfl⟩:=hv
 rfl
theorem CAt.copied {w:World} {c cap:Nat} {l m:List Int} {cur:Array Value} (hg:w.heap[c]?=some (.cells cur 2 (0,0))) (hs:cur.size=cap) (hle:l.length≤cap) (hmx:cap≤maxLen) (hm:m.length=l.length) :
 CAt (w.setRow c (cur.toList.take 0++(Go.Proofs.YtmalncfcgcebhaaGreatDoor.ints m++cur.toList.drop (0+(Go.Proofs.YtmalncfcgcebhaaGreatDoor.ints m).length))).toArray) c cap m:=by
 refine ⟨⟨_,setRow_heap w c _ _ _ _ hg, ?_, ?_⟩,by omega,hmx⟩
 · simp [Go.Proofs.YtmalncfcgcebhaaGreatDoor.ints]; omega
 · simp [Go.Proofs.YtmalncfcgcebhaaGreatDoor.ints]
theorem CAt.copied' {w:World} {c cap:Nat} {l m:List Int} {cur:Array Value} (hg:w.heap[c]?=some (.cells cur 2 (0,0))) (hs:cur.size=cap) (hle:l.length≤cap) (hmx:cap≤maxLen) (hm:m.length=l.length) :
 CAt (w.setRow c (Go.Proofs.YtmalncfcgcebhaaGreatDoor.ints m++cur.toList.drop (Go.Proofs.YtmalncfcgcebhaaGreatDoor.ints m).length).toArray) c cap m:=by
 have:=CAt.copied (w:=w) (l:=l) (m:=m) hg hs hle hmx hm
 simpa using this
theorem mod_row {w w':World} {c:Nat} (h:Mod (fun k=>k=c) w w') (cs:Array Value):Mod (fun k=>k=c) w (w'.setRow c cs) :=
 ⟨h.os,h.tape,h.output,by rw [size_setRow]; exact h.size,fun k hk hn=>(setRow_other _ _ _ _ hn).trans (h.block k hk hn)⟩
theorem addr_plain (b off i:Nat):(Addr.add ⟨b,off,none⟩ i)=⟨b,off+i,none⟩:=by
 unfold Addr.add
 by_cases h:i=0
 · subst h; simp
 · simp [h]
theorem GAt.row {w wr:World} {b c R W:Nat} {l m:List Int} (h:GAt w b c R W l) (hE:Ext w wr) {cur:Array Value} {cap:Nat} (hb:w.heap[b]?=some (.cells #[.int .i64 R,.int .i64 W,.slice (some ⟨c,0,none⟩) l.length cap] 367 (0,0))) (hc:CAt w c cap l)
 (hg:wr.heap[c]?=some (.cells cur 2 (0,0))) (hs:cur.size=cap) (hm:m.length=l.length) :
 GAt (wr.setRow c (ints m++cur.toList.drop (ints m).length).toArray) b c R W m :=
 ⟨⟨cap,by rw [setRow_other _ _ _ _ h.ne,hE.block b h.ltb,hm]; exact hb,CAt.copied' hg hs hc.le hc.mx hm⟩,h.r1,h.r2,h.w1,h.w2,by rw [hm]; exact h.len⟩
theorem Plus_fit (a b:Int) (ha:I64 a) (hb:I64 b) (h:I64 (a+b)) (w:World) :
 Calls Tryz.prog 277 #[.int .i64 a,.int .i64 b] w fun e w'=>e=.returned (.tuple #[.int .i64 (a+b),.bool true])∧Ext w w' :=
 (Plus_c a b ha hb w).mono fun _ _ ⟨he,hx⟩=>⟨by rw [he,fitN,fitB_yes h]; rfl,hx⟩
theorem Plus_no (a b:Int) (ha:I64 a) (hb:I64 b) (h:¬ I64 (a+b)) (w:World) :
 Calls Tryz.prog 277 #[.int .i64 a,.int .i64 b] w fun e w'=>e=.returned (.tuple #[.int .i64 0,.bool false])∧Ext w w' :=
 (Plus_c a b ha hb w).mono fun _ _ ⟨he,hx⟩=>⟨by rw [he,fitN,fitB_no h]; rfl,hx⟩
set_option maxRecDepth 20000 in
set_option maxHeartbeats 2000000 in
theorem allPlus_c (b c b2 c2 R W:Nat) (l l2:List Int) (w:World) (h:GAt w b c R W l) (h2:GAt w b2 c2 R W l2) (hI:allI l) (hI2:allI l2) :
 Calls Tryz.prog 278 #[.agg #[.pointer (some ⟨b,0,none⟩),.func (.func 277) #[] #[]],.pointer (some ⟨b2,0,none⟩)] w (JoinPost w b c R W (plusL l l2)):=by
 obtain ⟨cap,hb,hc⟩:=h.ex
 obtain ⟨cap2,hb2,hc2⟩:=h2.ex
 have hl:=h.len
 have hl2:=h2.len
 have hN1:R*W≤1024:=Nat.le_trans (Nat.mul_le_mul h.r2 h.w2) (by decide)
 have hN2:1≤R*W:=Nat.mul_pos h.r1 h.w1
 have hLL:plusL l l2=(List.range l.length).map fun k=>l.getD k 0+l2.getD k 0:=rfl
 rw [hLL]
 have HB:=Lib.hid hb
 rw [hl] at hb ⊢
 rw [hl2] at hb2
 generalize hNN:R*W=N at *
 obtain ⟨f,hf⟩:∃ f:Nat→Int,f=fun k=>l.getD k 0+l2.getD k 0:=⟨_,rfl⟩
 rw [← hf]
 have HF:=Lib.hid hf
 have HL:=Lib.hid hl
 have HL2:=Lib.hid hl2
 have HNN:=Lib.hid hNN
 have e0:=(cell_of hb 0).trans rfl
 have e1:=(cell_of hb 1).trans rfl
 have e2:=(cell_of hb 2).trans rfl
 have k0:=(cell_of hb2 0).trans rfl
 have k1:=(cell_of hb2 1).trans rfl
 have k2:=(cell_of hb2 2).trans rfl
 have ltb:=h.ltb
 have ltc:=h.ltc
 have ltb2:=h2.ltb
 have ltc2:=h2.ltc
 obtain ⟨ii,hi,hz0,hz1,hz2⟩:=info_parts info_i64
 have hmk:=fun (x:World)=>run_make_ints 47 2 ii Tryz.underlying47 hi hz0 hz1 hz2 N (by omega) f x
 have HH:=Lib.hid h
 have HH2:=Lib.hid h2
 have HC:=Lib.hid hc
 have HC2:=Lib.hid hc2
 clear hf hl hl2 hNN hb hb2 h h2 hc hc2 hLL hi hz0 hz1 hz2
 go_enter Tryz.func278,Tryz.ntmps278
 go_wp2_with fail
 refine wp_region_after (by kernel_rfl) (by kernel_rfl) ?_
 repeat (go_big_quiet_step (fail))
 refine wpQuiet_nil ?_
 rintro _ ⟨xx,rfl⟩
 obtain ⟨w1,hb1⟩:=xx
 try dsimp only
 have hj0:w1.cell? ⟨w.heap.size,0,none⟩=some (.pointer (some ⟨b,0,none⟩)):=by rw [(bcell hb1).1 _ _ (by rw [size_alloc]; omega)]; simp [go_sem]
 have hj1:w1.cell? ⟨w.heap.size,1,none⟩=some (.func (.func 277) #[] #[]):=by rw [(bcell hb1).1 _ _ (by rw [size_alloc]; omega)]; simp [go_sem]
 have hbs:=hb1.size
 rw [size_alloc] at hbs
 have hE:Ext w w1:=by (repeat' (first | exact Ext.refl _ | assumption | apply Ext.allocR | apply Ext.drewR | apply Ext.drewNR | (refine Ext.trans' ?_ (by assumption))))
 clear hb1
 have e2':=((bcell hE).1 _ _ ltb).trans e2
 have k2':=((bcell hE).1 _ _ ltb2).trans k2
 have lb1:b < w1.heap.size:=Nat.lt_of_lt_of_le ltb hE.size
 have lb2:b2 < w1.heap.size:=Nat.lt_of_lt_of_le ltb2 hE.size
 clear e0 e1 k0 k1 e2 k2
 go_wp2_with fail
 clear hmk
 go_loopw [48] (fun u48 wr=>∃ k:Nat,k≤N∧u48=.int .i64 k∧(∀ j,j < k→I64 (f j))∧Ext w1 wr∧w1.heap.size < wr.heap.size∧wr.heap[w1.heap.size]?=some (.cells (fillA f k N) 2 (0,0))) (fun u48 _=>N - (intOf u48).toNat)
 case atStart=>exact ⟨0,Nat.zero_le _,rfl,fun j hj=>absurd hj (Nat.not_lt_zero j),Ext.alloc' _ _,by rw [size_alloc]; omega,heap_at _ _ rfl⟩
 case round =>
  obtain ⟨k,hk,rfl,hfit,hx,hsz,hg2⟩:=hrel
  have HFIT:=Lib.hid hfit
  clear hfit
  have hEw:Ext w wr:=hE.trans' hx
  have j0:=((bcell hx).1 _ 0 (show w.heap.size < w1.heap.size by omega)).trans hj0
  have j1:=((bcell hx).1 _ 1 (show w.heap.size < w1.heap.size by omega)).trans hj1
  have g2:=((bcell hx).1 _ 2 (show b < w1.heap.size by omega)).trans e2'
  have m2:=((bcell hx).1 _ 2 (show b2 < w1.heap.size by omega)).trans k2'
  have s0:w.heap.size < wr.heap.size:=by omega
  have s1:b < wr.heap.size:=by omega
  have s2:b2 < wr.heap.size:=by omega
  have s3:c < wr.heap.size:=by omega
  have s4:c2 < wr.heap.size:=by omega
  by_cases hlt:k < N
  · have x0:=((bcell hEw).1 _ k ltc).trans (HC.out.cell (i:=k) (by rw [HL.out]; exact hlt))
    have x1:=((bcell hEw).1 _ k ltc2).trans (HC2.out.cell (i:=k) (by rw [HL2.out]; exact hlt))
    have hfk:f k=l.getD k 0+l2.getD k 0:=by rw [HF.out]
    have i0:=getD_i64 hI k
    have i1:=getD_i64 hI2 k
    generalize l.getD k 0=a at *
    generalize l2.getD k 0=a2 at *
    obtain ⟨v0,d0⟩:∃ v0,wr.cell? ⟨w1.heap.size,k,none⟩=some v0:=⟨_,(cell_of hg2 k).trans (fillA_at _ _ _ _ hlt)⟩
    have d1:=frozen_of hg2 k
    have HG:=Lib.hid hg2
    clear hg2
    by_cases hf:I64 (a+a2)
    · have HFK:=Lib.hid hfk
      have HFI:=Lib.hid hf
      clear hfk hf
      go_wp2_with fail
      refine wp_region_after (by kernel_rfl) (by kernel_rfl) ?_
      repeat (go_big_quiet_step ((go_at_call 277; exact quiet_after (Plus_fit a a2 i0 i1 HFI.out _))))
      refine wpQuiet_nil ?_
      rintro _ ⟨xx,rfl⟩
      obtain ⟨w5,hb5⟩:=xx
      try dsimp only
      have d0':=((bcell hb5).1 _ _ hsz).trans d0
      have d1':=((bcell hb5).2 _ _ hsz).trans d1
      have hg5:=(hb5.block _ hsz).trans HG.out
      have HG5:=Lib.hid hg5
      have hx5:=hx.trans' hb5
      have hs5:=hb5.size
      clear hg5 d0 d1
      go_wp2_with fail
      go_roundw
      case rel =>
       refine ⟨k+1,by omega,by go_num,fun j hj=>?_,hx5.setR (Nat.le_refl _) _,by rw [size_setCell]; omega, ?_⟩
       · by_cases hjk:j < k
         · exact HFIT.out j hjk
         · obtain rfl:j=k:=by omega
           rw [HFK.out]; exact HFI.out
       · rw [setCell_same HG5.out,← fillA_set,HFK.out]
      case measure=>simp [intOf]; omega
    · have HFK:=Lib.hid hfk
      have HFI:=Lib.hid hf
      clear hfk hf
      go_wp2_with fail
      refine wp_region_after (by kernel_rfl) (by kernel_rfl) ?_
      repeat (go_big_quiet_step ((go_at_call 277; exact quiet_after (Plus_no a a2 i0 i1 HFI.out _))))
      refine wpQuiet_nil ?_
      rintro _ ⟨xx,rfl⟩
      obtain ⟨w5,hb5⟩:=xx
      try dsimp only
      go_wp2_with fail
      go_ret
      refine .inr ⟨?_,rfl,hEw.trans' hb5⟩
      exact map_not hlt (by rw [HFK.out]; exact HFI.out)
  · have HG:=Lib.hid hg2
    clear hg2
    obtain rfl:k=N:=by omega
    obtain ⟨cur,hcur,hcs,hct⟩:=(HC.out.keep (hEw.block c ltc)).ex
    have HCUR:=Lib.hid hcur
    have HCS:=Lib.hid hcs
    clear hcur hcs hct
    go_wp2_with (with_reducible refine wpList_copy_own rfl _ _ 47 47 rfl 2 Tryz.underlying47 (by kernel_rfl) c 0 _ _ ⟨w1.heap.size,0,none⟩ _ _ rfl rfl cur 2 HCUR.out (ints ((List.range k).map f)) ?a1 ?a2 ?a3 ints_one ?_)
    case a1=>simp [ints]
    case a2 =>
     intro j v hj
     rw [addr_plain,Nat.zero_add,cell_of HG.out j,← Array.getElem?_toList,fillA_done]
     exact hj
    case a3 =>
     have:=HCS.out
     have:=HC.out.le
     rw [HL.out] at this
     simp only [ints,List.length_map,List.length_range]
     omega
    go_ret
    refine .inl ⟨map_all HFIT.out,rfl, ?_, ?_⟩
    · exact HH.out.row hEw HB.out HC.out HCUR.out HCS.out (by rw [HL.out]; simp)
    · exact mod_row (hEw.mod _) _
theorem Minus_fit (a b:Int) (ha:I64 a) (hb:I64 b) (h:I64 (a - b)) (w:World) :
 Calls Tryz.prog 217 #[.int .i64 a,.int .i64 b] w fun e w'=>e=.returned (.tuple #[.int .i64 (a - b),.bool true])∧Ext w w' :=
 (Minus_c a b ha hb w).mono fun _ _ ⟨he,hx⟩=>⟨by rw [he,fitN,fitB_yes h]; rfl,hx⟩
theorem Minus_no (a b:Int) (ha:I64 a) (hb:I64 b) (h:¬ I64 (a - b)) (w:World) :
 Calls Tryz.prog 217 #[.int .i64 a,.int .i64 b] w fun e w'=>e=.returned (.tuple #[.int .i64 0,.bool false])∧Ext w w' :=
 (Minus_c a b ha hb w).mono fun _ _ ⟨he,hx⟩=>⟨by rw [he,fitN,fitB_no h]; rfl,hx⟩
set_option maxRecDepth 20000 in
set_option maxHeartbeats 2000000 in
theorem allMinus_c (b c b2 c2 R W:Nat) (l l2:List Int) (w:World) (h:GAt w b c R W l) (h2:GAt w b2 c2 R W l2) (hI:allI l) (hI2:allI l2) :
 Calls Tryz.prog 278 #[.agg #[.pointer (some ⟨b,0,none⟩),.func (.func 217) #[] #[]],.pointer (some ⟨b2,0,none⟩)] w (JoinPost w b c R W (minusL l l2)):=by
 obtain ⟨cap,hb,hc⟩:=h.ex
 obtain ⟨cap2,hb2,hc2⟩:=h2.ex
 have hl:=h.len
 have hl2:=h2.len
 have hN1:R*W≤1024:=Nat.le_trans (Nat.mul_le_mul h.r2 h.w2) (by decide)
 have hN2:1≤R*W:=Nat.mul_pos h.r1 h.w1
 have hLL:minusL l l2=(List.range l.length).map fun k=>l.getD k 0 - l2.getD k 0:=rfl
 rw [hLL]
 have HB:=Lib.hid hb
 rw [hl] at hb ⊢
 rw [hl2] at hb2
 generalize hNN:R*W=N at *
 obtain ⟨f,hf⟩:∃ f:Nat→Int,f=fun k=>l.getD k 0 - l2.getD k 0:=⟨_,rfl⟩
 rw [← hf]
 have HF:=Lib.hid hf
 have HL:=Lib.hid hl
 have HL2:=Lib.hid hl2
 have HNN:=Lib.hid hNN
 have e0:=(cell_of hb 0).trans rfl
 have e1:=(cell_of hb 1).trans rfl
 have e2:=(cell_of hb 2).trans rfl
 have k0:=(cell_of hb2 0).trans rfl
 have k1:=(cell_of hb2 1).trans rfl
 have k2:=(cell_of hb2 2).trans rfl
 have ltb:=h.ltb
 have ltc:=h.ltc
 have ltb2:=h2.ltb
 have ltc2:=h2.ltc
 obtain ⟨ii,hi,hz0,hz1,hz2⟩:=info_parts info_i64
 have hmk:=fun (x:World)=>run_make_ints 47 2 ii Tryz.underlying47 hi hz0 hz1 hz2 N (by omega) f x
 have HH:=Lib.hid h
 have HH2:=Lib.hid h2
 have HC:=Lib.hid hc
 have HC2:=Lib.hid hc2
 clear hf hl hl2 hNN hb hb2 h h2 hc hc2 hLL hi hz0 hz1 hz2
 go_enter Tryz.func278,Tryz.ntmps278
 go_wp2_with fail
 refine wp_region_after (by kernel_rfl) (by kernel_rfl) ?_
 repeat (go_big_quiet_step (fail))
 refine wpQuiet_nil ?_
 rintro _ ⟨xx,rfl⟩
 obtain ⟨w1,hb1⟩:=xx
 try dsimp only
 have hj0:w1.cell? ⟨w.heap.size,0,none⟩=some (.pointer (some ⟨b,0,none⟩)):=by rw [(bcell hb1).1 _ _ (by rw [size_alloc]; omega)]; simp [go_sem]
 have hj1:w1.cell? ⟨w.heap.size,1,none⟩=some (.func (.func 217) #[] #[]):=by rw [(bcell hb1).1 _ _ (by rw [size_alloc]; omega)]; simp [go_sem]
 have hbs:=hb1.size
 rw [size_alloc] at hbs
 have hE:Ext w w1:=by (repeat' (first | exact Ext.refl _ | assumption | apply Ext.allocR | apply Ext.drewR | apply Ext.drewNR | (refine Ext.trans' ?_ (by assumption))))
 clear hb1
 have e2':=((bcell hE).1 _ _ ltb).trans e2
 have k2':=((bcell hE).1 _ _ ltb2).trans k2
 have lb1:b < w1.heap.size:=Nat.lt_of_lt_of_le ltb hE.size
 have lb2:b2 < w1.heap.size:=Nat.lt_of_lt_of_le ltb2 hE.size
 clear e0 e1 k0 k1 e2 k2
 go_wp2_with fail
 clear hmk
 go_loopw [48] (fun u48 wr=>∃ k:Nat,k≤N∧u48=.int .i64 k∧(∀ j,j < k→I64 (f j))∧Ext w1 wr∧w1.heap.size < wr.heap.size∧wr.heap[w1.heap.size]?=some (.cells (fillA f k N) 2 (0,0))) (fun u48 _=>N - (intOf u48).toNat)
 case atStart=>exact ⟨0,Nat.zero_le _,rfl,fun j hj=>absurd hj (Nat.not_lt_zero j),Ext.alloc' _ _,by rw [size_alloc]; omega,heap_at _ _ rfl⟩
 case round =>
  obtain ⟨k,hk,rfl,hfit,hx,hsz,hg2⟩:=hrel
  have HFIT:=Lib.hid hfit
  clear hfit
  have hEw:Ext w wr:=hE.trans' hx
  have j0:=((bcell hx).1 _ 0 (show w.heap.size < w1.heap.size by omega)).trans hj0
  have j1:=((bcell hx).1 _ 1 (show w.heap.size < w1.heap.size by omega)).trans hj1
  have g2:=((bcell hx).1 _ 2 (show b < w1.heap.size by omega)).trans e2'
  have m2:=((bcell hx).1 _ 2 (show b2 < w1.heap.size by omega)).trans k2'
  have s0:w.heap.size < wr.heap.size:=by omega
  have s1:b < wr.heap.size:=by omega
  have s2:b2 < wr.heap.size:=by omega
  have s3:c < wr.heap.size:=by omega
  have s4:c2 < wr.heap.size:=by omega
  by_cases hlt:k < N
  · have x0:=((bcell hEw).1 _ k ltc).trans (HC.out.cell (i:=k) (by rw [HL.out]; exact hlt))
    have x1:=((bcell hEw).1 _ k ltc2).trans (HC2.out.cell (i:=k) (by rw [HL2.out]; exact hlt))
    have hfk:f k=l.getD k 0 - l2.getD k 0:=by rw [HF.out]
    have i0:=getD_i64 hI k
    have i1:=getD_i64 hI2 k
    generalize l.getD k 0=a at *
    generalize l2.getD k 0=a2 at *
    obtain ⟨v0,d0⟩:∃ v0,wr.cell? ⟨w1.heap.size,k,none⟩=some v0:=⟨_,(cell_of hg2 k).trans (fillA_at _ _ _ _ hlt)⟩
    have d1:=frozen_of hg2 k
    have HG:=Lib.hid hg2
    clear hg2
    by_cases hf:I64 (a - a2)
    · have HFK:=Lib.hid hfk
      have HFI:=Lib.hid hf
      clear hfk hf
      go_wp2_with fail
      refine wp_region_after (by kernel_rfl) (by kernel_rfl) ?_
      repeat (go_big_quiet_step ((go_at_call 217; exact quiet_after (Minus_fit a a2 i0 i1 HFI.out _))))
      refine wpQuiet_nil ?_
      rintro _ ⟨xx,rfl⟩
      obtain ⟨w5,hb5⟩:=xx
      try dsimp only
      have d0':=((bcell hb5).1 _ _ hsz).trans d0
      have d1':=((bcell hb5).2 _ _ hsz).trans d1
      have hg5:=(hb5.block _ hsz).trans HG.out
      have HG5:=Lib.hid hg5
      have hx5:=hx.trans' hb5
      have hs5:=hb5.size
      clear hg5 d0 d1
      go_wp2_with fail
      go_roundw
      case rel =>
       refine ⟨k+1,by omega,by go_num,fun j hj=>?_,hx5.setR (Nat.le_refl _) _,by rw [size_setCell]; omega, ?_⟩
       · by_cases hjk:j < k
         · exact HFIT.out j hjk
         · obtain rfl:j=k:=by omega
           rw [HFK.out]; exact HFI.out
       · rw [setCell_same HG5.out,← fillA_set,HFK.out]
      case measure=>simp [intOf]; omega
    · have HFK:=Lib.hid hfk
      have HFI:=Lib.hid hf
      clear hfk hf
      go_wp2_with fail
      refine wp_region_after (by kernel_rfl) (by kernel_rfl) ?_
      repeat (go_big_quiet_step ((go_at_call 217; exact quiet_after (Minus_no a a2 i0 i1 HFI.out _))))
      refine wpQuiet_nil ?_
      rintro _ ⟨xx,rfl⟩
      obtain ⟨w5,hb5⟩:=xx
      try dsimp only
      go_wp2_with fail
      go_ret
      refine .inr ⟨?_,rfl,hEw.trans' hb5⟩
      exact map_not hlt (by rw [HFK.out]; exact HFI.out)
  · have HG:=Lib.hid hg2
    clear hg2
    obtain rfl:k=N:=by omega
    obtain ⟨cur,hcur,hcs,hct⟩:=(HC.out.keep (hEw.block c ltc)).ex
    have HCUR:=Lib.hid hcur
    have HCS:=Lib.hid hcs
    clear hcur hcs hct
    go_wp2_with (with_reducible refine wpList_copy_own rfl _ _ 47 47 rfl 2 Tryz.underlying47 (by kernel_rfl) c 0 _ _ ⟨w1.heap.size,0,none⟩ _ _ rfl rfl cur 2 HCUR.out (ints ((List.range k).map f)) ?a1 ?a2 ?a3 ints_one ?_)
    case a1=>simp [ints]
    case a2 =>
     intro j v hj
     rw [addr_plain,Nat.zero_add,cell_of HG.out j,← Array.getElem?_toList,fillA_done]
     exact hj
    case a3 =>
     have:=HCS.out
     have:=HC.out.le
     rw [HL.out] at this
     simp only [ints,List.length_map,List.length_range]
     omega
    go_ret
    refine .inl ⟨map_all HFIT.out,rfl, ?_, ?_⟩
    · exact HH.out.row hEw HB.out HC.out HCUR.out HCS.out (by rw [HL.out]; simp)
    · exact mod_row (hEw.mod _) _
end Go.Proofs.YtmalncfcgcebhaaGreatDoor
namespace Go.Proofs.YtmalncfcgcebhaaGreatDoor
set_option linter.unusedVariables false
theorem sumIf_append (p:Int→Bool) (a b:List (Int × Int)):sumIf p (a++b)=sumIf p a+sumIf p b:=by
 unfold sumIf; rw [List.map_append,lsum_append]
theorem list_ext_getD {a b:List Int} (hl:a.length=b.length) (h:∀ i,i < a.length→a.getD i 0=b.getD i 0):a=b:=by
 apply List.ext_getElem hl
 intro i h1 h2
 have:=h i h1
 simpa [h1,h2] using this
theorem plusL_get {l m:List Int} {i:Nat} (h:i < l.length):(plusL l m).getD i 0=l.getD i 0+m.getD i 0:=by simp [plusL,h]
theorem minusL_get {l m:List Int} {i:Nat} (h:i < l.length):(minusL l m).getD i 0=l.getD i 0 - m.getD i 0:=by simp [minusL,h]
end Go.Proofs.YtmalncfcgcebhaaGreatDoor
namespace Go.Proofs.YtmalncfcgcebhaaGreatDoor
set_option linter.unusedVariables false
open Go.RowKit
theorem own_setc {w:World} {base n size:Nat} {e:TypeId} {v:Value} {xs:List Value} (h:w.ownsRow base e size v n xs) {b:Nat} (hb:b < base) (o:Nat) (u:Value):(w.setCell ⟨b,o,none⟩ u).ownsRow base e size v n xs:=by
 refine ⟨h.1, ?_⟩
 rcases h.2 with h' | ⟨g,cap,cur,hv,hg,hh,hr⟩
 · exact .inl h'
 · exact .inr ⟨g,cap,cur,hv,hg,(setCell_other _ _ (by omega)).trans hh,hr⟩
theorem own_sl {w:World} {base n size:Nat} {e:TypeId} {v:Value} {xs:List Value} (h:w.ownsRow base e size v n xs):∃ p c,v=.slice p n c:=by
 rcases h.2 with ⟨rfl,rfl⟩ | ⟨g,cap,cur,rfl,_⟩
 · exact ⟨none,0,rfl⟩
 · exact ⟨_,_,rfl⟩
theorem own_ext {w w':World} {base n size:Nat} {e:TypeId} {v:Value} {xs:List Value} (h:w.ownsRow base e size v n xs) (hE:Ext w w'):w'.ownsRow base e size v n xs:=by
 refine ⟨h.1, ?_⟩
 rcases h.2 with h' | ⟨g,cap,cur,hv,hg,hh,hr⟩
 · exact .inl h'
 · exact .inr ⟨g,cap,cur,hv,hg,hE.keep hh,hr⟩
structure AftS (S:Nat→Prop) (W:World) where
 w:World
 h:Mod S W w
instance (S:Nat→Prop) (W:World):Nonempty (AftS S W):=⟨⟨W,Mod.refl _ W⟩⟩
@[go_sem] theorem AftS.cell {S:Nat→Prop} {W:World} (x:AftS S W) {b o:Nat} (h:b < W.heap.size) (hn:¬ S b):x.w.cell? ⟨b,o,none⟩=W.cell? ⟨b,o,none⟩:=mcell x.h h hn o
theorem afs_drew (S:Nat→Prop) (W:World):∃ x:AftS S W,W.drew=x.w:=⟨⟨_,Ext.mod _ (Below.drew (Ext.refl W))⟩,rfl⟩
theorem afs_step {S:Nat→Prop} {W w w':World} (h:∃ x:AftS S W,w=x.w) (he:Ext w w'):∃ x:AftS S W,w'=x.w:=by
 obtain ⟨x,rfl⟩:=h
 exact ⟨⟨w',x.h.trans (he.mod _)⟩,rfl⟩
theorem mod_grown {S:Nat→Prop} {W w w':World} {o:Obj} {row:Option Nat} (h:Mod S W w) (hg:(w.alloc o).grownBy w' row) (hr:∀ i,row=some i→S i):Mod S W w':=by
 refine ⟨hg.os.trans h.os,hg.tape.trans h.tape,hg.output.trans h.output,Nat.le_trans h.size (Nat.le_trans (by rw [size_alloc]; exact Nat.le_succ _) hg.size),fun k hk hn=>?_⟩
 exact (grown_old hg (Nat.lt_of_lt_of_le hk h.size) (fun e=>hn (hr k e.symm))).trans (h.block k hk hn)
end Go.Proofs.YtmalncfcgcebhaaGreatDoor
namespace Go.Proofs.YtmalncfcgcebhaaGreatDoor
set_option linter.unusedVariables false
open Go.RowKit
theorem info_pc:∃ i z,Tryz.prog.info? 52=some i∧i.zero=some z∧i.size=2∧i.bytes=16∧z.cells.size=2:=by
 have h:(Tryz.prog.info? 52).map (fun i=>(i.zero,i.size,i.bytes))=some (some (.agg #[.int .i64 0,.int .u64 0]),2,16):=by kernel_rfl
 match hi:Tryz.prog.info? 52,h with
 | some i,h =>
   simp only [Option.map_some,Option.some.injEq,Prod.mk.injEq] at h
   exact ⟨i,_,rfl,h.1,h.2.1,h.2.2,rfl⟩
def pcV (ps:List (Nat × Int)):List Value:=ps.flatMap fun p=>[.int .i64 (p.1:Int),.int .u64 p.2]
theorem pcV_len (ps:List (Nat × Int)):(pcV ps).length=ps.length*2:=by
 induction ps with
 | nil=>rfl
 | cons u ps ih =>
   have:pcV (u :: ps)=.int .i64 (u.1:Int) :: .int .u64 u.2 :: pcV ps:=rfl
   rw [this,List.length_cons,List.length_cons,List.length_cons,ih]; omega
theorem pcV_at {ps:List (Nat × Int)}:∀ {k:Nat} (h:k < ps.length),(pcV ps)[k*2]?=some (.int .i64 ((ps.getD k (0,0)).1:Int))∧(pcV ps)[k*2+1]?=some (.int .u64 (ps.getD k (0,0)).2):=by
 induction ps with
 | nil=>intro k h; simp at h
 | cons u ps ih =>
   intro k h
   have e:pcV (u :: ps)=.int .i64 (u.1:Int) :: .int .u64 u.2 :: pcV ps:=rfl
   rw [e]
   cases k with
   | zero=>exact ⟨rfl,rfl⟩
   | succ k =>
     have:=ih (k:=k) (by simpa using h)
     rw [show (k+1)*2=k*2+1+1 by omega]
     simp only [List.getElem?_cons_succ,List.getD_cons_succ]
     exact this
theorem pcV_get {ps:List (Nat × Int)} {j:Nat} {v:Value} (h:(pcV ps)[j]?=some v):∃ k,k < ps.length∧((j=k*2∧v=.int .i64 ((ps.getD k (0,0)).1:Int))∨(j=k*2+1∧v=.int .u64 (ps.getD k (0,0)).2)):=by
 have hj:=(List.getElem?_eq_some_iff.1 h).1
 rw [pcV_len] at hj
 have hk:j / 2 < ps.length:=by omega
 obtain ⟨a1,a2⟩:=pcV_at hk
 refine ⟨j / 2,hk, ?_⟩
 by_cases he:j % 2=0
 · left
   have hj2:j=j / 2*2:=by omega
   rw [← hj2,h] at a1
   exact ⟨hj2,Option.some.inj a1⟩
 · right
   have hj2:j=j / 2*2+1:=by omega
   rw [← hj2,h] at a2
   exact ⟨hj2,Option.some.inj a2⟩
def PCells (W:World) (g off:Nat) (ps:List (Nat × Int)):Prop :=
 ∀ k,k < ps.length→W.cell? ⟨g,off+k*2,none⟩=some (.int .i64 ((ps.getD k (0,0)).1:Int))∧W.cell? ⟨g,off+k*2+1,none⟩=some (.int .u64 (ps.getD k (0,0)).2)
theorem PCells.ext {W W':World} {g off:Nat} {ps:List (Nat × Int)} (h:PCells W g off ps) (hg:g < W.heap.size) (he:Ext W W'):PCells W' g off ps :=
 fun k hk=>⟨((bcell he).1 _ _ hg).trans (h k hk).1,((bcell he).1 _ _ hg).trans (h k hk).2⟩
theorem own_pieces {w:World} {base n:Nat} {e:TypeId} {v:Value} {ps:List (Nat × Int)} (h:w.ownsRow base e 2 v n (pcV ps)) (hl:0 < ps.length):∃ g cap,v=.slice (some ⟨g,0,none⟩) ps.length cap∧g < w.heap.size∧PCells w g 0 ps:=by
 obtain ⟨h1,h2⟩:=h
 have hn:n=ps.length:=by rw [pcV_len] at h1; omega
 subst hn
 obtain ⟨g,cap,cur,rfl,_,hh,hc,_,hs,ht⟩:=h2.resolve_left (fun h=>by omega)
 refine ⟨g,cap,rfl,lt_of hh,fun k hk=>?_⟩
 obtain ⟨a1,a2⟩:=pcV_at hk
 rw [← ht] at a1 a2
 rw [List.getElem?_take_of_lt (by omega)] at a1 a2
 simp only [Array.getElem?_toList] at a1 a2
 rw [cell_of hh,cell_of hh,Nat.zero_add]
 exact ⟨a1,a2⟩
set_option maxRecDepth 20000 in
set_option maxHeartbeats 1000000 in
theorem CloneP_c (c cap:Nat) (ps:List (Nat × Int)) (w:World) (h:PCells w c 0 ps) (hlt:c < w.heap.size) (hl:ps.length≤1000) :
 Calls Tryz.prog 218 #[.slice (some ⟨c,0,none⟩) ps.length cap] w fun e w'=>∃ v,e=.returned v∧w'.ownsRow w.heap.size 52 2 v ps.length (pcV ps)∧Ext w w':=by
 obtain ⟨i0,z0,hi,hz0,hz1,hz2,hzs⟩:=info_pc
 have hnil:=fun (x:World) (n k:Nat)=>Lib.run_eql_slice_nil (P:=Tryz.prog) x 62 52 (some ⟨c,0,none⟩) n k 0 0 Tryz.underlying62
 have HC:=Lib.hid h
 have HL:=Lib.hid hl
 generalize hn:ps.length=n at *
 have HN:=Lib.hid hn
 clear h hn hl
 go_enter Tryz.func218,Tryz.ntmps218
 have hown:(w.alloc (.cells #[] 52)).ownsRow w.heap.size 52 2 (.slice (some ⟨w.heap.size,0,none⟩) 0 0) 0 []:=⟨rfl,.inr ⟨w.heap.size,0,#[],rfl,Nat.le_refl _,heap_at _ _ rfl,Nat.le_refl _,Nat.zero_le _,rfl,rfl⟩⟩
 go_wp2_with (at_builtin; refine wpList_append_own _ rfl _ _ 62 rfl w.heap.size 52 i0 z0 2 16 Tryz.underlying62 hi hz0 hz1 hz2 hzs (by decide) _ _ _ rfl hown ⟨c,0,none⟩ n cap (pcV ps) rfl ?c1 ?c2 ?c3 ?c4 ?c5 ?c6 ?_)
 case c1=>rw [pcV_len,HN.out]
 case c2 =>
  intro j u hu
  obtain ⟨k,hk,⟨rfl,rfl⟩ | ⟨rfl,rfl⟩⟩:=pcV_get hu
  · rw [show (⟨c,0,none⟩:Addr).add (k*2)=⟨c,0+k*2,none⟩ by (simp [Addr.add]; try omega),World.cell?_alloc_lt _ _ _ hlt]
    exact (HC.out k hk).1
  · rw [show (⟨c,0,none⟩:Addr).add (k*2+1)=⟨c,0+k*2+1,none⟩ by (simp [Addr.add]; try omega),World.cell?_alloc_lt _ _ _ hlt]
    exact (HC.out k hk).2
 case c3 =>
  intro u hu
  obtain ⟨j,hj⟩:=List.getElem?_of_mem hu
  obtain ⟨k,hk,⟨_,rfl⟩ | ⟨_,rfl⟩⟩:=pcV_get hj <;> rfl
 case c4=>have:=HL.out; unfold maxLen; omega
 case c5=>have:=HL.out; omega
 case c6=>simp only [size_alloc]; omega
 intro v' w' h1 h2 h3
 go_wp2
 go_ret
 refine ⟨v',rfl, ?_, ?_⟩
 · exact h1
 · exact (Ext.alloc' w (.cells #[] 52)).grown h2 (by simp only [size_alloc]; omega) (by intro k hk; simp [Value.ownBlock] at hk; omega)
end Go.Proofs.YtmalncfcgcebhaaGreatDoor
namespace Go.Proofs.YtmalncfcgcebhaaGreatDoor
set_option linter.unusedVariables false
open Go.RowKit
structure CfgAt (w:World) (b:Nat) (C:Cfg):Prop where
 lt:b < w.heap.size
 c0:w.cell? ⟨b,0,none⟩=some (.int .i64 C.bits)
 c1:w.cell? ⟨b,1,none⟩=some (.int .i64 C.rows)
 c2:w.cell? ⟨b,2,none⟩=some (.int .i64 C.width)
 c3:w.cell? ⟨b,3,none⟩=some (.int .i64 C.mode)
 c4:w.cell? ⟨b,4,none⟩=some (.int .u64 C.seed)
theorem CfgAt.of {w:World} {b:Nat} {C:Cfg} {t:TypeId} (h:w.heap[b]?=some (.cells #[.int .i64 C.bits,.int .i64 C.rows,.int .i64 C.width,.int .i64 C.mode,.int .u64 C.seed] t (0,0))):CfgAt w b C :=
 ⟨lt_of h,(cell_of h 0).trans rfl,(cell_of h 1).trans rfl,(cell_of h 2).trans rfl,(cell_of h 3).trans rfl,(cell_of h 4).trans rfl⟩
theorem CfgAt.box {w:World} (C:Cfg) (t:TypeId) {n:Nat} (h:n=w.heap.size):CfgAt (w.alloc (.cells #[.int .i64 C.bits,.int .i64 C.rows,.int .i64 C.width,.int .i64 C.mode,.int .u64 C.seed] t)) n C:=CfgAt.of (t:=t) (heap_at _ _ h)
theorem CfgAt.ext {w w':World} {b:Nat} {C:Cfg} (h:CfgAt w b C) (he:Ext w w'):CfgAt w' b C :=
 have k:=(bcell he).1
 ⟨Nat.lt_of_lt_of_le h.lt he.size,(k _ _ h.lt).trans h.c0,(k _ _ h.lt).trans h.c1,(k _ _ h.lt).trans h.c2,(k _ _ h.lt).trans h.c3,(k _ _ h.lt).trans h.c4⟩
end Go.Proofs.YtmalncfcgcebhaaGreatDoor
namespace Go.Proofs.YtmalncfcgcebhaaGreatDoor
set_option linter.unusedVariables false
open Go.RowKit
set_option maxRecDepth 20000 in
theorem GPlus_c (b c b2 c2 R W:Nat) (l l2:List Int) (w:World) (h:GAt w b c R W l) (h2:GAt w b2 c2 R W l2) (hI:allI l) (hI2:allI l2) :
 Calls Tryz.prog 262 #[.pointer (some ⟨b,0,none⟩),.pointer (some ⟨b2,0,none⟩)] w (JoinPost w b c R W (plusL l l2)):=by
 go_enter Tryz.func262,Tryz.ntmps262
 go_wp2_with fail
 refine Calls.mono (allPlus_c b c b2 c2 R W l l2 w h h2 hI hI2) ?_
 rintro e w' h
 rcases h with ⟨ha,rfl,hg,hm⟩ | ⟨ha,rfl,hx⟩
 · go_wp2
   go_ret
   exact .inl ⟨ha,rfl,hg,hm⟩
 · go_wp2
   go_ret
   exact .inr ⟨ha,rfl,hx⟩
set_option maxRecDepth 20000 in
theorem GMinus_c (b c b2 c2 R W:Nat) (l l2:List Int) (w:World) (h:GAt w b c R W l) (h2:GAt w b2 c2 R W l2) (hI:allI l) (hI2:allI l2) :
 Calls Tryz.prog 264 #[.pointer (some ⟨b,0,none⟩),.pointer (some ⟨b2,0,none⟩)] w (JoinPost w b c R W (minusL l l2)):=by
 go_enter Tryz.func264,Tryz.ntmps264
 go_wp2_with fail
 refine Calls.mono (allMinus_c b c b2 c2 R W l l2 w h h2 hI hI2) ?_
 rintro e w' h
 rcases h with ⟨ha,rfl,hg,hm⟩ | ⟨ha,rfl,hx⟩
 · go_wp2
   go_ret
   exact .inl ⟨ha,rfl,hg,hm⟩
 · go_wp2
   go_ret
   exact .inr ⟨ha,rfl,hx⟩
set_option maxRecDepth 20000 in
set_option maxHeartbeats 2000000 in
theorem alike_yes (s b c s2 b2 c2:Nat) (C:Cfg) (lv:Int) (R W:Nat) (l l2:List Int) (w:World) (h:SAt w s b c C lv R W l) (h2:SAt w s2 b2 c2 C lv R W l2) :
 Calls Tryz.prog 261 #[.pointer (some ⟨s,0,none⟩),.pointer (some ⟨s2,0,none⟩)] w fun e w'=>e=.returned (.bool true)∧Ext w w':=by
 have c1:=(cell_of h.ex 1).trans rfl
 have c2:=(cell_of h.ex 2).trans rfl
 have c3:=(cell_of h.ex 3).trans rfl
 have c4:=(cell_of h.ex 4).trans rfl
 have c5:=(cell_of h.ex 5).trans rfl
 have c6:=(cell_of h.ex 6).trans rfl
 have d1:=(cell_of h2.ex 1).trans rfl
 have d2:=(cell_of h2.ex 2).trans rfl
 have d3:=(cell_of h2.ex 3).trans rfl
 have d4:=(cell_of h2.ex 4).trans rfl
 have d5:=(cell_of h2.ex 5).trans rfl
 have d6:=(cell_of h2.ex 6).trans rfl
 have l1:=h.lts
 have l2:=h2.lts
 clear h h2
 go_enter Tryz.func261,Tryz.ntmps261
 go_wp2_with fail
 refine wp_region_after (by kernel_rfl) (by kernel_rfl) ?_
 repeat (go_big_quiet_step (fail))
 refine wpQuiet_nil ?_
 rintro _ ⟨xx,rfl⟩
 obtain ⟨w1,hb1⟩:=xx
 try dsimp only
 go_wp2
 go_ret
 exact ⟨rfl,hb1⟩
inductive PartsAt (C2:Cfg) (lv2:Int) (C:Cfg) (lv:Int):Prop
 | p0 (h:(C2.bits == C.bits)=false)
 | p1 (h0:(C2.bits == C.bits)=true) (h:(C2.rows == C.rows)=false)
 | p2 (h0:(C2.bits == C.bits)=true) (h1:(C2.rows == C.rows)=true) (h:(C2.width == C.width)=false)
 | p3 (h0:(C2.bits == C.bits)=true) (h1:(C2.rows == C.rows)=true) (h2:(C2.width == C.width)=true) (h:(C2.mode == C.mode)=false)
 | p4 (h0:(C2.bits == C.bits)=true) (h1:(C2.rows == C.rows)=true) (h2:(C2.width == C.width)=true) (h3:(C2.mode == C.mode)=true) (h:(C2.seed == C.seed)=false)
 | p5 (h0:(C2.bits == C.bits)=true) (h1:(C2.rows == C.rows)=true) (h2:(C2.width == C.width)=true) (h3:(C2.mode == C.mode)=true) (h4:(C2.seed == C.seed)=true) (h:(lv2 == lv)=false)
theorem parts_or (C2:Cfg) (lv2:Int) (C:Cfg) (lv:Int):(C2=C∧lv2=lv)∨PartsAt C2 lv2 C lv:=by
 cases h0:C2.bits == C.bits with
 | false=>exact .inr (.p0 h0)
 | true =>
   cases h1:C2.rows == C.rows with
   | false=>exact .inr (.p1 h0 h1)
   | true =>
     cases h2:C2.width == C.width with
     | false=>exact .inr (.p2 h0 h1 h2)
     | true =>
       cases h3:C2.mode == C.mode with
       | false=>exact .inr (.p3 h0 h1 h2 h3)
       | true =>
         cases h4:C2.seed == C.seed with
         | false=>exact .inr (.p4 h0 h1 h2 h3 h4)
         | true =>
           cases h5:lv2 == lv with
           | false=>exact .inr (.p5 h0 h1 h2 h3 h4 h5)
           | true =>
             refine .inl ⟨?_,by simpa using h5⟩
             cases C2; cases C
             simp only [beq_iff_eq] at h0 h1 h2 h3 h4
             simp [h0,h1,h2,h3,h4]
def MergePost (w:World) (s b c:Nat) (C:Cfg) (lv:Int) (R W:Nat) (m:List Int) (e:Ending) (w':World):Prop :=
 (allI m∧e=.returned (.int .i64 0)∧SAt w' s b c C lv R W m∧Mod (fun k=>k=c) w w')∨(¬ allI m∧e=.returned (.int .i64 4)∧Ext w w')
theorem SAt.putg {w w':World} {s b c:Nat} {C:Cfg} {lv:Int} {R W:Nat} {l m:List Int} (h:SAt w s b c C lv R W l) (hg:GAt w' b c R W m) (hm:Mod (fun k=>k=c) w w') (hi:allI m):SAt w' s b c C lv R W m :=
 ⟨by rw [hm.block s h.lts h.nes]; exact h.ex,hg,h.ok,h.lo,h.hi,h.hr,h.hw,hi⟩
theorem join_ret {w w':World} {b c R W:Nat} {m:List Int} {e:Ending} (h:JoinPost w b c R W m e w'):∃ z,e=.returned (.int .i64 z)∧((z=0∧allI m∧GAt w' b c R W m∧Mod (fun k=>k=c) w w')∨(z=4∧¬ allI m∧Ext w w')):=by
 rcases h with ⟨ha,rfl,hg,hm⟩ | ⟨ha,rfl,hx⟩
 · exact ⟨_,rfl,.inl ⟨rfl,ha,hg,hm⟩⟩
 · exact ⟨_,rfl,.inr ⟨rfl,ha,hx⟩⟩
set_option maxRecDepth 20000 in
set_option maxHeartbeats 4000000 in
theorem SMerge_c (s b c s2 b2 c2:Nat) (C:Cfg) (lv:Int) (R W:Nat) (l l2:List Int) (w:World) (h:SAt w s b c C lv R W l) (h2:SAt w s2 b2 c2 C lv R W l2) :
 Calls Tryz.prog 227 #[.pointer (some ⟨s,0,none⟩),.pointer (some ⟨s2,0,none⟩)] w (MergePost w s b c C lv R W (plusL l l2)):=by
 have HH:=Lib.hid h
 go_enter Tryz.func227,Tryz.ntmps227
 go_wp2_with fail
 refine Calls.mono (alike_yes s b c s2 b2 c2 C lv R W l l2 w h h2) ?_
 rintro e w1 ⟨rfl,hx1⟩
 have h':=h.ext hx1
 have h2':=h2.ext hx1
 have c0:=(cell_of h'.ex 0).trans rfl
 have d0:=(cell_of h2'.ex 0).trans rfl
 have l1:=h'.lts
 have l2':=h2'.lts
 clear h h2
 go_wp2_with fail
 have hC0:=af_drew w1
 have hG1:=h'.g.ext (Below.drew (Ext.refl w1))
 have hG2:=h2'.g.ext (Below.drew (Ext.refl w1))
 refine pi_start (fun w'=>∃ x:After w1,w'=x.w) [10] (by kernel_rfl) ?_
 refine pi_t 0 rfl (by kernel_rfl) (by kernel_rfl) (fun _ _ _ _ h=>h) (fun K hK=>?_)
 go_big_quiet_op
 refine hK _ ?_
 clear hK K
 refine pi_t 1 rfl (by kernel_rfl) (by kernel_rfl) (fun _ _ _ _ h=>h) (fun K hK=>?_)
 go_big_quiet_op
 refine hK _ ?_
 clear hK K
 refine pi_t 2 rfl (by kernel_rfl) (by kernel_rfl) (fun _ _ _ _ h=>h) (fun K hK=>?_)
 go_big_quiet_op
 refine hK _ ?_
 clear hK K
 refine pi_t 3 rfl (by kernel_rfl) (by kernel_rfl) (fun _ _ _ _ h=>h) (fun K hK=>?_)
 go_big_quiet_op
 refine hK _ ?_
 clear hK K
 refine pi_c 4 (by assumption) rfl (by kernel_rfl) (by kernel_rfl) (fun _ _ _ _ h=>h) (fun K hK=>?_)
 go_big_quiet_op
 refine hK _ ?_
 clear hK K
 refine pi_t 5 rfl (by kernel_rfl) (by kernel_rfl) (fun _ _ _ _ h=>h) (fun K hK=>?_)
 go_big_quiet_op
 refine hK _ ?_
 clear hK K
 refine pi_t 6 rfl (by kernel_rfl) (by kernel_rfl) (fun _ _ _ _ h=>h) (fun K hK=>?_)
 go_big_quiet_op
 refine hK _ ?_
 clear hK K
 refine pi_t 7 rfl (by kernel_rfl) (by kernel_rfl) (fun _ _ _ _ h=>h) (fun K hK=>?_)
 go_big_quiet_op
 refine hK _ ?_
 clear hK K
 refine pi_t 8 rfl (by kernel_rfl) (by kernel_rfl) (fun _ _ _ _ h=>h) (fun K hK=>?_)
 go_big_quiet_op
 refine hK _ ?_
 clear hK K
 refine pi_c 9 (by assumption) rfl (by kernel_rfl) (by kernel_rfl) (fun _ _ _ _ h=>h) (fun K hK=>?_)
 go_big_quiet_op
 refine hK _ ?_
 clear hK K
 refine pi_l 10 rfl (by kernel_rfl) (fun K hK=>?_)
 go_wp2_with (go_at_call 262; refine Calls.mono (GPlus_c b c b2 c2 R W l l2 _ hG1 hG2 h'.fit h2'.fit) ?_; intro e w2 hr0; obtain ⟨z,rfl,hr⟩:=join_ret hr0)
 refine hK _ _ (by simp) ?_
 clear hK K
 refine pi_t 11 rfl (by kernel_rfl) (by kernel_rfl) (fun _ _ _ _ h=>h) (fun K hK=>?_)
 go_big_quiet_op
 refine hK _ ?_
 clear hK K
 refine pi_end (by kernel_rfl) ?_
 go_wp2
 go_ret
 have hx2:Ext w w1.drew:=Below.drew hx1
 rcases hr with ⟨rfl,ha,hg,hm⟩ | ⟨rfl,ha,hx⟩
 · have hm':Mod (fun k=>k=c) w w2:=(hx2.mod _).trans hm
   exact .inl ⟨ha,rfl,HH.out.putg hg hm' ha,hm'⟩
 · exact .inr ⟨ha,rfl,hx2.trans' hx⟩
set_option maxRecDepth 20000 in
set_option maxHeartbeats 4000000 in
theorem SSubtract_c (s b c s2 b2 c2:Nat) (C:Cfg) (lv:Int) (R W:Nat) (l l2:List Int) (w:World) (h:SAt w s b c C lv R W l) (h2:SAt w s2 b2 c2 C lv R W l2) (hm:C.mode≠2) :
 Calls Tryz.prog 229 #[.pointer (some ⟨s,0,none⟩),.pointer (some ⟨s2,0,none⟩)] w (MergePost w s b c C lv R W (minusL l l2)):=by
 have HH:=Lib.hid h
 have hmb:(C.mode == 2)=false:=by simpa using hm
 clear hm
 go_enter Tryz.func229,Tryz.ntmps229
 go_wp2_with fail
 refine Calls.mono (alike_yes s b c s2 b2 c2 C lv R W l l2 w h h2) ?_
 rintro e w1 ⟨rfl,hx1⟩
 have h':=h.ext hx1
 have h2':=h2.ext hx1
 have c0:=(cell_of h'.ex 0).trans rfl
 have c4:=(cell_of h'.ex 4).trans rfl
 have d0:=(cell_of h2'.ex 0).trans rfl
 have l1:=h'.lts
 have l2':=h2'.lts
 clear h h2
 go_wp2_with fail
 have hC0:=af_drew w1
 have hG1:=h'.g.ext (Below.drew (Ext.refl w1))
 have hG2:=h2'.g.ext (Below.drew (Ext.refl w1))
 refine pi_start (fun w'=>∃ x:After w1,w'=x.w) [10] (by kernel_rfl) ?_
 refine pi_t 0 rfl (by kernel_rfl) (by kernel_rfl) (fun _ _ _ _ h=>h) (fun K hK=>?_)
 go_big_quiet_op
 refine hK _ ?_
 clear hK K
 refine pi_t 1 rfl (by kernel_rfl) (by kernel_rfl) (fun _ _ _ _ h=>h) (fun K hK=>?_)
 go_big_quiet_op
 refine hK _ ?_
 clear hK K
 refine pi_t 2 rfl (by kernel_rfl) (by kernel_rfl) (fun _ _ _ _ h=>h) (fun K hK=>?_)
 go_big_quiet_op
 refine hK _ ?_
 clear hK K
 refine pi_t 3 rfl (by kernel_rfl) (by kernel_rfl) (fun _ _ _ _ h=>h) (fun K hK=>?_)
 go_big_quiet_op
 refine hK _ ?_
 clear hK K
 refine pi_c 4 (by assumption) rfl (by kernel_rfl) (by kernel_rfl) (fun _ _ _ _ h=>h) (fun K hK=>?_)
 go_big_quiet_op
 refine hK _ ?_
 clear hK K
 refine pi_t 5 rfl (by kernel_rfl) (by kernel_rfl) (fun _ _ _ _ h=>h) (fun K hK=>?_)
 go_big_quiet_op
 refine hK _ ?_
 clear hK K
 refine pi_t 6 rfl (by kernel_rfl) (by kernel_rfl) (fun _ _ _ _ h=>h) (fun K hK=>?_)
 go_big_quiet_op
 refine hK _ ?_
 clear hK K
 refine pi_t 7 rfl (by kernel_rfl) (by kernel_rfl) (fun _ _ _ _ h=>h) (fun K hK=>?_)
 go_big_quiet_op
 refine hK _ ?_
 clear hK K
 refine pi_t 8 rfl (by kernel_rfl) (by kernel_rfl) (fun _ _ _ _ h=>h) (fun K hK=>?_)
 go_big_quiet_op
 refine hK _ ?_
 clear hK K
 refine pi_c 9 (by assumption) rfl (by kernel_rfl) (by kernel_rfl) (fun _ _ _ _ h=>h) (fun K hK=>?_)
 go_big_quiet_op
 refine hK _ ?_
 clear hK K
 refine pi_l 10 rfl (by kernel_rfl) (fun K hK=>?_)
 go_wp2_with (go_at_call 264; refine Calls.mono (GMinus_c b c b2 c2 R W l l2 _ hG1 hG2 h'.fit h2'.fit) ?_; intro e w2 hr0; obtain ⟨z,rfl,hr⟩:=join_ret hr0)
 refine hK _ _ (by simp) ?_
 clear hK K
 refine pi_t 11 rfl (by kernel_rfl) (by kernel_rfl) (fun _ _ _ _ h=>h) (fun K hK=>?_)
 go_big_quiet_op
 refine hK _ ?_
 clear hK K
 refine pi_end (by kernel_rfl) ?_
 go_wp2
 go_ret
 have hx2:Ext w w1.drew:=Below.drew hx1
 rcases hr with ⟨rfl,ha,hg,hm⟩ | ⟨rfl,ha,hx⟩
 · have hm':Mod (fun k=>k=c) w w2:=(hx2.mod _).trans hm
   exact .inl ⟨ha,rfl,HH.out.putg hg hm' ha,hm'⟩
 · exact .inr ⟨ha,rfl,hx2.trans' hx⟩
end Go.Proofs.YtmalncfcgcebhaaGreatDoor
namespace Go.Proofs.YtmalncfcgcebhaaGreatDoor
set_option linter.unusedVariables false
open Go.RowKit
section
variable {P:Program} {w:World}
theorem run_append_zero (base:Nat) (t ty e:TypeId) (i:TypeInfo) (size:Nat) (ht:P.underlying t=some (.slice e)) (hi:P.info? e=some i)
 (v:Value) (n:Nat) (xs:List Value) (hown:w.ownsRow base e size v n xs) (p:Option Addr) (c:Nat) :
 (Builtin.append_ #[t,t] ty #[v,.slice p 0 c]).run P w=.ok v w:=by
 rcases hown.2 with ⟨rfl,rfl⟩ | ⟨g,cap,cur,rfl,_,_,hnc,_⟩
 · cases p <;> simp [Builtin.append_,run_underlying ht,sizeOf,typeInfo,hi,Builtin.lenOf,Builtin.firstCells,loadCells,loadCellsFrom]
 · cases p <;> simp [Builtin.append_,run_underlying ht,sizeOf,typeInfo,hi,Builtin.lenOf,Builtin.firstCells,loadCells,loadCellsFrom,hnc,storeCells]
theorem wpList_append_zero {ops:Array Oper} {rest:List Oper} {o:Oper} {a:Act} {Q:Exit→Act→World→Prop} (hgd:o.guard=none) (s x:Operand) (t:TypeId)
 (ho:o.op=.call { callee:=.builtin .append,args:=#[s,x],argTypes:=#[t,t] })
 (base:Nat) (e:TypeId) (i:TypeInfo) (size:Nat) (ht:P.underlying t=some (.slice e)) (hi:P.info? e=some i)
 (v:Value) (n:Nat) (xs:List Value) (hs:a.eval s=v) (hown:w.ownsRow base e size v n xs) (p:Option Addr) (c:Nat) (hx:a.eval x=.slice p 0 c)
 (h:wpList P ops Q rest (a.put o.dst v) w):wpList P ops Q (o :: rest) a w:=by
 refine wpList_plain hgd fun K hK=>?_
 have hrun:=run_append_zero (P:=P) (w:=w) base t o.type e i size ht hi v n xs hown p c
 unfold Oper.wp
 simp [execOp,ho,resolve,invoke,builtin,hs,hx,hrun,Result.andThen]
 exact hK _ _ h
end
structure Aft (c:Nat) (W:World) where
 w:World
 h:Mod (fun i=>i=c) W w
instance (c:Nat) (W:World):Nonempty (Aft c W):=⟨⟨W,Mod.refl _ W⟩⟩
@[go_sem] theorem Aft.cell {c:Nat} {W:World} (x:Aft c W) {b o:Nat} (h:b < W.heap.size) (hn:b≠c):x.w.cell? ⟨b,o,none⟩=W.cell? ⟨b,o,none⟩:=mcell x.h h hn o
theorem aft_drew (c:Nat) (W:World):∃ x:Aft c W,W.drew=x.w:=⟨⟨_,Ext.mod _ (Below.drew (Ext.refl W))⟩,rfl⟩
theorem mod_put' {w w':World} {g j:Nat} (h:Mod (fun i=>i=g) w w') (u:Value):Mod (fun i=>i=g) w (w'.setCell ⟨g,j,none⟩ u) :=
 ⟨h.os,h.tape,h.output,by rw [size_setCell]; exact h.size,fun k hk hn=>(setCell_other _ _ hn).trans (h.block k hk hn)⟩
theorem aft_put {c:Nat} {W w:World} {o:Nat} (h:∃ x:Aft c W,w=x.w) (u:Value):∃ x:Aft c W,w.setCell ⟨c,o,none⟩ u=x.w:=by
 obtain ⟨x,rfl⟩:=h
 exact ⟨⟨_,mod_put' x.h u⟩,rfl⟩
theorem Put_i (b c R W:Nat) (l:List Int) (w:World) (h:GAt w b c R W l) (rI kI:Int) (r k:Nat) (hrI:rI=r) (hkI:kI=k) (hr:r < R) (hk:k < W) (n:Int) :
 Calls Tryz.prog 321 #[.pointer (some ⟨b,0,none⟩),.int .i64 rI,.int .i64 kI,.int .i64 n] w fun e w'=>e=.returned (.bool true)∧w.setCell ⟨c,r*W+k,none⟩ (.int .i64 n)=w':=by
 subst hrI hkI
 exact Put_c b c R W l w h r k hr hk n
theorem SAt.setl {w:World} {s b c:Nat} {C:Cfg} {lv:Int} {R W:Nat} {l:List Int} (h:SAt w s b c C lv R W l) {i:Nat} (hi:i < l.length) {n:Int} (hn:I64 n):SAt (w.setCell ⟨c,i,none⟩ (.int .i64 n)) s b c C lv R W (l.set i n) :=
 ⟨by rw [setCell_other _ _ h.nes]; exact h.ex,h.g.set hi n,h.ok,h.lo,h.hi,h.hr,h.hw,fun x hx=>by
  rcases List.mem_or_eq_of_mem_set hx with h1 | h1
  · exact h.fit x h1
  · rw [h1]; exact hn⟩
set_option maxRecDepth 20000 in
set_option maxHeartbeats 4000000 in
theorem Load_yes (s b c:Nat) (C:Cfg) (lv:Int) (R W:Nat) (l m:List Int) (v:Value) (w:World) (h:SAt w s b c C lv R W l) (hv:IntsAt w v m) (hI:allI m) (hl:m.length=R*W)
 (hne:∀ g off n cap,v=.slice (some ⟨g,off,none⟩) n cap→g≠c) :
 Calls Tryz.prog 324 #[.pointer (some ⟨s,0,none⟩),v] w fun e w'=>e=.returned (.bool true)∧SAt w' s b c C lv R W m∧Mod (fun k=>k=c) w w':=by
 have hN1:1≤R*W:=Nat.mul_pos h.g.r1 h.g.w1
 have hN2:R*W≤1024:=Nat.le_trans (Nat.mul_le_mul h.g.r2 h.g.w2) (by decide)
 obtain ⟨vg,vo,vcap,rfl,hvl,hvc⟩:=hv.slice (by rw [hl]; omega)
 have hgc:vg≠c:=hne _ _ _ _ rfl
 have hLl:=h.g.len
 have hp0:C.rows*C.width=((R*W:Nat):Int):=by rw [h.hr,h.hw]; simp
 have hW1:=h.g.w1
 have hR1:=h.g.r1
 have hdiv:∀ k,k < R*W→k / W < R∧k % W < W∧k / W*W+k % W=k:=by
  intro k hk
  refine ⟨Nat.div_lt_of_lt_mul (by rw [Nat.mul_comm]; exact hk),Nat.mod_lt _ hW1, ?_⟩
  have:=Nat.div_add_mod k W; rw [Nat.mul_comm] at this; exact this
 rw [hl] at hvc ⊢
 generalize R*W=N at *
 have hp1:0≤C.rows*C.width:=by rw [hp0]; omega
 have hp2:C.rows*C.width≤1024:=by rw [hp0]; omega
 have hpt:((N:Int) != C.rows*C.width)=false:=by rw [hp0]; simp
 have c1:=(cell_of h.ex 2).trans rfl
 have c2:=(cell_of h.ex 3).trans rfl
 have lts:=h.lts
 have HH:=Lib.hid h
 have HVC:=Lib.hid hvc
 have HL:=Lib.hid hl
 have HLL:=Lib.hid hLl
 have HD:=Lib.hid hdiv
 have HW:=Lib.hid h.hw
 clear h hv hl hne hvc hLl hp0 hdiv
 go_enter Tryz.func324,Tryz.ntmps324
 go_wp2_with fail
 refine wp_region_after (by kernel_rfl) (by kernel_rfl) ?_
 repeat (go_big_quiet_step (fail))
 refine wpQuiet_nil ?_
 rintro _ ⟨xx,rfl⟩
 obtain ⟨w1,hb1⟩:=xx
 try dsimp only
 have hS1:=HH.out.ext hb1
 have hlt':vg < w1.heap.size:=Nat.lt_of_lt_of_le hvl hb1.size
 have hsz1:=hb1.size
 clear c1 c2 hpt hp1 hp2
 go_wp2_with fail
 go_loopw [23] (fun u23 wr=>∃ k:Nat,k≤N∧u23=.int .i64 k∧SAt wr s b c C lv R W (mixL (fun j=>m.getD j 0) (fun j=>l.getD j 0) k N)∧Mod (fun i=>i=c) w1 wr) (fun u23 _=>N - (intOf u23).toNat)
 case atStart =>
  refine ⟨0,Nat.zero_le _,rfl, ?_,Mod.refl _ _⟩
  have e:mixL (fun j=>m.getD j 0) (fun j=>l.getD j 0) 0 N=l:=by
   apply list_ext_getD
   · rw [mixL_len,HLL.out]
   · intro i hi
     rw [mixL_len] at hi
     rw [mixL_get _ _ hi,if_neg (by omega)]
  rw [e]; exact hS1
 case round =>
  obtain ⟨k,hk,rfl,hSr,hM⟩:=hrel
  have hMs:=hM.size
  by_cases hgo:k < N
  · have x0:=(mcell hM (b:=vg) hlt' hgc (vo+k)).trans (((bcell hb1).1 _ _ hvl).trans (HVC.out k hgo))
    have c0:=(cell_of hSr.ex 0).trans rfl
    have c2:=(cell_of hSr.ex 3).trans (show _=some (Value.int .i64 (W:Int)) by rw [← HW.out]; rfl)
    obtain ⟨dv1,dv2,dv3⟩:=HD.out k hgo
    have lr:=hSr.lts
    have hlr:vg < wr.heap.size:=by omega
    have hxi:I64 (m.getD k 0):=getD_i64 hI k
    have hms:=mixL_set (fun j=>m.getD j 0) (fun j=>l.getD j 0) (k:=k) (n:=N)
    have HMS:=Lib.hid hms
    have HSR:=Lib.hid hSr
    have HDV:=Lib.hid dv3
    have hsc:=HSR.out.nes
    have hq:(k:Int) / (W:Int)=((k / W:Nat):Int):=by simp
    have hqk:k / W≤k:=Nat.div_le_self _ _
    have hq1:0≤(k:Int) / (W:Int):=by rw [hq]; exact Int.natCast_nonneg _
    have h9:k / W≤1024:=Nat.le_trans hqk (by omega)
    have hq2:(k:Int) / (W:Int)≤1024:=by rw [hq]; exact_mod_cast h9
    clear hq
    have hw0:((W:Int) == 0)=false:=by simp; omega
    have hw1:(W=0)=False:=by simp; omega
    clear hms hSr dv3
    generalize hx:m.getD k 0=x at *
    have HX:=Lib.hid hx
    clear hx
    go_wp2_with fail
    have hC0:=aft_drew c wr
    have hG:=HSR.out.g.ext (Below.drew (Ext.refl wr))
    refine pi_start (fun w'=>∃ x:Aft c wr,w'=x.w) [] (by kernel_rfl) ?_
    refine pi_t 0 rfl (by kernel_rfl) (by kernel_rfl) (fun _ _ _ _ h=>h) (fun K hK=>?_)
    go_big_quiet_op
    refine hK _ ?_
    clear hK K
    refine pi_t 1 rfl (by kernel_rfl) (by kernel_rfl) (fun _ _ _ _ h=>h) (fun K hK=>?_)
    go_big_quiet_op
    refine hK _ ?_
    clear hK K
    refine pi_t 2 rfl (by kernel_rfl) (by kernel_rfl) (fun _ _ _ _ h=>h) (fun K hK=>?_)
    go_big_quiet_op
    refine hK _ ?_
    clear hK K
    refine pi_t 3 rfl (by kernel_rfl) (by kernel_rfl) (fun _ _ _ _ h=>h) (fun K hK=>?_)
    go_big_quiet_op
    refine hK _ ?_
    clear hK K
    refine pi_c 4 (by assumption) rfl (by kernel_rfl) (by kernel_rfl) (fun _ _ _ _ h=>h) (fun K hK=>?_)
    go_big_quiet_op
    refine hK _ ?_
    clear hK K
    refine pi_t 5 rfl (by kernel_rfl) (by kernel_rfl) (fun _ _ _ _ h=>h) (fun K hK=>?_)
    go_big_quiet_op
    refine hK _ ?_
    clear hK K
    refine pi_t 6 rfl (by kernel_rfl) (by kernel_rfl) (fun _ _ _ _ h=>h) (fun K hK=>?_)
    go_big_quiet_op
    refine hK _ ?_
    clear hK K
    refine pi_t 7 rfl (by kernel_rfl) (by kernel_rfl) (fun _ _ _ _ h=>h) (fun K hK=>?_)
    go_big_quiet_op
    refine hK _ ?_
    clear hK K
    refine pi_t 8 rfl (by kernel_rfl) (by kernel_rfl) (fun _ _ _ _ h=>h) (fun K hK=>?_)
    go_big_quiet_op
    refine hK _ ?_
    clear hK K
    refine pi_t 9 rfl (by kernel_rfl) (by kernel_rfl) (fun _ _ _ _ h=>h) (fun K hK=>?_)
    go_big_quiet_op
    refine hK _ ?_
    clear hK K
    refine pi_c 10 (by assumption) rfl (by kernel_rfl) (by kernel_rfl) (fun _ _ _ _ h=>h) (fun K hK=>?_)
    go_big_quiet_op
    refine hK _ ?_
    clear hK K
    refine pi_t 11 rfl (by kernel_rfl) (by kernel_rfl) (fun _ _ _ _ h=>h) (fun K hK=>?_)
    go_big_quiet_op
    refine hK _ ?_
    clear hK K
    refine pi_t 12 rfl (by kernel_rfl) (by kernel_rfl) (fun _ _ _ _ h=>h) (fun K hK=>?_)
    go_big_quiet_op
    refine hK _ ?_
    clear hK K
    refine pi_t 13 rfl (by kernel_rfl) (by kernel_rfl) (fun _ _ _ _ h=>h) (fun K hK=>?_)
    go_big_quiet_op
    refine hK _ ?_
    clear hK K
    refine pi_t 14 rfl (by kernel_rfl) (by kernel_rfl) (fun _ _ _ _ h=>h) (fun K hK=>?_)
    go_big_quiet_op
    refine hK _ ?_
    clear hK K
    refine pi_t 15 rfl (by kernel_rfl) (by kernel_rfl) (fun _ _ _ _ h=>h) (fun K hK=>?_)
    go_big_quiet_op
    refine hK _ ?_
    clear hK K
    refine pi_t 16 rfl (by kernel_rfl) (by kernel_rfl) (fun _ _ _ _ h=>h) (fun K hK=>?_)
    go_big_quiet_op
    refine hK _ ?_
    clear hK K
    refine pi_c 17 (by assumption) rfl (by kernel_rfl) (by kernel_rfl) (fun _ _ _ _ h=>h) (fun K hK=>?_)
    go_big_quiet_op
    refine hK _ ?_
    clear hK K
    refine pi_t 18 rfl (by kernel_rfl) (by kernel_rfl) (fun _ _ _ _ h=>h) (fun K hK=>?_)
    go_big_quiet_op
    refine hK _ ?_
    clear hK K
    refine pi_t 19 rfl (by kernel_rfl) (by kernel_rfl) (fun _ _ _ _ h=>h) (fun K hK=>?_)
    go_big_quiet_op
    refine hK _ ?_
    clear hK K
    refine pi_l 20 rfl (by kernel_rfl) (fun K hK=>?_)
    go_wp2_with (go_at_call 321; refine (Put_i b c R W _ _ hG _ _ (k / W) (k % W) (by simp) (by simp) dv1 dv2 x).mono ?_; rintro e w' ⟨rfl,rfl⟩)
    refine hK _ _ (fun _ h=>aft_put h _) ?_
    clear hK K
    refine pi_end (by kernel_rfl) ?_
    rw [HDV.out]
    go_wp2
    go_roundw
    case rel =>
     refine ⟨k+1,by omega,by go_num, ?_, ?_⟩
     · rw [← HMS.out]
       exact (HSR.out.setl (by rw [mixL_len]; exact hgo) hxi).ext (Below.drew (Ext.refl _))
     · exact (mod_put' hM _).trans (Ext.mod _ (Below.drew (Ext.refl _)))
    case measure=>simp [intOf]; omega
  · obtain rfl:k=N:=by omega
    have e:mixL (fun j=>m.getD j 0) (fun j=>l.getD j 0) k k=m:=by
     apply list_ext_getD
     · rw [mixL_len,HL.out]
     · intro i hi
       rw [mixL_len] at hi
       rw [mixL_get _ _ hi,if_pos hi]
    rw [e] at hSr
    have HSR:=Lib.hid hSr
    clear hSr e
    go_wp2
    go_ret
    exact ⟨rfl,HSR.out,(hb1.mod _).trans hM⟩
end Go.Proofs.YtmalncfcgcebhaaGreatDoor
namespace Go.Proofs.YtmalncfcgcebhaaGreatDoor
set_option linter.unusedVariables false
open Go.RowKit
def isX (C:Cfg) (lv:Int):Bool:=decide (keys C lv≤C.width)
def kN (C:Cfg) (lv:Int):Nat:=(keys C lv).toNat
theorem kN_eq {C:Cfg} (h:C.Ok) {lv:Int} (h0:0≤lv):keys C lv=(kN C lv:Int):=by
 have:=(keys_bd C h lv h0).1
 unfold kN; omega
set_option maxRecDepth 20000 in
set_option maxHeartbeats 2000000 in
theorem Exact_c (C:Cfg) (h:C.Ok) (lv:Int) (h0:0≤lv) (h1:lv≤C.bits) (w:World) :
 Calls Tryz.prog 105 #[.agg #[.int .i64 C.bits,.int .i64 C.rows,.int .i64 C.width,.int .i64 C.mode,.int .u64 C.seed],.int .i64 lv] w fun e w'=>e=.returned (.bool (isX C lv))∧Ext w w':=by
 have hk:=keys_bd C h lv h0
 have w1':=h.w1
 have w2':=h.w2
 have hI:isX C lv=decide (keys C lv≤C.width):=rfl
 go_enter Tryz.func105,Tryz.ntmps105
 go_wp2_with fail
 refine (Keys_c C h lv h0 h1 _).mono ?_
 rintro e w1 ⟨rfl,hb⟩
 have hE:Ext w w1:=by (repeat' (first | exact Ext.refl _ | assumption | apply Ext.allocR | apply Ext.drewR | apply Ext.drewNR | (refine Ext.trans' ?_ (by assumption))))
 have hC:=(CfgAt.box (w:=w) C 24 rfl).ext hb
 have c2:=hC.c2
 have cl:=hC.lt
 have HI:=Lib.hid hI
 generalize keys C lv=N at *
 clear hb hI hC
 by_cases hx:N≤C.width
 · go_wp2
   go_ret
   exact ⟨by rw [HI.out,decide_eq_true hx]; rfl,hE⟩
 · go_wp2
   go_ret
   exact ⟨by rw [HI.out,decide_eq_false (by omega)]; rfl,hE⟩
structure EAt (w:World) (s b c:Nat) (C:Cfg) (lv:Int) (K:Nat) (l:List Int):Prop where
 ex:w.heap[s]?=some (.cells #[.int .i64 C.bits,.int .i64 C.rows,.int .i64 C.width,.int .i64 C.mode,.int .u64 C.seed,.int .i64 lv,.pointer (some ⟨b,0,none⟩)] 310 (0,0))
 g:GAt w b c 1 K l
 ok:C.Ok
 lo:0≤lv
 hi:lv≤C.bits
 hk:keys C lv=K
 fit:∀ x∈l,I64 x
theorem EAt.lts {w:World} {s b c:Nat} {C:Cfg} {lv:Int} {K:Nat} {l:List Int} (h:EAt w s b c C lv K l):s < w.heap.size:=lt_of h.ex
theorem EAt.keep {w w':World} {s b c:Nat} {C:Cfg} {lv:Int} {K:Nat} {l:List Int} (h:EAt w s b c C lv K l) (hs:w'.heap[s]?=w.heap[s]?) (hb:w'.heap[b]?=w.heap[b]?) (hc:w'.heap[c]?=w.heap[c]?):EAt w' s b c C lv K l :=
 ⟨by rw [hs]; exact h.ex,h.g.keep hb hc,h.ok,h.lo,h.hi,h.hk,h.fit⟩
theorem EAt.ext {w w':World} {s b c:Nat} {C:Cfg} {lv:Int} {K:Nat} {l:List Int} (h:EAt w s b c C lv K l) (he:Ext w w'):EAt w' s b c C lv K l :=
 h.keep (he.block s h.lts) (he.block b h.g.ltb) (he.block c h.g.ltc)
theorem EAt.nes {w:World} {s b c:Nat} {C:Cfg} {lv:Int} {K:Nat} {l:List Int} (h:EAt w s b c C lv K l):s≠c:=by
 intro e
 obtain ⟨cap,h1,h2⟩:=h.g.ex
 obtain ⟨cur,h3,_⟩:=h2.ex
 have:=h.ex
 rw [e,h3] at this
 simp at this
theorem EAt.len {w:World} {s b c:Nat} {C:Cfg} {lv:Int} {K:Nat} {l:List Int} (h:EAt w s b c C lv K l):l.length=K:=by
 rw [h.g.len,Nat.one_mul]
def ENewPost (w:World) (C:Cfg) (lv:Int) (N:Nat) (e:Ending) (w':World):Prop :=
 ∃ s b c,e=.returned (.tuple #[.pointer (some ⟨s,0,none⟩),.int .i64 0])∧EAt w' s b c C lv N (zs N)∧w.heap.size≤s∧w.heap.size≤b∧w.heap.size≤c∧Ext w w'
set_option maxRecDepth 20000 in
set_option maxHeartbeats 2000000 in
theorem ENew_c (C:Cfg) (h:C.Ok) (lv:Int) (h0:0≤lv) (h1:lv≤C.bits) (N:Nat) (hN:keys C lv=N) (hx:isX C lv=true) (w:World) :
 Calls Tryz.prog 149 #[.agg #[.int .i64 C.bits,.int .i64 C.rows,.int .i64 C.width,.int .i64 C.mode,.int .u64 C.seed],.int .i64 lv] w (ENewPost w C lv N):=by
 have hk:=keys_bd C h lv h0
 have w2':=h.w2
 have hx':keys C lv≤C.width:=by simpa [isX] using hx
 have HX:=Lib.hid hx
 have HN:=Lib.hid hN
 rw [hN] at hk hx'
 clear hx hN
 go_enter Tryz.func149,Tryz.ntmps149
 go_wp2_with fail
 refine (Exact_c C h lv h0 h1 _).mono ?_
 rintro e w1 ⟨rfl,hb⟩
 rw [HX.out]
 have hE:Ext w w1:=by (repeat' (first | exact Ext.refl _ | assumption | apply Ext.allocR | apply Ext.drewR | apply Ext.drewNR | (refine Ext.trans' ?_ (by assumption))))
 have hC:=(CfgAt.box (w:=w) C 24 rfl).ext hb
 have d0:=hC.c0
 have d1:=hC.c1
 have d2:=hC.c2
 have d3:=hC.c3
 have d4:=hC.c4
 have cl:=hC.lt
 clear hb hC
 go_wp2
 have hC0:=af_drew w1
 refine pi_start (fun w'=>∃ x:After w1,w'=x.w) [] (by kernel_rfl) ?_
 refine pi_t 1 rfl (by kernel_rfl) (by kernel_rfl) (fun _ _ _ _ h=>h) (fun K hK=>?_)
 go_big_quiet_op
 refine hK _ ?_
 clear hK K
 refine pi_t 3 rfl (by kernel_rfl) (by kernel_rfl) (fun _ _ _ _ h=>h) (fun K hK=>?_)
 go_big_quiet_op
 refine hK _ ?_
 clear hK K
 refine pi_c 0 (by assumption) rfl (by kernel_rfl) (by kernel_rfl) (fun _ _ _ _ h=>h) (fun K hK=>?_)
 go_big_quiet_op
 refine hK _ ?_
 clear hK K
 refine pi_c 2 (by assumption) rfl (by kernel_rfl) (by kernel_rfl) (fun _ _ _ _ h=>h) (fun K hK=>?_)
 go_big_quiet_op
 refine hK _ ?_
 clear hK K
 refine pi_l 4 rfl (by kernel_rfl) (fun K hK=>?_)
 go_wp2_with (go_at_call 61; refine (Keys_c C h lv h0 h1 _).mono ?_; rintro e w2 ⟨rfl,hx2⟩)
 refine hK _ _ (fun _ h=>af_step h hx2) ?_
 clear hK K
 rw [HN.out]
 refine pi_t 5 rfl (by kernel_rfl) (by kernel_rfl) (fun _ _ _ _ h=>h) (fun K hK=>?_)
 go_big_quiet_op
 refine hK _ ?_
 clear hK K
 refine pi_l 6 rfl (by kernel_rfl) (fun K hK=>?_)
 go_wp2_with (go_at_call 189; refine (GNew_c 1 N _ (by decide) (by decide) (by omega) (by omega)).mono ?_; rintro e w3 ⟨gb,gc,rfl,hG,hgb,hgc,hx3⟩)
 refine hK _ _ (fun _ h=>af_step h hx3) ?_
 clear hK K
 refine pi_t 7 rfl (by kernel_rfl) (by kernel_rfl) (fun _ _ _ _ h=>h) (fun K hK=>?_)
 go_big_quiet_op
 refine hK _ ?_
 clear hK K
 refine pi_l 8 rfl (by kernel_rfl) (fun K hK=>?_)
 go_wp2
 refine hK _ _ (fun _ h=>af_step h (Ext.alloc' _ _)) ?_
 clear hK K
 refine pi_t 9 rfl (by kernel_rfl) (by kernel_rfl) (fun _ _ _ _ h=>h) (fun K hK=>?_)
 go_big_quiet_op
 refine hK _ ?_
 clear hK K
 refine pi_t 10 rfl (by kernel_rfl) (by kernel_rfl) (fun _ _ _ _ h=>h) (fun K hK=>?_)
 go_big_quiet_op
 refine hK _ ?_
 clear hK K
 refine pi_end (by kernel_rfl) ?_
 go_wp2
 go_ret2
 have hx2':Ext w1 w2:=Ext.trans' (Below.drew (Ext.refl w1)) hx2
 have hs2:=hx2'.size
 have hs3:=hx3.size
 have hs1:=hE.size
 rw [Nat.one_mul] at hG
 refine ⟨w3.heap.size,gb,gc,rfl,⟨?_,hG.keep (heap_old _ _ hG.ltb) (heap_old _ _ hG.ltc),h,h0,h1,HN.out, ?_⟩,by omega,by omega,by omega,by (repeat' (first | exact Ext.refl _ | assumption | apply Ext.allocR | apply Ext.drewR | apply Ext.drewNR | (refine Ext.trans' ?_ (by assumption))))⟩
 · rw [heap_at _ _ rfl]
 · intro x hx
   simp only [zs,List.mem_replicate] at hx
   rw [hx.2]
   unfold I64; omega
end Go.Proofs.YtmalncfcgcebhaaGreatDoor
namespace Go.Proofs.YtmalncfcgcebhaaGreatDoor
set_option linter.unusedVariables false
open Go.RowKit
theorem EConfig_c (s b c:Nat) (C:Cfg) (lv:Int) (N:Nat) (l:List Int) (w:World) (h:EAt w s b c C lv N l) :
 Calls Tryz.prog 223 #[.pointer (some ⟨s,0,none⟩)] w fun e w'=>e=.returned (.agg #[.int .i64 C.bits,.int .i64 C.rows,.int .i64 C.width,.int .i64 C.mode,.int .u64 C.seed])∧Ext w w':=by
 have c0:=(cell_of h.ex 0).trans rfl
 have c1:=(cell_of h.ex 1).trans rfl
 have c2:=(cell_of h.ex 2).trans rfl
 have c3:=(cell_of h.ex 3).trans rfl
 have c4:=(cell_of h.ex 4).trans rfl
 have hlt:=h.lts
 clear h
 go_enter Tryz.func223,Tryz.ntmps223
 go_wp2
 exact bodyPost_ret (v:=.agg #[.int .i64 C.bits,.int .i64 C.rows,.int .i64 C.width,.int .i64 C.mode,.int .u64 C.seed]) (by simp [results,Tryz.results223,go_sem]) rfl ⟨rfl,by (repeat' (first | exact Ext.refl _ | assumption | apply Ext.allocR | apply Ext.drewR | apply Ext.drewNR | (refine Ext.trans' ?_ (by assumption))))⟩
theorem ELevel_c (s b c:Nat) (C:Cfg) (lv:Int) (N:Nat) (l:List Int) (w:World) (h:EAt w s b c C lv N l) :
 Calls Tryz.prog 224 #[.pointer (some ⟨s,0,none⟩)] w fun e w'=>e=.returned (.int .i64 lv)∧w=w':=by
 have c5:=(cell_of h.ex 5).trans rfl
 have hlt:=h.lts
 clear h
 go_enter Tryz.func224,Tryz.ntmps224
 go_wp2
 go_ret
 exact ⟨rfl,rfl⟩
theorem ECells_c (s b c:Nat) (C:Cfg) (lv:Int) (N:Nat) (l:List Int) (w:World) (h:EAt w s b c C lv N l) :
 Calls Tryz.prog 226 #[.pointer (some ⟨s,0,none⟩)] w fun e w'=>∃ v,e=.returned v∧w'.ownsRow w.heap.size 2 1 v l.length (ints l)∧(v=.slice none 0 0→False)∧Ext w w':=by
 have c6:=(cell_of h.ex 6).trans rfl
 have hlt:=h.lts
 have hg:=h.g
 clear h
 go_enter Tryz.func226,Tryz.ntmps226
 go_wp2_with fail
 refine (GCells_c b c 1 N l _ hg).mono ?_
 rintro e w1 ⟨v,rfl,h1,h2,h3⟩
 go_wp2
 go_ret
 exact ⟨v,rfl,h1,h2,h3⟩
def errX (C:Cfg) (lv:Int) (l:List Int) (key d:Int):Int :=
 bif decide (key < keys C lv) then (bif decide (C.mode=2) && decide (d < 0) then 3 else bif fitB (l.getD key.toNat 0+d) then 0 else 4) else 2
def updX (l:List Int) (key d:Int):List Int:=l.set key.toNat (l.getD key.toNat 0+d)
theorem errX_key {C:Cfg} {lv:Int} {l:List Int} {key d:Int} (h:keys C lv≤key):errX C lv l key d=2:=by
 unfold errX; rw [decide_eq_false (by omega)]; rfl
theorem errX_neg {C:Cfg} {lv:Int} {l:List Int} {key d:Int} (h:key < keys C lv) (hm:C.mode=2) (hd:d < 0):errX C lv l key d=3:=by
 unfold errX; rw [decide_eq_true h,decide_eq_true hm,decide_eq_true hd]; rfl
theorem errX_sum {C:Cfg} {lv:Int} {l:List Int} {key d:Int} (h:key < keys C lv) (hm:¬ (C.mode=2∧d < 0)):errX C lv l key d=bif fitB (l.getD key.toNat 0+d) then 0 else 4:=by
 unfold errX
 rw [decide_eq_true h]
 have:(decide (C.mode=2) && decide (d < 0))=false:=by
  rw [Bool.and_eq_false_iff,decide_eq_false_iff_not,decide_eq_false_iff_not]
  by_cases hc:C.mode=2
  · exact .inr (fun h=>hm ⟨hc,h⟩)
  · exact .inl hc
 rw [this]; rfl
theorem At_k {b c N:Nat} {l:List Int} {w:World} (h:GAt w b c 1 N l) {key:Int} (h0:0≤key) (h1:key < N) :
 Calls Tryz.prog 320 #[.pointer (some ⟨b,0,none⟩),.int .i64 0,.int .i64 key] w fun e w'=>e=.returned (.int .i64 (l.getD key.toNat 0))∧w=w':=by
 obtain ⟨k,rfl⟩:=Int.eq_ofNat_of_zero_le h0
 have:=At_c b c 1 N l w h 0 k (by decide) (by omega)
 rw [Nat.zero_mul,Nat.zero_add] at this
 exact this
theorem Put_k {b c N:Nat} {l:List Int} {w:World} (h:GAt w b c 1 N l) {key:Int} (h0:0≤key) (h1:key < N) (n:Int) :
 Calls Tryz.prog 321 #[.pointer (some ⟨b,0,none⟩),.int .i64 0,.int .i64 key,.int .i64 n] w fun e w'=>e=.returned (.bool true)∧w.setCell ⟨c,key.toNat,none⟩ (.int .i64 n)=w':=by
 obtain ⟨k,rfl⟩:=Int.eq_ofNat_of_zero_le h0
 have:=Put_c b c 1 N l w h 0 k (by decide) (by omega) n
 rw [Nat.zero_mul,Nat.zero_add] at this
 exact this
set_option maxRecDepth 20000 in
set_option maxHeartbeats 2000000 in
theorem ECheck_c (s b c:Nat) (C:Cfg) (lv:Int) (N:Nat) (l:List Int) (key d:Int) (w:World) (h:EAt w s b c C lv N l) (hd:I64 d) (hk:U64 key) :
 Calls Tryz.prog 315 #[.pointer (some ⟨s,0,none⟩),.int .u64 key,.int .i64 d] w fun e w'=>e=.returned (.int .i64 (errX C lv l key d))∧Ext w w':=by
 have c3:=(cell_of h.ex 3).trans rfl
 have c6:=(cell_of h.ex 6).trans rfl
 have hlt:=h.lts
 have hg:=h.g
 have hN:=h.hk
 have w2':=h.g.w2
 have hy:=getD_i64 h.fit key.toNat
 obtain ⟨hk0,hk1⟩:=hk
 have HG:=Lib.hid hg
 have HN:=Lib.hid hN
 have hd':=hd
 unfold I64 at hd
 by_cases hkey:N≤key
 · have he:=errX_key (l:=l) (d:=d) (show keys C lv≤key by rw [hN]; exact hkey)
   have HE:=Lib.hid he
   clear he h hg hN
   go_enter Tryz.func315,Tryz.ntmps315
   go_wp2_with fail
   refine (Width_c b c 1 N l _ HG.out).mono ?_
   rintro e w1 ⟨rfl,rfl⟩
   go_wp2
   go_ret
   exact ⟨by rw [HE.out]; rfl,Ext.refl _⟩
 · have hkl:key < keys C lv:=by rw [hN]; omega
   by_cases hm:C.mode=2∧d < 0
   · obtain ⟨hm1,hm2⟩:=hm
     have he:=errX_neg (l:=l) hkl hm1 hm2
     have hmb:(C.mode == 2)=true:=by simpa using hm1
     have HE:=Lib.hid he
     clear he h hg hN hm1 hkl
     go_enter Tryz.func315,Tryz.ntmps315
     go_wp2_with fail
     refine (Width_c b c 1 N l _ HG.out).mono ?_
     rintro e w1 ⟨rfl,rfl⟩
     go_wp2
     go_ret
     exact ⟨by rw [HE.out]; rfl,Ext.refl _⟩
   · have he:=errX_sum (l:=l) hkl hm
     have HE:=Lib.hid he
     have hmb:((C.mode == 2)=false)∨((C.mode == 2)=true∧¬ d < 0):=by
      by_cases hc:C.mode=2
      · exact .inr ⟨by simpa using hc,fun h=>hm ⟨hc,h⟩⟩
      · exact .inl (by simpa using hc)
     obtain ⟨y,hyy⟩:∃ y,l.getD key.toNat 0=y:=⟨_,rfl⟩
     rw [hyy] at hy
     have HY:=Lib.hid hyy
     clear he h hg hN hm hkl hyy
     have hkN:key < N:=by omega
     rcases hmb with hmb | ⟨hmb,hdn⟩
     all_goals
      by_cases hf:I64 (y+d)
      · have hfb:=fitB_yes hf
        go_enter Tryz.func315,Tryz.ntmps315
        go_wp2_with fail
        refine (Width_c b c 1 N l _ HG.out).mono ?_
        rintro e w1 ⟨rfl,rfl⟩
        go_wp2_with fail
        refine (At_k HG.out hk0 hkN).mono ?_
        rintro e w1 ⟨rfl,rfl⟩
        rw [HY.out]
        go_wp2_with fail
        refine (Plus_c y d hy hd' _).mono ?_
        rintro e w1 ⟨rfl,hx1⟩
        rw [hfb]
        go_wp2
        go_ret
        exact ⟨by rw [HE.out,HY.out,hfb]; rfl,hx1⟩
      · have hfb:=fitB_no hf
        go_enter Tryz.func315,Tryz.ntmps315
        go_wp2_with fail
        refine (Width_c b c 1 N l _ HG.out).mono ?_
        rintro e w1 ⟨rfl,rfl⟩
        go_wp2_with fail
        refine (At_k HG.out hk0 hkN).mono ?_
        rintro e w1 ⟨rfl,rfl⟩
        rw [HY.out]
        go_wp2_with fail
        refine (Plus_c y d hy hd' _).mono ?_
        rintro e w1 ⟨rfl,hx1⟩
        rw [hfb]
        go_wp2
        go_ret
        exact ⟨by rw [HE.out,HY.out,hfb]; rfl,hx1⟩
def EUpdPost (w:World) (s b c:Nat) (C:Cfg) (lv:Int) (N:Nat) (l:List Int) (key d:Int) (e:Ending) (w':World):Prop :=
 e=.returned (.int .i64 (errX C lv l key d)) ∧
   ((errX C lv l key d=0∧EAt w' s b c C lv N (updX l key d)∧Mod (fun k=>k=c) w w')∨(errX C lv l key d≠0∧Ext w w'))
theorem errX_zero {C:Cfg} {lv:Int} {l:List Int} {key d:Int} (h:errX C lv l key d=0):key < keys C lv∧I64 (l.getD key.toNat 0+d):=by
 rcases Int.lt_or_le key (keys C lv) with h' | h'
 · refine ⟨h', ?_⟩
   by_cases hm:C.mode=2∧d < 0
   · rw [errX_neg h' hm.1 hm.2] at h; cases h
   · rw [errX_sum h' hm] at h
     by_cases hf:I64 (l.getD key.toNat 0+d)
     · exact hf
     · rw [fitB_no hf] at h; cases h
 · rw [errX_key h'] at h; cases h
theorem EAt.setl {w:World} {s b c:Nat} {C:Cfg} {lv:Int} {N:Nat} {l:List Int} (h:EAt w s b c C lv N l) {i:Nat} (hi:i < l.length) {n:Int} (hn:I64 n):EAt (w.setCell ⟨c,i,none⟩ (.int .i64 n)) s b c C lv N (l.set i n) :=
 ⟨by rw [setCell_other _ _ h.nes]; exact h.ex,h.g.set hi n,h.ok,h.lo,h.hi,h.hk,fun x hx=>by
  rcases List.mem_or_eq_of_mem_set hx with h1 | h1
  · exact h.fit x h1
  · rw [h1]; exact hn⟩
set_option maxRecDepth 20000 in
set_option maxHeartbeats 2000000 in
theorem EUpdate_c (s b c:Nat) (C:Cfg) (lv:Int) (N:Nat) (l:List Int) (key d:Int) (w:World) (h:EAt w s b c C lv N l) (hd:I64 d) (hk:U64 key) :
 Calls Tryz.prog 318 #[.pointer (some ⟨s,0,none⟩),.int .u64 key,.int .i64 d] w (EUpdPost w s b c C lv N l key d):=by
 by_cases he0:errX C lv l key d=0
 · have hz:=errX_zero he0
   have hN:=h.hk
   have w2':=h.g.w2
   have hkN:key < N:=by omega
   have hsum:=hz.2
   have hlen:=h.len
   have HE:=Lib.hid he0
   obtain ⟨hk0,hk1⟩:=hk
   clear he0 hz
   go_enter Tryz.func318,Tryz.ntmps318
   go_wp2_with fail
   refine (ECheck_c s b c C lv N l key d _ h hd ⟨hk0,hk1⟩).mono ?_
   rintro e w1 ⟨rfl,hx1⟩
   rw [HE.out]
   have h':=h.ext hx1
   have c6:=(cell_of h'.ex 6).trans rfl
   have hlt:=h'.lts
   have hG:=h'.g.ext (Below.drew (Ext.refl w1))
   obtain ⟨y,hyy⟩:∃ y,l.getD key.toNat 0=y:=⟨_,rfl⟩
   have HY:=Lib.hid hyy
   have HS:=Lib.hid hsum
   rw [hyy] at hsum
   unfold I64 at hsum hd
   clear hyy hN
   have HH:=Lib.hid h'
   clear h h'
   go_wp2
   have hC0:=af_drew w1
   refine pi_start (fun w'=>∃ x:After w1,w'=x.w) [15] (by kernel_rfl) ?_
   refine pi_t 0 rfl (by kernel_rfl) (by kernel_rfl) (fun _ _ _ _ h=>h) (fun K hK=>?_)
   go_big_quiet_op
   refine hK _ ?_
   clear hK K
   refine pi_t 1 rfl (by kernel_rfl) (by kernel_rfl) (fun _ _ _ _ h=>h) (fun K hK=>?_)
   go_big_quiet_op
   refine hK _ ?_
   clear hK K
   refine pi_t 2 rfl (by kernel_rfl) (by kernel_rfl) (fun _ _ _ _ h=>h) (fun K hK=>?_)
   go_big_quiet_op
   refine hK _ ?_
   clear hK K
   refine pi_t 4 rfl (by kernel_rfl) (by kernel_rfl) (fun _ _ _ _ h=>h) (fun K hK=>?_)
   go_big_quiet_op
   refine hK _ ?_
   clear hK K
   refine pi_t 5 rfl (by kernel_rfl) (by kernel_rfl) (fun _ _ _ _ h=>h) (fun K hK=>?_)
   go_big_quiet_op
   refine hK _ ?_
   clear hK K
   refine pi_t 6 rfl (by kernel_rfl) (by kernel_rfl) (fun _ _ _ _ h=>h) (fun K hK=>?_)
   go_big_quiet_op
   refine hK _ ?_
   clear hK K
   refine pi_t 7 rfl (by kernel_rfl) (by kernel_rfl) (fun _ _ _ _ h=>h) (fun K hK=>?_)
   go_big_quiet_op
   refine hK _ ?_
   clear hK K
   refine pi_t 8 rfl (by kernel_rfl) (by kernel_rfl) (fun _ _ _ _ h=>h) (fun K hK=>?_)
   go_big_quiet_op
   refine hK _ ?_
   clear hK K
   refine pi_t 10 rfl (by kernel_rfl) (by kernel_rfl) (fun _ _ _ _ h=>h) (fun K hK=>?_)
   go_big_quiet_op
   refine hK _ ?_
   clear hK K
   refine pi_t 11 rfl (by kernel_rfl) (by kernel_rfl) (fun _ _ _ _ h=>h) (fun K hK=>?_)
   go_big_quiet_op
   refine hK _ ?_
   clear hK K
   refine pi_t 13 rfl (by kernel_rfl) (by kernel_rfl) (fun _ _ _ _ h=>h) (fun K hK=>?_)
   go_big_quiet_op
   refine hK _ ?_
   clear hK K
   refine pi_c 3 (by assumption) rfl (by kernel_rfl) (by kernel_rfl) (fun _ _ _ _ h=>h) (fun K hK=>?_)
   go_big_quiet_op
   refine hK _ ?_
   clear hK K
   refine pi_l 9 rfl (by kernel_rfl) (fun K hK=>?_)
   go_wp2
   refine hK _ _ (fun _ h=>h) ?_
   clear hK K
   refine pi_l 12 rfl (by kernel_rfl) (fun K hK=>?_)
   go_wp2_with (go_at_call 320; refine (At_k hG hk0 hkN).mono ?_; rintro e w2 ⟨rfl,rfl⟩; rw [HY.out])
   refine hK _ _ (fun _ h=>h) ?_
   clear hK K
   refine pi_t 14 rfl (by kernel_rfl) (by kernel_rfl) (fun _ _ _ _ h=>h) (fun K hK=>?_)
   go_big_quiet_op
   refine hK _ ?_
   clear hK K
   refine pi_l 15 rfl (by kernel_rfl) (fun K hK=>?_)
   go_wp2_with (go_at_call 321; refine (Put_k hG hk0 hkN (y+d)).mono ?_; rintro e w2 ⟨rfl,rfl⟩)
   refine hK _ _ (by simp) ?_
   clear hK K
   refine pi_end (by kernel_rfl) ?_
   go_wp2
   go_ret
   refine ⟨by rw [HE.out]; rfl,.inl ⟨HE.out, ?_, ?_⟩⟩
   · have:=(HH.out.ext (Below.drew (Ext.refl w1))).setl (i:=key.toNat) (by rw [hlen]; omega) (n:=y+d) (by unfold I64; omega)
     unfold updX
     rw [HY.out]
     exact this
   · exact (hx1.mod _).trans ((Ext.mod _ (Below.drew (Ext.refl w1))).trans (mod_set _ _ _ _))
 · have hb:(errX C lv l key d == 0)=false:=by simpa using he0
   go_enter Tryz.func318,Tryz.ntmps318
   go_wp2_with fail
   refine (ECheck_c s b c C lv N l key d _ h hd hk).mono ?_
   rintro e w0 ⟨rfl,hx00⟩
   go_wp2
   go_ret
   exact ⟨rfl,.inr ⟨he0,hx00⟩⟩
set_option maxRecDepth 20000 in
theorem EPoint_c (s b c:Nat) (C:Cfg) (lv:Int) (N:Nat) (l:List Int) (key:Int) (w:World) (h:EAt w s b c C lv N l) (hk0:0≤key) (hk1:key < keys C lv) :
 Calls Tryz.prog 317 #[.pointer (some ⟨s,0,none⟩),.int .u64 key] w fun e w'=>e=.returned (.tuple #[.int .i64 (l.getD key.toNat 0),.int .i64 0])∧w=w':=by
 have c6:=(cell_of h.ex 6).trans rfl
 have hlt:=h.lts
 have hG:=h.g
 have w2':=h.g.w2
 have hkN:key < N:=by rw [← h.hk]; exact hk1
 have HG:=Lib.hid hG
 clear h hG hk1
 go_enter Tryz.func317,Tryz.ntmps317
 go_wp2_with fail
 refine (Width_c b c 1 N l _ HG.out).mono ?_
 rintro e w1 ⟨rfl,rfl⟩
 go_wp2_with fail
 refine (At_k HG.out hk0 hkN).mono ?_
 rintro e w1 ⟨rfl,rfl⟩
 go_wp2
 go_ret2
 exact ⟨rfl,rfl⟩
set_option maxRecDepth 20000 in
theorem EPoint_no (s b c:Nat) (C:Cfg) (lv:Int) (N:Nat) (l:List Int) (key:Int) (w:World) (h:EAt w s b c C lv N l) (hk:U64 key) (hk1:keys C lv≤key) :
 Calls Tryz.prog 317 #[.pointer (some ⟨s,0,none⟩),.int .u64 key] w fun e w'=>e=.returned (.tuple #[.int .i64 0,.int .i64 2])∧w=w':=by
 have c6:=(cell_of h.ex 6).trans rfl
 have hlt:=h.lts
 have hG:=h.g
 have w2':=h.g.w2
 have hkN:N≤key:=by rw [← h.hk]; exact hk1
 have HG:=Lib.hid hG
 obtain ⟨hk0,hk2⟩:=hk
 clear h hG hk1
 go_enter Tryz.func317,Tryz.ntmps317
 go_wp2_with fail
 refine (Width_c b c 1 N l _ HG.out).mono ?_
 rintro e w1 ⟨rfl,rfl⟩
 go_wp2
 go_ret2
 exact ⟨rfl,rfl⟩
set_option maxRecDepth 20000 in
set_option maxHeartbeats 2000000 in
theorem ECopy_c (s b c:Nat) (C:Cfg) (lv:Int) (N:Nat) (l:List Int) (w:World) (h:EAt w s b c C lv N l) :
 Calls Tryz.prog 246 #[.pointer (some ⟨s,0,none⟩)] w fun e w'=>∃ s' b' c',e=.returned (.pointer (some ⟨s',0,none⟩))∧EAt w' s' b' c' C lv N l∧w.heap.size≤s'∧w.heap.size≤b'∧w.heap.size≤c'∧Ext w w':=by
 have c0:=(cell_of h.ex 0).trans rfl
 have c1:=(cell_of h.ex 1).trans rfl
 have c2:=(cell_of h.ex 2).trans rfl
 have c3:=(cell_of h.ex 3).trans rfl
 have c4:=(cell_of h.ex 4).trans rfl
 have c5:=(cell_of h.ex 5).trans rfl
 have c6:=(cell_of h.ex 6).trans rfl
 have hlt:=h.lts
 have hG:=h.g.ext (Below.drew (Ext.refl w))
 have HH:=Lib.hid h
 clear h
 go_enter Tryz.func246,Tryz.ntmps246
 go_wp2
 have hC0:=af_drew w
 refine pi_start (fun w'=>∃ x:After w,w'=x.w) [] (by kernel_rfl) ?_
 refine pi_t 0 rfl (by kernel_rfl) (by kernel_rfl) (fun _ _ _ _ h=>h) (fun K hK=>?_)
 go_big_quiet_op
 refine hK _ ?_
 clear hK K
 refine pi_t 1 rfl (by kernel_rfl) (by kernel_rfl) (fun _ _ _ _ h=>h) (fun K hK=>?_)
 go_big_quiet_op
 refine hK _ ?_
 clear hK K
 refine pi_t 2 rfl (by kernel_rfl) (by kernel_rfl) (fun _ _ _ _ h=>h) (fun K hK=>?_)
 go_big_quiet_op
 refine hK _ ?_
 clear hK K
 refine pi_t 4 rfl (by kernel_rfl) (by kernel_rfl) (fun _ _ _ _ h=>h) (fun K hK=>?_)
 go_big_quiet_op
 refine hK _ ?_
 clear hK K
 refine pi_t 5 rfl (by kernel_rfl) (by kernel_rfl) (fun _ _ _ _ h=>h) (fun K hK=>?_)
 go_big_quiet_op
 refine hK _ ?_
 clear hK K
 refine pi_t 6 rfl (by kernel_rfl) (by kernel_rfl) (fun _ _ _ _ h=>h) (fun K hK=>?_)
 go_big_quiet_op
 refine hK _ ?_
 clear hK K
 refine pi_t 8 rfl (by kernel_rfl) (by kernel_rfl) (fun _ _ _ _ h=>h) (fun K hK=>?_)
 go_big_quiet_op
 refine hK _ ?_
 clear hK K
 refine pi_t 9 rfl (by kernel_rfl) (by kernel_rfl) (fun _ _ _ _ h=>h) (fun K hK=>?_)
 go_big_quiet_op
 refine hK _ ?_
 clear hK K
 refine pi_t 10 rfl (by kernel_rfl) (by kernel_rfl) (fun _ _ _ _ h=>h) (fun K hK=>?_)
 go_big_quiet_op
 refine hK _ ?_
 clear hK K
 refine pi_c 3 (by assumption) rfl (by kernel_rfl) (by kernel_rfl) (fun _ _ _ _ h=>h) (fun K hK=>?_)
 go_big_quiet_op
 refine hK _ ?_
 clear hK K
 refine pi_c 7 (by assumption) rfl (by kernel_rfl) (by kernel_rfl) (fun _ _ _ _ h=>h) (fun K hK=>?_)
 go_big_quiet_op
 refine hK _ ?_
 clear hK K
 refine pi_c 11 (by assumption) rfl (by kernel_rfl) (by kernel_rfl) (fun _ _ _ _ h=>h) (fun K hK=>?_)
 go_big_quiet_op
 refine hK _ ?_
 clear hK K
 refine pi_l 12 rfl (by kernel_rfl) (fun K hK=>?_)
 go_wp2_with (go_at_call 274; refine (GCopy_c b c 1 N l _ hG).mono ?_; rintro e w1 ⟨b',c',rfl,hg',hb',hc',hx1⟩)
 refine hK _ _ (fun _ h=>af_step h hx1) ?_
 clear hK K
 refine pi_t 13 rfl (by kernel_rfl) (by kernel_rfl) (fun _ _ _ _ h=>h) (fun K hK=>?_)
 go_big_quiet_op
 refine hK _ ?_
 clear hK K
 refine pi_l 14 rfl (by kernel_rfl) (fun K hK=>?_)
 go_wp2
 refine hK _ _ (fun _ h=>af_step h (Ext.alloc' _ _)) ?_
 clear hK K
 refine pi_t 15 rfl (by kernel_rfl) (by kernel_rfl) (fun _ _ _ _ h=>h) (fun K hK=>?_)
 go_big_quiet_op
 refine hK _ ?_
 clear hK K
 refine pi_end (by kernel_rfl) ?_
 go_wp2
 go_ret
 have hx1':Ext w w1:=Ext.trans' (Below.drew (Ext.refl w)) hx1
 have hs1:=hx1'.size
 have H:=HH.out
 refine ⟨w1.heap.size,b',c',rfl,⟨heap_at _ _ rfl,hg'.keep (heap_old _ _ hg'.ltb) (heap_old _ _ hg'.ltc),H.ok,H.lo,H.hi,H.hk,H.fit⟩,hs1,hb',hc',by (repeat' (first | exact Ext.refl _ | assumption | apply Ext.allocR | apply Ext.drewR | apply Ext.drewNR | (refine Ext.trans' ?_ (by assumption))))⟩
set_option maxRecDepth 20000 in
set_option maxHeartbeats 2000000 in
theorem SCopy_c (s b c:Nat) (C:Cfg) (lv:Int) (R W:Nat) (l:List Int) (w:World) (h:SAt w s b c C lv R W l) :
 Calls Tryz.prog 247 #[.pointer (some ⟨s,0,none⟩)] w fun e w'=>∃ s' b' c',e=.returned (.pointer (some ⟨s',0,none⟩))∧SAt w' s' b' c' C lv R W l∧w.heap.size≤s'∧w.heap.size≤b'∧w.heap.size≤c'∧Ext w w':=by
 have c0:=(cell_of h.ex 0).trans rfl
 have c1:=(cell_of h.ex 1).trans rfl
 have c2:=(cell_of h.ex 2).trans rfl
 have c3:=(cell_of h.ex 3).trans rfl
 have c4:=(cell_of h.ex 4).trans rfl
 have c5:=(cell_of h.ex 5).trans rfl
 have c6:=(cell_of h.ex 6).trans rfl
 have hlt:=h.lts
 have hG:=h.g.ext (Below.drew (Ext.refl w))
 have HH:=Lib.hid h
 clear h
 go_enter Tryz.func247,Tryz.ntmps247
 go_wp2
 have hC0:=af_drew w
 refine pi_start (fun w'=>∃ x:After w,w'=x.w) [] (by kernel_rfl) ?_
 refine pi_t 0 rfl (by kernel_rfl) (by kernel_rfl) (fun _ _ _ _ h=>h) (fun K hK=>?_)
 go_big_quiet_op
 refine hK _ ?_
 clear hK K
 refine pi_t 1 rfl (by kernel_rfl) (by kernel_rfl) (fun _ _ _ _ h=>h) (fun K hK=>?_)
 go_big_quiet_op
 refine hK _ ?_
 clear hK K
 refine pi_t 2 rfl (by kernel_rfl) (by kernel_rfl) (fun _ _ _ _ h=>h) (fun K hK=>?_)
 go_big_quiet_op
 refine hK _ ?_
 clear hK K
 refine pi_t 3 rfl (by kernel_rfl) (by kernel_rfl) (fun _ _ _ _ h=>h) (fun K hK=>?_)
 go_big_quiet_op
 refine hK _ ?_
 clear hK K
 refine pi_t 7 rfl (by kernel_rfl) (by kernel_rfl) (fun _ _ _ _ h=>h) (fun K hK=>?_)
 go_big_quiet_op
 refine hK _ ?_
 clear hK K
 refine pi_t 8 rfl (by kernel_rfl) (by kernel_rfl) (fun _ _ _ _ h=>h) (fun K hK=>?_)
 go_big_quiet_op
 refine hK _ ?_
 clear hK K
 refine pi_t 9 rfl (by kernel_rfl) (by kernel_rfl) (fun _ _ _ _ h=>h) (fun K hK=>?_)
 go_big_quiet_op
 refine hK _ ?_
 clear hK K
 refine pi_t 11 rfl (by kernel_rfl) (by kernel_rfl) (fun _ _ _ _ h=>h) (fun K hK=>?_)
 go_big_quiet_op
 refine hK _ ?_
 clear hK K
 refine pi_t 12 rfl (by kernel_rfl) (by kernel_rfl) (fun _ _ _ _ h=>h) (fun K hK=>?_)
 go_big_quiet_op
 refine hK _ ?_
 clear hK K
 refine pi_t 13 rfl (by kernel_rfl) (by kernel_rfl) (fun _ _ _ _ h=>h) (fun K hK=>?_)
 go_big_quiet_op
 refine hK _ ?_
 clear hK K
 refine pi_c 4 (by assumption) rfl (by kernel_rfl) (by kernel_rfl) (fun _ _ _ _ h=>h) (fun K hK=>?_)
 go_big_quiet_op
 refine hK _ ?_
 clear hK K
 refine pi_c 10 (by assumption) rfl (by kernel_rfl) (by kernel_rfl) (fun _ _ _ _ h=>h) (fun K hK=>?_)
 go_big_quiet_op
 refine hK _ ?_
 clear hK K
 refine pi_c 14 (by assumption) rfl (by kernel_rfl) (by kernel_rfl) (fun _ _ _ _ h=>h) (fun K hK=>?_)
 go_big_quiet_op
 refine hK _ ?_
 clear hK K
 refine pi_l 5 rfl (by kernel_rfl) (fun K hK=>?_)
 go_wp2_with (go_at_call 274; refine (GCopy_c b c R W l _ hG).mono ?_; rintro e w1 ⟨b',c',rfl,hg',hb',hc',hx1⟩)
 refine hK _ _ (fun _ h=>af_step h hx1) ?_
 clear hK K
 refine pi_t 6 rfl (by kernel_rfl) (by kernel_rfl) (fun _ _ _ _ h=>h) (fun K hK=>?_)
 go_big_quiet_op
 refine hK _ ?_
 clear hK K
 refine pi_t 15 rfl (by kernel_rfl) (by kernel_rfl) (fun _ _ _ _ h=>h) (fun K hK=>?_)
 go_big_quiet_op
 refine hK _ ?_
 clear hK K
 refine pi_l 16 rfl (by kernel_rfl) (fun K hK=>?_)
 go_wp2
 refine hK _ _ (fun _ h=>af_step h (Ext.alloc' _ _)) ?_
 clear hK K
 refine pi_t 17 rfl (by kernel_rfl) (by kernel_rfl) (fun _ _ _ _ h=>h) (fun K hK=>?_)
 go_big_quiet_op
 refine hK _ ?_
 clear hK K
 refine pi_end (by kernel_rfl) ?_
 go_wp2
 go_ret
 have hx1':Ext w w1:=Ext.trans' (Below.drew (Ext.refl w)) hx1
 have hs1:=hx1'.size
 have H:=HH.out
 refine ⟨w1.heap.size,b',c',rfl,⟨heap_at _ _ rfl,hg'.keep (heap_old _ _ hg'.ltb) (heap_old _ _ hg'.ltc),H.ok,H.lo,H.hi,H.hr,H.hw,H.fit⟩,hs1,hb',hc',by (repeat' (first | exact Ext.refl _ | assumption | apply Ext.allocR | apply Ext.drewR | apply Ext.drewNR | (refine Ext.trans' ?_ (by assumption))))⟩
end Go.Proofs.YtmalncfcgcebhaaGreatDoor
namespace Go.Proofs.YtmalncfcgcebhaaGreatDoor
set_option linter.unusedVariables false
open Go.RowKit
def rN (C:Cfg):Nat:=C.rows.toNat
def wN (C:Cfg):Nat:=C.width.toNat
theorem rN_eq {C:Cfg} (h:C.Ok):C.rows=(rN C:Int):=by have:=h.r1; unfold rN; omega
theorem wN_eq {C:Cfg} (h:C.Ok):C.width=(wN C:Int):=by have:=h.w1; unfold wN; omega
def lvN (C:Cfg) (lv:Int):Nat:=bif isX C lv then kN C lv else rN C*wN C
structure Lev where
 s:Nat
 b:Nat
 c:Nat
def LvAt (w:World) (L:Lev) (C:Cfg) (lv:Int) (l:List Int):Prop :=
 (isX C lv=true∧EAt w L.s L.b L.c C lv (kN C lv) l)∨(isX C lv=false∧SAt w L.s L.b L.c C lv (rN C) (wN C) l)
def lvT (C:Cfg) (lv:Int):TypeId:=bif isX C lv then 267 else 270
def lvV (C:Cfg) (lv:Int) (L:Lev):Value:=.iface (lvT C lv) (.pointer (some ⟨L.s,0,none⟩))
theorem lvV_x {C:Cfg} {lv:Int} (h:isX C lv=true) (L:Lev):lvV C lv L=.iface 267 (.pointer (some ⟨L.s,0,none⟩)):=by unfold lvV lvT; rw [h]; rfl
theorem lvV_s {C:Cfg} {lv:Int} (h:isX C lv=false) (L:Lev):lvV C lv L=.iface 270 (.pointer (some ⟨L.s,0,none⟩)):=by unfold lvV lvT; rw [h]; rfl
theorem LvAt.x {w:World} {L:Lev} {C:Cfg} {lv:Int} {l:List Int} (h:LvAt w L C lv l) (hx:isX C lv=true):EAt w L.s L.b L.c C lv (kN C lv) l:=by
 rcases h with ⟨_,h⟩ | ⟨h,_⟩
 · exact h
 · rw [hx] at h; cases h
theorem LvAt.sk {w:World} {L:Lev} {C:Cfg} {lv:Int} {l:List Int} (h:LvAt w L C lv l) (hx:isX C lv=false):SAt w L.s L.b L.c C lv (rN C) (wN C) l:=by
 rcases h with ⟨h,_⟩ | ⟨_,h⟩
 · rw [hx] at h; cases h
 · exact h
theorem LvAt.lts {w:World} {L:Lev} {C:Cfg} {lv:Int} {l:List Int} (h:LvAt w L C lv l):L.s < w.heap.size:=by
 rcases h with ⟨_,h⟩ | ⟨_,h⟩ <;> exact h.lts
theorem LvAt.ltb {w:World} {L:Lev} {C:Cfg} {lv:Int} {l:List Int} (h:LvAt w L C lv l):L.b < w.heap.size:=by
 rcases h with ⟨_,h⟩ | ⟨_,h⟩ <;> exact h.g.ltb
theorem LvAt.ltc {w:World} {L:Lev} {C:Cfg} {lv:Int} {l:List Int} (h:LvAt w L C lv l):L.c < w.heap.size:=by
 rcases h with ⟨_,h⟩ | ⟨_,h⟩ <;> exact h.g.ltc
theorem LvAt.fit {w:World} {L:Lev} {C:Cfg} {lv:Int} {l:List Int} (h:LvAt w L C lv l):∀ x∈l,I64 x:=by
 rcases h with ⟨_,h⟩ | ⟨_,h⟩ <;> exact h.fit
theorem LvAt.len {w:World} {L:Lev} {C:Cfg} {lv:Int} {l:List Int} (h:LvAt w L C lv l):l.length=lvN C lv:=by
 unfold lvN
 rcases h with ⟨hx,h⟩ | ⟨hx,h⟩
 · rw [hx]; exact h.len
 · rw [hx]; exact h.g.len
theorem LvAt.keep {w w':World} {L:Lev} {C:Cfg} {lv:Int} {l:List Int} (h:LvAt w L C lv l) (hs:w'.heap[L.s]?=w.heap[L.s]?) (hb:w'.heap[L.b]?=w.heap[L.b]?) (hc:w'.heap[L.c]?=w.heap[L.c]?):LvAt w' L C lv l:=by
 rcases h with ⟨hx,h⟩ | ⟨hx,h⟩
 · exact .inl ⟨hx,h.keep hs hb hc⟩
 · exact .inr ⟨hx,h.keep hs hb hc⟩
theorem LvAt.ext {w w':World} {L:Lev} {C:Cfg} {lv:Int} {l:List Int} (h:LvAt w L C lv l) (he:Ext w w'):LvAt w' L C lv l :=
 h.keep (he.block _ h.lts) (he.block _ h.ltb) (he.block _ h.ltc)
theorem LvAt.isc {w:World} {L:Lev} {C:Cfg} {lv:Int} {l:List Int} (h:LvAt w L C lv l):∃ cur,w.heap[L.c]?=some (.cells cur 2 (0,0)):=by
 rcases h with ⟨_,h⟩ | ⟨_,h⟩ <;> (obtain ⟨cap,_,h2⟩:=h.g.ex; obtain ⟨cur,h3,_⟩:=h2.ex; exact ⟨cur,h3⟩)
theorem LvAt.iss {w:World} {L:Lev} {C:Cfg} {lv:Int} {l:List Int} (h:LvAt w L C lv l):∃ cur t,w.heap[L.s]?=some (.cells cur t (0,0))∧t≠2:=by
 rcases h with ⟨_,h⟩ | ⟨_,h⟩ <;> exact ⟨_,_,h.ex,by decide⟩
theorem LvAt.isb {w:World} {L:Lev} {C:Cfg} {lv:Int} {l:List Int} (h:LvAt w L C lv l):∃ cur t,w.heap[L.b]?=some (.cells cur t (0,0))∧t≠2:=by
 rcases h with ⟨_,h⟩ | ⟨_,h⟩ <;> (obtain ⟨cap,h1,_⟩:=h.g.ex; exact ⟨_,_,h1,by decide⟩)
theorem blk_ne {w:World} {i j:Nat} {cur cur':Array Value} {t t':TypeId} {f f':Nat × Nat} (h:w.heap[i]?=some (.cells cur t f)) (h':w.heap[j]?=some (.cells cur' t' f')) (ht:t≠t'):i≠j:=by
 intro e
 subst e
 rw [h] at h'
 injection h' with h'
 injection h' with _ h' _
 exact ht h'
theorem LvAt.mod {S:Nat→Prop} {w w':World} {L:Lev} {C:Cfg} {lv:Int} {l:List Int} (h:LvAt w L C lv l) (he:Mod S w w') (hS:∀ k,S k→k < w.heap.size→∃ cur,w.heap[k]?=some (.cells cur 2 (0,0))) (hc:¬ S L.c):LvAt w' L C lv l:=by
 refine h.keep (he.block _ h.lts fun hs=>?_) (he.block _ h.ltb fun hs=>?_) (he.block _ h.ltc hc)
 · obtain ⟨cur,t,h1,h2⟩:=h.iss
   obtain ⟨cur',h3⟩:=hS _ hs h.lts
   exact blk_ne h1 h3 h2 rfl
 · obtain ⟨cur,t,h1,h2⟩:=h.isb
   obtain ⟨cur',h3⟩:=hS _ hs h.ltb
   exact blk_ne h1 h3 h2 rfl
@[go_sem] theorem ta_xx (p:Option Addr) (w:World):(Instr.typeAssert (.iface 267 (.pointer p)) 120 267 true).run Tryz.prog w=.ok (.tuple #[.pointer p,.bool true]) w:=by kernel_rfl
@[go_sem] theorem ta_xs (p:Option Addr) (w:World):(Instr.typeAssert (.iface 267 (.pointer p)) 120 270 true).run Tryz.prog w=.ok (.tuple #[.pointer none,.bool false]) w:=by kernel_rfl
@[go_sem] theorem ta_sx (p:Option Addr) (w:World):(Instr.typeAssert (.iface 270 (.pointer p)) 120 267 true).run Tryz.prog w=.ok (.tuple #[.pointer none,.bool false]) w:=by kernel_rfl
@[go_sem] theorem ta_ss (p:Option Addr) (w:World):(Instr.typeAssert (.iface 270 (.pointer p)) 120 270 true).run Tryz.prog w=.ok (.tuple #[.pointer p,.bool true]) w:=by kernel_rfl
@[go_sem] theorem ta_nx (w:World):(Instr.typeAssert .nilIface 120 267 true).run Tryz.prog w=.ok (.tuple #[.pointer none,.bool false]) w:=by kernel_rfl
@[go_sem] theorem ta_ns (w:World):(Instr.typeAssert .nilIface 120 270 true).run Tryz.prog w=.ok (.tuple #[.pointer none,.bool false]) w:=by kernel_rfl
@[go_sem] theorem tm_ss (p:Option Addr) (w:World):(Instr.typeAssert (.iface 270 (.pointer p)) 120 270 false).run Tryz.prog w=.ok (.pointer p) w:=by kernel_rfl
def LNewPost (w:World) (C:Cfg) (lv:Int) (e:Ending) (w':World):Prop :=
 ∃ L:Lev,e=.returned (.tuple #[lvV C lv L,.int .i64 0])∧LvAt w' L C lv (zs (lvN C lv))∧w.heap.size≤L.s∧w.heap.size≤L.b∧w.heap.size≤L.c∧Ext w w'
set_option maxRecDepth 20000 in
set_option maxHeartbeats 2000000 in
theorem LNew_c (C:Cfg) (h:C.Ok) (lv:Int) (h0:0≤lv) (h1:lv≤C.bits) (w:World) :
 Calls Tryz.prog 102 #[.agg #[.int .i64 C.bits,.int .i64 C.rows,.int .i64 C.width,.int .i64 C.mode,.int .u64 C.seed],.int .i64 lv] w (LNewPost w C lv):=by
 cases hx:isX C lv with
 | true =>
   have HX:=Lib.hid hx
   clear hx
   go_enter Tryz.func102,Tryz.ntmps102
   go_wp2_with fail
   refine (Exact_c C h lv h0 h1 _).mono ?_
   rintro e w1 ⟨rfl,hb⟩
   rw [HX.out]
   have hE:Ext w w1:=by (repeat' (first | exact Ext.refl _ | assumption | apply Ext.allocR | apply Ext.drewR | apply Ext.drewNR | (refine Ext.trans' ?_ (by assumption))))
   have hC:=(CfgAt.box (w:=w) C 24 rfl).ext hb
   have d0:=hC.c0
   have d1:=hC.c1
   have d2:=hC.c2
   have d3:=hC.c3
   have d4:=hC.c4
   have cl:=hC.lt
   have hs:=hE.size
   clear hb hC
   go_wp2_with fail
   refine (ENew_c C h lv h0 h1 (kN C lv) (kN_eq h h0) HX.out _).mono ?_
   rintro e w2 ⟨s,b,c,rfl,hA,hs1,hb1,hc1,hx2⟩
   go_wp2
   go_ret2
   refine ⟨⟨s,b,c⟩,by rw [lvV_x HX.out]; rfl,.inl ⟨HX.out, ?_⟩,Nat.le_trans hs hs1,Nat.le_trans hs hb1,Nat.le_trans hs hc1,hE.trans' hx2⟩
   unfold lvN; rw [HX.out]; exact hA
 | false =>
   have HX:=Lib.hid hx
   clear hx
   go_enter Tryz.func102,Tryz.ntmps102
   go_wp2_with fail
   refine (Exact_c C h lv h0 h1 _).mono ?_
   rintro e w1 ⟨rfl,hb⟩
   rw [HX.out]
   have hE:Ext w w1:=by (repeat' (first | exact Ext.refl _ | assumption | apply Ext.allocR | apply Ext.drewR | apply Ext.drewNR | (refine Ext.trans' ?_ (by assumption))))
   have hC:=(CfgAt.box (w:=w) C 24 rfl).ext hb
   have d0:=hC.c0
   have d1:=hC.c1
   have d2:=hC.c2
   have d3:=hC.c3
   have d4:=hC.c4
   have cl:=hC.lt
   have hs:=hE.size
   clear hb hC
   go_wp2_with fail
   refine (SNew_c C h lv h0 h1 (rN C) (wN C) (rN_eq h) (wN_eq h) _).mono ?_
   rintro e w2 ⟨s,b,c,rfl,hA,hs1,hb1,hc1,hx2⟩
   go_wp2
   go_ret2
   refine ⟨⟨s,b,c⟩,by rw [lvV_s HX.out]; rfl,.inr ⟨HX.out, ?_⟩,Nat.le_trans hs hs1,Nat.le_trans hs hb1,Nat.le_trans hs hc1,hE.trans' hx2⟩
   unfold lvN; rw [HX.out]; exact hA
def LCopyPost (w:World) (C:Cfg) (lv:Int) (l:List Int) (e:Ending) (w':World):Prop :=
 ∃ L':Lev,e=.returned (lvV C lv L')∧LvAt w' L' C lv l∧w.heap.size≤L'.s∧w.heap.size≤L'.b∧w.heap.size≤L'.c∧Ext w w'
set_option maxRecDepth 20000 in
set_option maxHeartbeats 2000000 in
theorem LCopy_c (C:Cfg) (lv:Int) (L:Lev) (l:List Int) (w:World) (h:LvAt w L C lv l) :
 Calls Tryz.prog 206 #[lvV C lv L] w (LCopyPost w C lv l):=by
 cases hx:isX C lv with
 | true =>
   have hA:=h.x hx
   have HX:=Lib.hid hx
   rw [lvV_x hx]
   clear hx
   go_enter Tryz.func206,Tryz.ntmps206
   go_wp2_with fail
   refine (ECopy_c L.s L.b L.c C lv _ l _ hA).mono ?_
   rintro e w1 ⟨s',b',c',rfl,hA',h1,h2,h3,hx1⟩
   go_wp2
   go_ret
   exact ⟨⟨s',b',c'⟩,by rw [lvV_x HX.out]; rfl,.inl ⟨HX.out,hA'⟩,h1,h2,h3,hx1⟩
 | false =>
   have hA:=h.sk hx
   have HX:=Lib.hid hx
   rw [lvV_s hx]
   clear hx
   go_enter Tryz.func206,Tryz.ntmps206
   go_wp2_with fail
   refine (SCopy_c L.s L.b L.c C lv _ _ l _ hA).mono ?_
   rintro e w1 ⟨s',b',c',rfl,hA',h1,h2,h3,hx1⟩
   go_wp2
   go_ret
   exact ⟨⟨s',b',c'⟩,by rw [lvV_s HX.out]; rfl,.inr ⟨HX.out,hA'⟩,h1,h2,h3,hx1⟩
set_option maxRecDepth 20000 in
theorem AsSketch_x (s:Nat) (w:World) :
 Calls Tryz.prog 253 #[.iface 267 (.pointer (some ⟨s,0,none⟩))] w fun e w'=>e=.returned (.tuple #[.pointer none,.bool false])∧w=w':=by
 go_enter Tryz.func253,Tryz.ntmps253
 go_wp2
 go_ret2
 exact ⟨rfl,rfl⟩
set_option maxRecDepth 20000 in
theorem AsSketch_s (s:Nat) (w:World) :
 Calls Tryz.prog 253 #[.iface 270 (.pointer (some ⟨s,0,none⟩))] w fun e w'=>e=.returned (.tuple #[.pointer (some ⟨s,0,none⟩),.bool true])∧w=w':=by
 go_enter Tryz.func253,Tryz.ntmps253
 go_wp2
 go_ret2
 exact ⟨rfl,rfl⟩
set_option maxRecDepth 20000 in
theorem MustSketch_s (s:Nat) (w:World) :
 Calls Tryz.prog 254 #[.iface 270 (.pointer (some ⟨s,0,none⟩))] w fun e w'=>e=.returned (.pointer (some ⟨s,0,none⟩))∧w=w':=by
 go_enter Tryz.func254,Tryz.ntmps254
 go_wp2
 go_ret
 exact ⟨rfl,rfl⟩
end Go.Proofs.YtmalncfcgcebhaaGreatDoor
