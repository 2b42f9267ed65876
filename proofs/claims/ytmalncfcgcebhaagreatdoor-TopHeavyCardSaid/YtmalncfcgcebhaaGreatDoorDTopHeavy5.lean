/- Part. No condition. -/
import Derived.Test.YtmalncfcgcebhaaGreatDoorDTopHeavy4
import Derived.Test.YtmalncfcgcebhaaGreatDoorDTopHeavy1
namespace Go.Proofs.YtmalncfcgcebhaaGreatDoor
set_option linter.unusedVariables false
open Go.Proofs Go.RowKit
def numOf (l:List UInt8):Option Int :=
 match Lib.parseIntB 64 l with
 | .ok n=>if Lib.itoa n=l then some n else none
 | _=>none
theorem numOf_ok {l:List UInt8} {n:Int} (h:Lib.parseIntB 64 l=.ok n):numOf l=if Lib.itoa n=l then some n else none:=by unfold numOf; rw [h]
theorem numOf_no {l:List UInt8} (h:∀ n,Lib.parseIntB 64 l≠.ok n):numOf l=none:=by
 unfold numOf
 rcases hp:Lib.parseIntB 64 l with v | _ | _
 · exact absurd hp (h v)
 · rfl
 · rfl
theorem numOf_range {l:List UInt8} {n:Int} (h:numOf l=some n):I64 n:=by
 unfold numOf at h
 split at h
 · rename_i m hp
   split at h
   · cases h; exact parseB_range hp
   · cases h
 · cases h
set_option maxRecDepth 20000 in
set_option maxHeartbeats 4000000 in
theorem Number_c (s:ByteArray) (hs:s.size≤100000000) (w:World) (hT:Tabs w) :
 Calls Tryz.prog 165 #[.string s] w fun e w'=>(∃ n,e=.returned (.tuple #[.int .i64 n,.bool (numOf s.data.toList).isSome])∧I64 n∧∀ m,numOf s.data.toList=some m→n=m)∧Ext w w':=by
 go_enter Tryz.func165,Tryz.ntmps165
 go_wp2_with fail
 refine Calls.mono (ParseInt_c s hs w hT) ?_
 rintro e w1 ⟨⟨n,er,rfl,hn,hc⟩,hx1⟩
 have hT1:=hT.ext hx1
 rcases hc with ⟨rfl,hp⟩ | ⟨⟨N,rfl⟩,hp⟩
 · have hno:=numOf_ok hp
   go_wp2_with fail
   refine Calls.mono (FormatInt_c n hn w1 hT1) ?_
   rintro e w2 ⟨rfl,hx2⟩
   unfold strV
   go_wp2_with fail
   go_ret2
   have hb:(Lib.itoa n == s.toList)=(numOf s.data.toList).isSome:=by
    rw [hno,Lib.toList_data]
    by_cases he:Lib.itoa n=s.data.toList
    · rw [if_pos he,he]; simp
    · rw [if_neg he]; simpa using he
   refine ⟨⟨n,by rw [hb]; rfl,hn,fun m h=>?_⟩,hx1.trans' hx2⟩
   rw [hno] at h
   split at h
   · cases h; rfl
   · cases h
 · have hno:=numOf_no hp
   go_wp2
   go_ret2
   refine ⟨⟨n, ?_,hn,fun m h=>by rw [hno] at h; cases h⟩,hx1⟩
   rw [hno]; rfl
def namedOf (s:ByteArray):Bool:=decide (2≤s.size) && (decide (s.data.toList.getD 0 0=34) && decide (Lib.indexByte (s.data.toList.drop 1) 34=(s.size:Int) - 2))
set_option maxRecDepth 20000 in
set_option maxHeartbeats 4000000 in
theorem Named_c (s:ByteArray) (hs:s.size≤100000000) (w:World) :
 Calls Tryz.prog 163 #[.string s] w fun e w'=>∃ t,e=.returned (.tuple #[.string t,.bool (namedOf s)])∧(namedOf s=true→t=s.extract 1 (s.size - 1))∧w'=w:=by
 by_cases h2:s.size < 2
 · have hn:namedOf s=false:=by unfold namedOf; rw [decide_eq_false (by omega)]; rfl
   generalize namedOf s=nb at hn ⊢
   subst hn
   have d2:decide ((s.size:Int) < 2)=true:=decide_eq_true (by omega)
   go_enter Tryz.func163,Tryz.ntmps163
   go_wp2
   go_ret2
   exact ⟨_,rfl,fun h=>by (first | (cases h; done) | trivial),rfl⟩
 · have d2:decide ((s.size:Int) < 2)=false:=decide_eq_false (by omega)
   have h0:0 < s.size:=by omega
   by_cases h34:s.data.toList.getD 0 0=34
   · have hx:(s.extract 1 s.size).data.toList=s.data.toList.drop 1:=by
      rw [Lib.extract_data,List.take_of_length_le (by rw [List.length_drop,← Lib.size_eq]; omega)]
     have hq:∀ W,Calls Tryz.prog 117 #[.string (s.extract 1 s.size),.int .u8 34] W fun e w'=>e=.returned (.int .i64 (Lib.indexByte (s.data.toList.drop 1) 34))∧w'=W:=by
      intro W
      have:=IndexByte_c (s.extract 1 s.size) 34 W
      rw [hx] at this
      exact this
     have e34:=bt_t (s:=s) (i:=0) h0 h34 (n:=34) rfl
     have f34:(((s[0]'h0).toNat:Int) != 34)=false:=by rw [bne,e34]; rfl
     have hn:namedOf s=decide (Lib.indexByte (s.data.toList.drop 1) 34=(s.size:Int) - 2):=by unfold namedOf; rw [decide_eq_true (by omega),decide_eq_true h34]; rfl
     clear hx
     generalize Lib.indexByte (s.data.toList.drop 1) 34=q at *
     generalize namedOf s=nb at hn ⊢
     by_cases hqe:q=(s.size:Int) - 2
     · rw [decide_eq_true hqe] at hn
       subst hn hqe
       clear h34 e34
       go_enter Tryz.func163,Tryz.ntmps163
       go_wp2_with fail
       refine Calls.mono (hq _) ?_
       rintro e w2 ⟨rfl,rfl⟩
       go_wp2
       go_ret2
       exact ⟨_,rfl,fun _=>rfl,rfl⟩
     · rw [decide_eq_false hqe] at hn
       subst hn
       have hne:(q == (s.size:Int) - 2)=false:=beq_eq_false_iff_ne.2 hqe
       have hne2:(q != (s.size:Int) - 2)=true:=by rw [bne,hne]; rfl
       clear h34 e34
       go_enter Tryz.func163,Tryz.ntmps163
       go_wp2_with fail
       refine Calls.mono (hq _) ?_
       rintro e w2 ⟨rfl,rfl⟩
       go_wp2
       go_ret2
       exact ⟨_,rfl,fun h=>by (first | (cases h; done) | trivial),rfl⟩
   · have e34:=bt_f (s:=s) (i:=0) h0 h34 (n:=34) rfl
     have f34:(((s[0]'h0).toNat:Int) != 34)=true:=by rw [bne,e34]; rfl
     have hn:namedOf s=false:=by unfold namedOf; rw [decide_eq_false h34]; simp
     generalize namedOf s=nb at hn ⊢
     subst hn
     clear h34 h2
     go_enter Tryz.func163,Tryz.ntmps163
     go_wp2
     go_ret2
     exact ⟨_,rfl,fun h=>by (first | (cases h; done) | trivial),rfl⟩
end Go.Proofs.YtmalncfcgcebhaaGreatDoor
namespace Go.Proofs.YtmalncfcgcebhaaGreatDoor
set_option linter.unusedVariables false
open Go.Proofs Go.RowKit
def wdV (W:List (ByteArray × Nat)):List Value:=W.flatMap fun p=>[.string p.1,.int .i64 (p.2:Int)]
theorem wdV_at {W:List (ByteArray × Nat)}:∀ {k:Nat} (h:k < W.length),(wdV W)[k*2]?=some (.string W[k].1)∧(wdV W)[k*2+1]?=some (.int .i64 (W[k].2:Int)):=by
 induction W with
 | nil=>intro k h; simp at h
 | cons a l ih =>
   intro k h
   have e:wdV (a :: l)=.string a.1 :: .int .i64 (a.2:Int) :: wdV l:=rfl
   cases k with
   | zero=>exact ⟨rfl,rfl⟩
   | succ k =>
     have:=ih (k:=k) (by simpa using h)
     rw [e,show (k+1)*2=k*2+1+1 by omega]
     exact this
def badI:Option Nat→Int
 | none=>-1
 | some n=>(n:Int)
structure RdAt (base:Nat) (w:World) (r:Nat) (W:List (ByteArray × Nat)) (E a:Nat) (bad:Option Nat):Prop where
 b10:10≤base
 br:base≤r
 hr:∃ v,w.heap[r]?=some (.cells #[v,.int .i64 (a:Int),.int .i64 (badI bad),.int .i64 (E:Int)] 164 (0,0))∧w.ownsRow base 233 2 v W.length (wdV W)
def failR (W:List (ByteArray × Nat)) (E a:Nat):Option Nat→Option Nat
 | some b=>some b
 | none=>if h:a < W.length then some W[a].2 else some E
theorem RdAt.ext {base r E a:Nat} {w w':World} {W:List (ByteArray × Nat)} {bad:Option Nat} (h:RdAt base w r W E a bad) (hx:Ext w w'):RdAt base w' r W E a bad:=by
 obtain ⟨v,h1,h2⟩:=h.hr
 exact ⟨h.b10,h.br,v,hx.keep h1,own_ext h2 hx⟩
theorem RdAt.set {base r E a a':Nat} {w:World} {W:List (ByteArray × Nat)} {bad bad':Option Nat} {o:Nat} {u:Value} (h:RdAt base w r W E a bad) (ho:∀ v,(#[v,.int .i64 (a:Int),.int .i64 (badI bad),.int .i64 (E:Int)]:Array Value).setIfInBounds o u=#[v,.int .i64 (a':Int),.int .i64 (badI bad'),.int .i64 (E:Int)]):RdAt base (w.setCell ⟨r,o,none⟩ u) r W E a' bad'∧Mod (fun k=>k=r) w (w.setCell ⟨r,o,none⟩ u):=by
 obtain ⟨v,h1,h2⟩:=h.hr
 have hm:Mod (fun k=>k=r) w (w.setCell ⟨r,o,none⟩ u):=⟨rfl,rfl,rfl,by rw [size_setCell]; exact Nat.le_refl _,fun k hk hn=>setCell_other o u hn⟩
 refine ⟨⟨h.b10,h.br,v, ?_, ?_⟩,hm⟩
 · rw [setCell_same h1,ho]
 · exact own_keepB h2 fun k hk=>setCell_other o u fun e=>own_notB h2 h1 (by decide) (e ▸ hk)
theorem Mod.extR {S:Nat→Prop} {a b c:World} (h:Mod S a b) (k:Ext b c):Mod S a c:=h.trans (k.mod S)
theorem Tabs.below {w w':World} {B:Nat} (h:Tabs w) (hB:10≤B) (hb:Below B w w'):Tabs w':=by
 have hc:∀ {a:Addr} {v:Value},a.block < 10→w.cell? a=some v→w'.cell? a=some v:=fun h1 h2=>(hb.cell (Nat.lt_of_lt_of_le h1 hB)).trans h2
 obtain ⟨te,pe,h1⟩:=h.syn
 obtain ⟨te',pe',h2⟩:=h.rng
 refine ⟨?_,⟨fun c hcc=>hc (by show 2 < 10; decide) (h.utf.1 c hcc),fun i hi=>⟨hc (by show 3 < 10; decide) (h.utf.2 i hi).1,hc (by show 3 < 10; decide) (h.utf.2 i hi).2⟩⟩,⟨te,pe,hc (by decide) h1⟩,⟨te',pe',hc (by decide) h2⟩⟩
 have hp:=h.pow
 unfold Lib.TabIs World.var? at hp ⊢
 rw [powNamed] at hp ⊢
 simp only [Option.bind_some] at hp ⊢
 rw [hb.block _ (by omega)]
 exact hp
set_option maxRecDepth 20000 in
set_option maxHeartbeats 4000000 in
theorem RFail_c (base r:Nat) (W:List (ByteArray × Nat)) (E a:Nat) (bad:Option Nat) (w:World) (h:RdAt base w r W E a bad) (hl:W.length≤100000000) (ha:a≤200000000) (hE:E≤100000000) :
 Calls Tryz.prog 81 #[.pointer (some ⟨r,0,none⟩)] w fun e w'=>e=.returned (.tuple #[])∧RdAt base w' r W E a (failR W E a bad)∧Mod (fun k=>k=r) w w':=by
 have HH:=Lib.hid h
 obtain ⟨v,h1,h2⟩:=h.hr
 have c0:=(cell_of h1 0).trans rfl
 have c1:=(cell_of h1 1).trans rfl
 have c2:=(cell_of h1 2).trans rfl
 have c3:=(cell_of h1 3).trans rfl
 have f2:=frozen_of h1 2
 have rl:=lt_of h1
 clear h h1 h2
 cases bad with
 | some b =>
   unfold badI at c2
   go_enter Tryz.func81,Tryz.ntmps81
   go_wp2
   go_returns
   exact ⟨rfl,HH.out,Mod.refl _ _⟩
 | none =>
   unfold badI at c2
   obtain ⟨H1,M1⟩:=HH.out.set (a':=a) (bad':=some E) (o:=2) (u:=.int .i64 (E:Int)) (fun v=>rfl)
   have hf0:¬ a < W.length→failR W E a none=some E:=fun h=>by unfold failR; rw [dif_neg h]
   have hf1:∀ h:a < W.length,failR W E a none=some W[a].2:=fun h=>by unfold failR; rw [dif_pos h]
   have HF0:=Lib.hid hf0
   have HF1:=Lib.hid hf1
   have HM1:=Lib.hid M1
   have HH1:=Lib.hid H1
   clear hf0 hf1 H1 M1 HH
   go_enter Tryz.func81,Tryz.ntmps81
   go_upto_region 2 with (fail)
   generalize hW1:w.setCell ⟨r,2,none⟩ (.int .i64 (E:Int))=W1 at *
   obtain ⟨v',h1,h2⟩:=HH1.out.hr
   have c0:=(cell_of h1 0).trans rfl
   have c1:=(cell_of h1 1).trans rfl
   have f2:=frozen_of h1 2
   have rl:=lt_of h1
   by_cases hlt:a < W.length
   · obtain ⟨g,cap,rfl,hbg,hgl,hcell⟩:=own_row_cells h2 (by omega)
     have k1:=(hcell (a*2+1) (by omega)).trans (wdV_at hlt).2
     have HF:=Lib.hid (HF1.out hlt)
     clear hcell HF0 HF1 h2
     generalize W[a].2=p at *
     refine wp_region_after (by kernel_rfl) (by kernel_rfl) ?_
     repeat (go_big_quiet_step ((fail)))
     refine wpQuiet_nil ?_
     rintro _ ⟨xx,rfl⟩
     obtain ⟨w1,hb1⟩:=xx
     try dsimp only
     have bc:=bcell hb1
     have d0:=(bc.1 r 0 rl).trans c0
     have d1:=(bc.1 r 1 rl).trans c1
     have d2:=(bc.1 g (a*2+1) hgl).trans k1
     have HH2:=Lib.hid (HH1.out.ext hb1)
     have HB1:=Lib.hid hb1
     have rl1:r < w1.heap.size:=Nat.lt_of_lt_of_le rl hb1.size
     have gl1:g < w1.heap.size:=Nat.lt_of_lt_of_le hgl hb1.size
     clear bc c0 c1 k1 f2 hb1
     go_upto_region 3 with (fail)
     refine wp_region_after_tail 14 (by kernel_rfl) (by kernel_rfl) ?_
     simp only [List.take_succ_cons,List.take_zero,List.drop_succ_cons,List.drop_zero]
     repeat (go_big_quiet_step ((fail)))
     refine wpQuiet_nil ?_
     rintro _ ⟨xx,rfl⟩
     obtain ⟨w2,hb2⟩:=xx
     try dsimp only
     obtain ⟨H3,M3⟩:=(HH2.out.ext hb2).set (a':=a) (bad':=some p) (o:=2) (u:=.int .i64 (p:Int)) (fun v=>rfl)
     have HH3:=Lib.hid H3
     have HM3:=Lib.hid (((HM1.out.extR HB1.out).extR hb2).trans M3)
     obtain ⟨v2,h3,_⟩:=(HH2.out.ext hb2).hr
     have e2:=(cell_of h3 2).trans rfl
     have g2:=frozen_of h3 2
     clear H3 M3 hb2 h3 d0 d1 d2
     go_wp2
     go_returns
     exact ⟨rfl,by rw [HF.out]; exact HH3.out,HM3.out⟩
   · have HF:=Lib.hid (HF0.out hlt)
     clear HF0 HF1
     obtain ⟨po,co,rfl⟩:=own_sl h2
     refine wp_region_after (by kernel_rfl) (by kernel_rfl) ?_
     repeat (go_big_quiet_step ((fail)))
     refine wpQuiet_nil ?_
     rintro _ ⟨xx,rfl⟩
     obtain ⟨w1,hb1⟩:=xx
     try dsimp only
     have HH2:=Lib.hid (HH1.out.ext hb1)
     go_wp2
     go_returns
     exact ⟨rfl,by rw [HF.out]; exact HH2.out,HM1.out.extR hb1⟩
end Go.Proofs.YtmalncfcgcebhaaGreatDoor
namespace Go.Proofs.YtmalncfcgcebhaaGreatDoor
set_option linter.unusedVariables false
open Go.Proofs Go.RowKit
def nextT (W:List (ByteArray × Nat)) (a:Nat):Option Nat→ByteArray
 | some _=>⟨#[]⟩
 | none=>if h:a < W.length then W[a].1 else ⟨#[]⟩
def nextB (W:List (ByteArray × Nat)) (E a:Nat):Option Nat→Option Nat
 | some b=>some b
 | none=>if a < W.length then none else some E
theorem next_no {W:List (ByteArray × Nat)} {E a:Nat} (h:¬ a < W.length):nextT W a none=⟨#[]⟩∧nextB W E a none=failR W E a none:=by
 unfold nextT nextB failR
 rw [dif_neg h,if_neg h,dif_neg h]; exact ⟨rfl,rfl⟩
theorem next_yes {W:List (ByteArray × Nat)} {E a:Nat} (ha:a < W.length):nextT W a none=W[a].1∧nextB W E a none=none:=by
 unfold nextT nextB
 rw [dif_pos ha,if_pos ha]; exact ⟨rfl,rfl⟩
set_option maxRecDepth 20000 in
set_option maxHeartbeats 4000000 in
theorem RNext_c (base r:Nat) (W:List (ByteArray × Nat)) (E a:Nat) (bad:Option Nat) (w:World) (h:RdAt base w r W E a bad) (hl:W.length≤100000000) (ha:a≤200000000) (hE:E≤100000000) :
 Calls Tryz.prog 118 #[.pointer (some ⟨r,0,none⟩)] w fun e w'=>e=.returned (.string (nextT W a bad))∧RdAt base w' r W E a (nextB W E a bad)∧Mod (fun k=>k=r) w w':=by
 have HH:=Lib.hid h
 obtain ⟨v,h1,h2⟩:=h.hr
 have c0:=(cell_of h1 0).trans rfl
 have c1:=(cell_of h1 1).trans rfl
 have c2:=(cell_of h1 2).trans rfl
 have rl:=lt_of h1
 cases bad with
 | some b =>
   unfold badI at c2
   show Calls _ _ _ _ fun e w'=>e=.returned (.string ⟨#[]⟩)∧RdAt base w' r W E a (failR W E a (some b))∧Mod (fun k=>k=r) w w'
   clear h h1 h2
   go_enter Tryz.func118,Tryz.ntmps118
   go_wp2_with fail
   refine wp_region_after (by kernel_rfl) (by kernel_rfl) ?_
   repeat (go_big_quiet_step ((fail)))
   refine wpQuiet_nil ?_
   rintro _ ⟨xx,rfl⟩
   obtain ⟨w1,hb1⟩:=xx
   try dsimp only
   have HX:=Lib.hid hb1
   go_wp2_with fail
   refine Calls.mono (RFail_c base r W E a _ w1 (HH.out.ext HX.out) hl ha hE) ?_
   rintro e w2 ⟨rfl,h3,m3⟩
   go_wp2
   go_ret
   exact ⟨rfl,h3,((Mod.refl _ _).extR HX.out).trans m3⟩
 | none =>
   unfold badI at c2
   by_cases hlt:a < W.length
   · obtain ⟨e1,e2⟩:=next_yes (E:=E) hlt
     obtain ⟨g,cap,rfl,hbg,hgl,hcell⟩:=own_row_cells h2 (by omega)
     have k0:=(hcell (a*2) (by omega)).trans (wdV_at hlt).1
     rw [e1,e2]
     clear h h1 h2 e1 e2 hcell
     generalize W[a].1=t at *
     go_enter Tryz.func118,Tryz.ntmps118
     go_wp2_with fail
     refine wp_region_after (by kernel_rfl) (by kernel_rfl) ?_
     repeat (go_big_quiet_step ((fail)))
     refine wpQuiet_nil ?_
     rintro _ ⟨xx,rfl⟩
     obtain ⟨w1,hb1⟩:=xx
     try dsimp only
     have bc:=bcell hb1
     have d0:=(bc.1 r 0 rl).trans c0
     have d1:=(bc.1 r 1 rl).trans c1
     have d2:=(bc.1 g (a*2) hgl).trans k0
     have rl1:r < w1.heap.size:=Nat.lt_of_lt_of_le rl hb1.size
     have gl1:g < w1.heap.size:=Nat.lt_of_lt_of_le hgl hb1.size
     have HX:=Lib.hid hb1
     clear bc c0 c1 c2 k0 hb1
     go_wp2_with fail
     refine wp_region_after (by kernel_rfl) (by kernel_rfl) ?_
     repeat (go_big_quiet_step ((fail)))
     refine wpQuiet_nil ?_
     rintro _ ⟨xx,rfl⟩
     obtain ⟨w2,hb2⟩:=xx
     try dsimp only
     have HX2:=Lib.hid (HX.out.trans' hb2)
     clear hb2 d0 d1 d2
     go_wp2
     go_ret
     exact ⟨rfl,HH.out.ext HX2.out,(Mod.refl _ _).extR HX2.out⟩
   · obtain ⟨e1,e2⟩:=next_no (W:=W) (E:=E) (a:=a) hlt
     obtain ⟨po,co,rfl⟩:=own_sl h2
     rw [e1,e2]
     clear h h1 h2 e1 e2
     go_enter Tryz.func118,Tryz.ntmps118
     go_wp2_with fail
     refine wp_region_after (by kernel_rfl) (by kernel_rfl) ?_
     repeat (go_big_quiet_step ((fail)))
     refine wpQuiet_nil ?_
     rintro _ ⟨xx,rfl⟩
     obtain ⟨w1,hb1⟩:=xx
     try dsimp only
     have HX:=Lib.hid hb1
     go_wp2_with fail
     refine Calls.mono (RFail_c base r W E a _ w1 (HH.out.ext HX.out) hl ha hE) ?_
     rintro e w2 ⟨rfl,h3,m3⟩
     go_wp2
     go_ret
     exact ⟨rfl,h3,((Mod.refl _ _).extR HX.out).trans m3⟩
def numR (W:List (ByteArray × Nat)) (E a:Nat) (bad:Option Nat):Int × Nat × Option Nat :=
 match numOf (nextT W a bad).data.toList with
 | some n=>(n,a+1,nextB W E a bad)
 | none=>(0,a,failR W E a (nextB W E a bad))
theorem numR_range (W:List (ByteArray × Nat)) (E a:Nat) (bad:Option Nat):I64 (numR W E a bad).1:=by
 unfold numR
 cases h:numOf (nextT W a bad).data.toList with
 | some n=>exact numOf_range h
 | none=>unfold I64; show -9223372036854775808≤(0:Int)∧(0:Int)≤_; omega
theorem numR_le (W:List (ByteArray × Nat)) (E a:Nat) (bad:Option Nat):(numR W E a bad).2.1≤a+1:=by
 unfold numR
 split
 · exact Nat.le_refl _
 · exact Nat.le_succ _
theorem nextT_size {W:List (ByteArray × Nat)} (hW:∀ p∈W,p.1.size≤100000000) (a:Nat) (bad:Option Nat):(nextT W a bad).size≤100000000:=by
 unfold nextT
 split
 · exact Nat.zero_le _
 · split
   · exact hW _ (List.getElem_mem _)
   · exact Nat.zero_le _
theorem Mod.below' {base r:Nat} {w w':World} (h:Mod (fun k=>k=r) w w') (hr:base≤r) (hs:r < w.heap.size):Below base w w':=h.below (by omega) (fun k hk=>by rw [hk]; exact hr)
theorem RdAt.lt {base r E a:Nat} {w:World} {W:List (ByteArray × Nat)} {bad:Option Nat} (h:RdAt base w r W E a bad):r < w.heap.size:=by
 obtain ⟨v,h1,_⟩:=h.hr
 exact lt_of h1
set_option maxRecDepth 20000 in
set_option maxHeartbeats 4000000 in
theorem RNum_c (base r:Nat) (W:List (ByteArray × Nat)) (E a:Nat) (bad:Option Nat) (w:World) (hT:Tabs w) (h:RdAt base w r W E a bad) (hW:∀ p∈W,p.1.size≤100000000) (hl:W.length≤100000000) (ha:a≤100000000) (hE:E≤100000000) :
 Calls Tryz.prog 121 #[.pointer (some ⟨r,0,none⟩)] w fun e w'=>e=.returned (.int .i64 (numR W E a bad).1)∧RdAt base w' r W E (numR W E a bad).2.1 (numR W E a bad).2.2∧Mod (fun k=>k=r) w w':=by
 have HR:=Lib.hid (numR_range W E a bad)
 have HQ0:numR W E a bad=match numOf (nextT W a bad).data.toList with | some n=>(n,a+1,nextB W E a bad) | none=>(0,a,failR W E a (nextB W E a bad)):=rfl
 have HQ:=Lib.hid HQ0
 clear HQ0
 generalize numR W E a bad=R at *
 obtain ⟨n,a',bad'⟩:=R
 dsimp only at *
 have ht:=nextT_size hW a bad
 generalize hnt:nextT W a bad=t at *
 generalize hnb:nextB W E a bad=b at *
 have HNT:=Lib.hid hnt
 have HNB:=Lib.hid hnb
 have HBR:=Lib.hid h.br
 have HB10:=Lib.hid h.b10
 have HRL:=Lib.hid h.lt
 clear hnt hnb
 go_enter Tryz.func121,Tryz.ntmps121
 go_wp2_with fail
 refine Calls.mono (RNext_c base r W E a bad w h hl (by omega) hE) ?_
 rintro e w1 ⟨rfl,h1,m1⟩
 rw [HNT.out]
 rw [HNB.out] at h1
 have hT1:Tabs w1:=hT.below HB10.out (m1.below' HBR.out HRL.out)
 have HH1:=Lib.hid h1
 have HM1:=Lib.hid m1
 clear h h1 m1
 go_wp2_with fail
 refine Calls.mono (Number_c t ht w1 hT1) ?_
 rintro e w2 ⟨⟨q,rfl,hqr,hq⟩,hx2⟩
 have HH2:=Lib.hid (HH1.out.ext hx2)
 have HM2:=Lib.hid (HM1.out.extR hx2)
 have HQV:=Lib.hid hq
 clear hx2 hq HH1 HM1
 cases hno:numOf t.data.toList with
 | none =>
   have hq1:=HQ.out
   rw [hno] at hq1
   injection hq1 with q1 q2
   injection q2 with q2 q3
   replace q1:=q1.symm
   replace q2:=q2.symm
   subst q1 q2
   have HQ3:=Lib.hid q3
   clear HQ HQV hno q3
   go_wp2_with fail
   refine Calls.mono (RFail_c base r W E a b w2 HH2.out hl (by omega) hE) ?_
   rintro e w3 ⟨rfl,h3,m3⟩
   go_wp2
   go_ret
   exact ⟨rfl,by rw [HQ3.out]; exact h3,HM2.out.trans m3⟩
 | some m =>
   have hq1:=HQ.out
   rw [hno] at hq1
   injection hq1 with q1 q2
   injection q2 with q2 q3
   have hqm:=HQV.out m hno
   subst hqm
   replace q1:=q1.symm
   replace q2:=q2.symm
   replace q3:=q3.symm
   subst q1 q2 q3
   have HH3:=HH2.out.set (a':=a+1) (bad':=b) (o:=1) (u:=.int .i64 ((a:Int)+1)) (fun v=>by simp)
   obtain ⟨v,h4,_⟩:=HH2.out.hr
   have c1:=(cell_of h4 1).trans rfl
   have f1:=frozen_of h4 1
   have rl:=lt_of h4
   have HH4:=Lib.hid HH3
   clear HH3 h4 HQ HQV hno
   go_wp2
   go_ret
   exact ⟨rfl,HH4.out.1,HM2.out.trans HH4.out.2⟩
end Go.Proofs.YtmalncfcgcebhaaGreatDoor
namespace Go.Proofs.YtmalncfcgcebhaaGreatDoor
set_option linter.unusedVariables false
open Go.Proofs Go.RowKit
def numsS (W:List (ByteArray × Nat)) (E a:Nat) (bad:Option Nat):Nat→Nat × Option Nat
 | 0=>(a,bad)
 | i+1=>((numR W E (numsS W E a bad i).1 (numsS W E a bad i).2).2.1,(numR W E (numsS W E a bad i).1 (numsS W E a bad i).2).2.2)
def numsF (W:List (ByteArray × Nat)) (E a:Nat) (bad:Option Nat) (i:Nat):Int:=(numR W E (numsS W E a bad i).1 (numsS W E a bad i).2).1
theorem numsS_le (W:List (ByteArray × Nat)) (E a:Nat) (bad:Option Nat):∀ i,(numsS W E a bad i).1≤a+i
 | 0=>Nat.le_refl _
 | i+1=>by
   have h1:=numsS_le W E a bad i
   have h2:=numR_le W E (numsS W E a bad i).1 (numsS W E a bad i).2
   show (numR W E (numsS W E a bad i).1 (numsS W E a bad i).2).2.1≤_
   omega
theorem RdAt.keep {base r E a g:Nat} {w w':World} {W:List (ByteArray × Nat)} {bad:Option Nat} (h:RdAt base w r W E a bad) (hm:Mod (fun k=>k=g) w w') (hgr:g≠r) {c:Array Value} {T:TypeId} (hg:w.heap[g]?=some (.cells c T (0,0))) (hT:T≠233):RdAt base w' r W E a bad:=by
 obtain ⟨v,h1,h2⟩:=h.hr
 refine ⟨h.b10,h.br,v,hm.keep h1 (fun e=>hgr e.symm),own_keepB h2 fun k hk=>hm.block k (own_lt h2 hk) fun e=>?_⟩
 exact own_notB h2 hg hT (e ▸ hk)
set_option maxRecDepth 20000 in
set_option maxHeartbeats 4000000 in
theorem RNums_c (base r:Nat) (W:List (ByteArray × Nat)) (E a:Nat) (bad:Option Nat) (n:Nat) (w:World) (hT:Tabs w) (h:RdAt base w r W E a bad) (hW:∀ p∈W,p.1.size≤100000000) (hl:W.length≤100000000) (ha:a+n≤100000000) (hE:E≤100000000) (hn:n≤5) :
 Calls Tryz.prog 119 #[.pointer (some ⟨r,0,none⟩),.int .i64 (n:Int)] w fun e w'=>(∃ g,e=.returned (.slice (some ⟨g,0,none⟩) n n)∧w.heap.size≤g∧w'.heap[g]?=some (.cells (fillA (numsF W E a bad) n n) 2 (0,0)))∧RdAt base w' r W E (numsS W E a bad n).1 (numsS W E a bad n).2∧Mod (fun k=>k=r) w w':=by
 have hrl:=h.lt
 have hbr:=h.br
 have hb10:=h.b10
 obtain ⟨ii,hi,hz0,hz1,hz2⟩:=info_parts info_i64
 have hmk:=fun (x:World)=>run_make_ints 47 2 ii Tryz.underlying47 hi hz0 hz1 hz2 n (by omega) (numsF W E a bad) x
 go_enter Tryz.func119,Tryz.ntmps119
 go_wp2_with fail
 go_loopw [6,11] (fun _ u11 wr=>∃ i,i≤n∧u11=.int .i64 (i:Nat)∧wr.heap[w.heap.size]?=some (.cells (fillA (numsF W E a bad) i n) 2 (0,0))∧RdAt base wr r W E (numsS W E a bad i).1 (numsS W E a bad i).2∧Mod (fun k=>k=r) w wr) (fun _ u11 _=>n - (intOf u11).toNat)
 case atStart=>exact ⟨0,Nat.zero_le _,rfl,heap_at _ _ rfl,h.ext (Ext.alloc' _ _),(Mod.refl _ _).extR (Ext.alloc' _ _)⟩
 case round =>
  obtain ⟨i,hi,rfl,hg,hR,hM⟩:=hrel
  clear hmk
  by_cases hlt:i < n
  · have hle:=numsS_le W E a bad i
    have hs1:numsS W E a bad (i+1)=((numR W E (numsS W E a bad i).1 (numsS W E a bad i).2).2.1,(numR W E (numsS W E a bad i).1 (numsS W E a bad i).2).2.2):=rfl
    have hf1:numsF W E a bad i=(numR W E (numsS W E a bad i).1 (numsS W E a bad i).2).1:=rfl
    have HS:=Lib.hid hs1
    have HF:=Lib.hid hf1
    clear hs1 hf1
    generalize numsS W E a bad i=st at *
    obtain ⟨a1,b1⟩:=st
    dsimp only at *
    have hT1:Tabs wr:=hT.below hb10 (hM.below' hbr hrl)
    have HR:=Lib.hid hR
    have HM:=Lib.hid hM
    have HG:=Lib.hid hg
    have hgr:w.heap.size≠r:=by omega
    clear hR hM hg
    go_wp2_with fail
    refine Calls.mono (RNum_c base r W E a1 b1 wr hT1 HR.out hW hl (by omega) hE) ?_
    rintro e w1 ⟨rfl,h1,m1⟩
    have hg1:=m1.keep HG.out (fun e=>hgr e)
    have HG1:=Lib.hid hg1
    have HR1:=Lib.hid h1
    have HM1:=Lib.hid (HM.out.trans m1)
    have c1:=(cell_of hg1 i).trans (fillA_at _ _ _ _ hlt)
    have f1:=frozen_of hg1 i
    have gl:=lt_of hg1
    clear h1 m1 hg1
    generalize hW2:w1.setCell ⟨w.heap.size,i,none⟩ (.int .i64 (numR W E a1 b1).1)=W2
    have hg2:W2.heap[w.heap.size]?=some (.cells (fillA (numsF W E a bad) (i+1) n) 2 (0,0)):=by
     rw [← hW2,setCell_same HG1.out,← HF.out,fillA_set]
    have hE2:Mod (fun k=>k=w.heap.size) w1 W2:=by
     rw [← hW2]
     exact ⟨rfl,rfl,rfl,by rw [size_setCell]; exact Nat.le_refl _,fun k _ hk=>setCell_other i _ hk⟩
    have HR2:=Lib.hid (HR1.out.keep hE2 hgr HG1.out (by decide))
    have HG2:=Lib.hid hg2
    have hM2:Mod (fun k=>k=r) w W2:=⟨HM1.out.os ▸ hE2.os ▸ rfl,HM1.out.tape ▸ hE2.tape ▸ rfl,HM1.out.output ▸ hE2.output ▸ rfl,Nat.le_trans HM1.out.size hE2.size,fun k hk hn=>(hE2.block k (Nat.lt_of_lt_of_le hk HM1.out.size) (by omega)).trans (HM1.out.block k hk hn)⟩
    have HM2:=Lib.hid hM2
    clear hM2 hE2 hg2
    subst hW2
    go_wp2
    go_roundw
    case rel=>exact ⟨i+1,by omega,by go_num,HG2.out,by rw [HS.out]; exact HR2.out,HM2.out⟩
    case measure=>simp [intOf]; omega
  · obtain rfl:i=n:=by omega
    have HR:=Lib.hid hR
    have HM:=Lib.hid hM
    have HG:=Lib.hid hg
    clear hR hM hg
    go_wp2
    go_ret
    exact ⟨⟨_,rfl,Nat.le_refl _,HG.out⟩,HR.out,HM.out⟩
end Go.Proofs.YtmalncfcgcebhaaGreatDoor
namespace Go.Proofs.YtmalncfcgcebhaaGreatDoor
set_option linter.unusedVariables false
open Go.Proofs Go.RowKit
def keyFrom (s:ByteArray):Nat→Nat→Int→Int
 | 0,_,k=>k
 | f+1,pos,k=>if pos < s.size then keyFrom s f (pos+(Utf8.decode s pos).2) (fadd (fmul k 1114112) (((Utf8.decode s pos).1:Int)+1)) else k
def keyS (s:ByteArray):Int × Int:=if tornS s < 0 then (keyFrom s s.size 0 0,0) else (0,13)
theorem keyFrom_end (s:ByteArray) (f pos:Nat) (k:Int) (h:¬ pos < s.size):keyFrom s f pos k=k:=by
 cases f with
 | zero=>rfl
 | succ f=>simp [keyFrom,h]
set_option maxRecDepth 20000 in
set_option maxHeartbeats 4000000 in
theorem Key_c (s:ByteArray) (hs:s.size≤100000000) (w:World) (hT:Tabs w) :
 Calls Tryz.prog 164 #[.string s] w fun e w'=>e=.returned (.tuple #[.int .u64 (keyS s).1,.int .i64 (keyS s).2])∧Ext w w':=by
 by_cases ht:tornS s < 0
 · have hk:keyS s=(keyFrom s s.size 0 0,0):=by unfold keyS; rw [if_pos ht]
   rw [hk]
   generalize hK:keyFrom s s.size 0 0=K
   have hnt:=Torn_c s (by omega) w hT
   generalize tornS s=tn at *
   clear hk
   go_enter Tryz.func164,Tryz.ntmps164
   go_wp2_with fail
   refine Calls.mono hnt ?_
   rintro e w1 ⟨rfl,hx1⟩
   clear hnt
   go_wp2_with fail
   go_loopw [4,6] (fun u4 _ wr=>∃ pos fuel k,wr.heap[w1.heap.size]?=some (.stringIter s pos)∧u4=.int .u64 k∧U64 k∧Ext w wr∧w1.heap.size < wr.heap.size∧keyFrom s fuel pos k=K∧s.size≤pos+fuel) (fun _ _ wr=>s.size - wr.iterPos w1.heap.size)
   case atStart =>
    refine ⟨0,s.size,0, ?_,rfl,by unfold U64; omega,hx1.allocR _, ?_,hK,by omega⟩
    · exact World.iter_heap w1 s 0
    · show _ < (w1.alloc _).heap.size; rw [size_alloc]; exact Nat.lt_succ_self _
   case round =>
    obtain ⟨pos,fuel,k,hit,rfl,hku,hE,hsz,hkf,hfu⟩:=hrel
    have hx1s:=hx1.size
    have hmu:wr.iterPos w1.heap.size=pos:=by simp [World.iterPos,hit]
    by_cases hp:pos < s.size
    · have hnx:∀ ty,(Instr.next (.pointer (some ⟨w1.heap.size,0,none⟩)) true ty).run Tryz.prog wr=_:=fun ty=>Lib.run_next_any_at wr w1.heap.size s pos ty hit hp
      have hwd:=width_pos s pos hp
      have hd1:=decode_le s pos
      have hit2:=Lib.iterAt_heap wr w1.heap.size s pos (pos+(Utf8.decode s pos).2) hit
      have hE2:=hE.iterAt hx1s s (pos+(Utf8.decode s pos).2)
      have hsz2:w1.heap.size < (wr.iterAt w1.heap.size s (pos+(Utf8.decode s pos).2)).heap.size:=by rw [Lib.iterAt_size]; exact hsz
      obtain ⟨f,rfl⟩:∃ f,fuel=f+1:=⟨fuel - 1,by omega⟩
      rw [keyFrom,if_pos hp] at hkf
      have HKF:=Lib.hid hkf
      clear hkf hx1
      generalize hW:wr.iterAt w1.heap.size s (pos+(Utf8.decode s pos).2)=W1 at hnx hit2 hE2 hsz2
      generalize Utf8.decode s pos=D at *
      obtain ⟨r,kk⟩:=D
      dsimp only at *
      go_wp2_with fail
      refine Calls.mono (Fmul_c k 1114112 hku (by unfold U64; omega) _) ?_
      rintro e w2 ⟨rfl,rfl⟩
      have hmu2:=fmul_u k 1114112
      generalize fmul k 1114112=km at *
      go_wp2_with fail
      refine Calls.mono (Fadd_c km _ hmu2 (by unfold U64; omega) _) ?_
      rintro e w2 ⟨rfl,rfl⟩
      have hau:=fadd_u km ((r:Int)+1)
      have HAU:=Lib.hid hau
      clear hau
      go_wp2
      go_roundw
      case rel=>exact ⟨pos+kk,f,_,hit2,rfl,HAU.out,hE2,hsz2,HKF.out,by omega⟩
      case measure=>simp only [World.iterPos,hit2,hit]; omega
    · have hnx:∀ ty,(Instr.next (.pointer (some ⟨w1.heap.size,0,none⟩)) true ty).run Tryz.prog wr=_:=fun ty=>Lib.run_next_end_at wr w1.heap.size s pos ty hit hp
      rw [keyFrom_end s fuel pos k hp] at hkf
      have HKF:=Lib.hid hkf
      clear hkf
      go_wp2
      go_ret2
      exact ⟨by rw [← HKF.out]; rfl,hE⟩
 · have hk:keyS s=(0,13):=by unfold keyS; rw [if_neg ht]
   rw [hk]
   have hnt:=Torn_c s (by omega) w hT
   generalize tornS s=tn at *
   clear hk
   go_enter Tryz.func164,Tryz.ntmps164
   go_wp2_with fail
   refine Calls.mono hnt ?_
   rintro e w1 ⟨rfl,hx1⟩
   go_wp2
   go_ret2
   exact ⟨rfl,hx1⟩
end Go.Proofs.YtmalncfcgcebhaaGreatDoor
namespace Go.Proofs.YtmalncfcgcebhaaGreatDoor
set_option linter.unusedVariables false
open Go.Proofs Go.RowKit
def hexDigs:List UInt8:=[48,49,50,51,52,53,54,55,56,57,97,98,99,100,101,102]
def hexD (c:UInt8):Int:=Lib.indexByte hexDigs c
def hexFrom:List UInt8→Option (List Int)
 | a :: b :: r=>if hexD a < 0∨hexD b < 0 then none else (hexFrom r).map fun l=>(hexD a*16+hexD b) :: l
 | _=>some []
def hexOk (l:List UInt8):Bool:=(hexFrom l).isSome && decide (0 < l.length∧l.length % 2=0)
theorem ixb_lt (c:UInt8):∀ l:List UInt8,Lib.indexByte l c < l.length∨Lib.indexByte l c=-1
 | []=>.inr rfl
 | b :: l=>by
   have:=ixb_lt c l
   unfold Lib.indexByte
   rw [List.length_cons]
   split
   · exact .inl (by omega)
   · split
     · exact .inr rfl
     · rename_i h
       rcases this with h1 | h1
       · exact .inl (by omega)
       · rw [h1] at h; exact absurd rfl h
theorem hexD_bd (c:UInt8):-1≤hexD c∧hexD c≤15:=by
 have h1:=Lib.indexByte_ge hexDigs c
 have h2:=ixb_lt c hexDigs
 unfold hexD
 have h3:hexDigs.length=16:=rfl
 omega
theorem info_u8:∃ i z,Tryz.prog.info? 5=some i∧i.zero=some z∧i.size=1∧i.bytes=1∧z.cells.size=1:=by
 have h:(Tryz.prog.info? 5).map (fun i=>(i.zero,i.size,i.bytes))=some (some (.int .u8 0),1,1):=by kernel_rfl
 match hi:Tryz.prog.info? 5,h with
 | some i,h =>
   simp only [Option.map_some,Option.some.injEq,Prod.mk.injEq] at h
   exact ⟨i,_,rfl,h.1,h.2.1,h.2.2,rfl⟩
def u8V (l:List Int):List Value:=l.map fun x=>.int .u8 x
theorem or_dig:∀ h:Fin 16,∀ l:Fin 16,bits BinOp.or IntKind.i64 ((h.val:Int)*16) (l.val:Int)=(h.val:Int)*16+(l.val:Int):=by decide
theorem or_dig' {h l:Int} (h0:0≤h) (h1:h≤15) (l0:0≤l) (l1:l≤15):bits BinOp.or IntKind.i64 (h*16) l=h*16+l:=by
 have:=or_dig ⟨h.toNat,by omega⟩ ⟨l.toNat,by omega⟩
 simp only [Int.toNat_of_nonneg h0,Int.toNat_of_nonneg l0] at this
 exact this
theorem u8_back (x:UInt8):((x.toNat:Int)).toNat.toUInt8=x:=by
 rw [Int.toNat_natCast]
 exact UInt8.toNat_inj.1 (by simp)
theorem Dig_c (x:UInt8) (w:World):Calls Tryz.prog 117 #[.string ⟨#[48,49,50,51,52,53,54,55,56,57,97,98,99,100,101,102]⟩,.int .u8 (x.toNat:Int)] w fun e w'=>e=.returned (.int .i64 (hexD x))∧w=w':=by
 refine (IndexByte_c _ _ w).mono fun e w' h=>⟨?_,h.2.symm⟩
 rw [h.1,u8_back]
 rfl
def HexPost (base:Nat) (l:List UInt8) (e:Ending) (w':World):Prop :=
 ∃ v bs,e=.returned (.tuple #[v,.bool (hexOk l)])∧w'.ownsRow base 5 1 v bs.length (u8V bs)∧(hexFrom l).getD []=bs
set_option maxRecDepth 20000 in
set_option maxHeartbeats 4000000 in
theorem Bytes_c (s:ByteArray) (hs:s.size≤100000000) (w:World) :
 Calls Tryz.prog 122 #[.string s] w fun e w'=>HexPost w.heap.size s.data.toList e w'∧Ext w w':=by
 unfold HexPost
 have HOK0:hexOk s.data.toList=((hexFrom s.data.toList).isSome && decide (0 < s.data.toList.length∧s.data.toList.length % 2=0)):=rfl
 rw [← Lib.size_eq] at HOK0
 have HOK:=Lib.hid HOK0
 clear HOK0
 generalize hexOk s.data.toList=ok at *
 go_enter Tryz.func122,Tryz.ntmps122
 go_wp2
 go_loopw [4,5,6,7] (fun u4 u5 _ _ wr=>∃ i done,i≤s.size+1∧u5=.int .i64 (i:Nat)∧i % 2=0∧wr.ownsRow w.heap.size 5 1 u4 done.length (u8V done)∧Ext w wr∧hexFrom s.data.toList=(hexFrom (s.data.toList.drop i)).map (done++·)∧done.length≤i) (fun _ u5 _ _ wr=>s.size+1 - (intOf u5).toNat)
 case atStart=>exact ⟨0,[],by omega,rfl,rfl,⟨rfl,.inl ⟨rfl,rfl⟩⟩,Ext.refl _,by simp,Nat.zero_le _⟩
 case round =>
  obtain ⟨i,done,hi,rfl,hev,hown,hE,hw,hdl⟩:=hrel
  by_cases hlt:i+1 < s.size
  · have h0:i < s.size:=by omega
    obtain ⟨m,hm⟩:∃ m:Nat,(i:Int)+1=(m:Int):=⟨i+1,by omega⟩
    have hml:m < s.size:=by omega
    have hd:s.data.toList.drop i=s[i] :: s[m] :: s.data.toList.drop (i+2):=by
     obtain rfl:m=i+1:=by omega
     have hl:s.data.toList.length=s.size:=(Lib.size_eq s).symm
     rw [List.drop_eq_getElem_cons (by omega),List.drop_eq_getElem_cons (by omega)]
     congr 1
    rw [hd] at hw
    have HW:=Lib.hid hw
    have HO:=Lib.hid hown
    clear hw hown hd
    go_wp2_with fail
    refine wp_region_after (by kernel_rfl) (by kernel_rfl) ?_
    repeat (go_big_quiet_step ((go_at_call 117; exact quiet_after_same (Dig_c _ _))))
    refine wpQuiet_nil ?_
    rintro _ ⟨xx,rfl⟩
    obtain ⟨w1,hb1⟩:=xx
    try dsimp only
    generalize s[i]=x at *
    generalize s[m]=y at *
    have hx:=hexD_bd x
    have hy:=hexD_bd y
    have hE1:=hE.trans' hb1
    have HO1:=Lib.hid (own_ext HO.out hb1)
    have hst:hexFrom (x :: y :: s.data.toList.drop (i+2))=if hexD x < 0∨hexD y < 0 then none else (hexFrom (s.data.toList.drop (i+2))).map fun l=>(hexD x*16+hexD y) :: l:=rfl
    have HST:=Lib.hid hst
    clear hst hb1
    generalize hexD x=p at *
    generalize hexD y=q at *
    by_cases hpq:p < 0∨q < 0
    · have hno:hexFrom s.data.toList=none:=by rw [HW.out,HST.out,if_pos hpq]; rfl
      have hok:ok=false:=by rw [HOK.out,hno]; rfl
      have HNO:=Lib.hid hno
      clear HOK
      subst hok
      clear hno
      rcases Int.lt_or_le p 0 with hp | hp
      · go_wp2_with fail
        go_ret2
        exact ⟨⟨_,[],rfl,⟨rfl,.inl ⟨rfl,rfl⟩⟩,by rw [HNO.out]; rfl⟩,hE1⟩
      · have hq:q < 0:=by omega
        go_wp2_with fail
        go_ret2
        exact ⟨⟨_,[],rfl,⟨rfl,.inl ⟨rfl,rfl⟩⟩,by rw [HNO.out]; rfl⟩,hE1⟩
    · have hp0:0≤p:=by omega
      have hq0:0≤q:=by omega
      have hor:=or_dig' hp0 hx.2 hq0 hy.2
      have HPQ:=Lib.hid hpq
      clear hpq
      have hsz:=hE1.size
      go_upto_region 8 with (fail)
      go_wp2_with (at_builtin; refine wpList_appK w1 1 1 1 (by decide) (by decide) [.int .u8 (p*16+q)] rfl (by simp [Value.oneCell']) _ done.length _ w.heap.size 5 _ HO1.out 44 rfl _ _ rfl info_u8 Tryz.underlying44 _ rfl (by rfl) (by rfl) (by omega) hsz ?_)
      intro v' w' hw1 hw2 hw3
      have hE2:Ext w w':=ext_grown hE1 hw2 (fun j hj=>own_geB HO1.out hj)
      have hvv:u8V (done++[p*16+q])=u8V done++[.int .u8 (p*16+q)]:=by unfold u8V; rw [List.map_append]; rfl
      rw [← hvv] at hw1
      have H1:=Lib.hid hw1
      clear hw1 hw2 hw3 hvv hor
      have hnx:hexFrom s.data.toList=(hexFrom (s.data.toList.drop (i+2))).map ((done++[p*16+q])++·):=by
       rw [HW.out,HST.out,if_neg HPQ.out,Option.map_map]
       congr 1
       funext l
       simp
      have HNX:=Lib.hid hnx
      clear hnx
      go_wp2_with fail
      go_roundw
      case rel=>exact ⟨i+2,done++[p*16+q],by omega,by go_num,by omega,by rw [List.length_append]; exact H1.out,hE2,HNX.out,by rw [List.length_append,List.length_singleton]; omega⟩
      case measure=>simp [intOf]; omega
  · have hnil:hexFrom (s.data.toList.drop i)=some []:=by
     have hl:(s.data.toList.drop i).length≤1:=by rw [List.length_drop,← Lib.size_eq]; omega
     match hd:s.data.toList.drop i,hl with
     | [],_=>rfl
     | [a],_=>rfl
    have hyes:hexFrom s.data.toList=some done:=by rw [hw,hnil]; simp
    have hok:=HOK.out
    rw [hyes] at hok
    have HYES:=Lib.hid hyes
    have HO:=Lib.hid hown
    clear hw hyes hnil HOK hown
    by_cases hz:0 < s.size
    · by_cases h2:s.size % 2=0
      · have h2':(s.size:Int) % 2=0:=by omega
        have:ok=true:=by rw [hok]; simp [hz,h2]
        subst this
        clear hok
        go_wp2_with fail
        go_ret2
        exact ⟨⟨_,done,rfl,HO.out,by rw [HYES.out]; rfl⟩,hE⟩
      · have h2':((s.size:Int) % 2 == 0)=false:=beq_eq_false_iff_ne.2 (by omega)
        have:ok=false:=by rw [hok]; simp [hz,h2]
        subst this
        clear hok
        go_wp2_with fail
        go_ret2
        exact ⟨⟨_,done,rfl,HO.out,by rw [HYES.out]; rfl⟩,hE⟩
    · have:ok=false:=by rw [hok]; simp [hz]
      subst this
      clear hok
      go_wp2_with fail
      go_ret2
      exact ⟨⟨_,done,rfl,HO.out,by rw [HYES.out]; rfl⟩,hE⟩
end Go.Proofs.YtmalncfcgcebhaaGreatDoor
namespace Go.Proofs.YtmalncfcgcebhaaGreatDoor
set_option linter.unusedVariables false
open Go.Proofs Go.RowKit
inductive Cmd
 | create (B R W M S:Int)
 | window (B R W S K:Int)
 | add (h:Int) (nm:Bool) (name:ByteArray) (key d:Int)
 | tick
 | query (what:ByteArray) (h:Int) (l:List Int)
 | pair (what:ByteArray) (a b:Int)
 | imp (bs:List Int)
def nameOf (t:ByteArray):ByteArray:=t.extract 1 (t.size - 1)
def addCV (h:Int) (nm:Bool) (name:ByteArray) (key d:Int):Value:=.agg #[.int .i64 h,.bool nm,.string name,.int .u64 key,.int .i64 d]
def addR (W:List (ByteArray × Nat)) (E a:Nat) (bad:Option Nat):(Int × Bool × ByteArray × Int × Int) × Nat × Option Nat :=
 let s1:=numR W E a bad
 let t:=nextT W s1.2.1 s1.2.2
 let b1:=nextB W E s1.2.1 s1.2.2
 if namedOf t=true then
  let s3:=numR W E (s1.2.1+1) b1
  ((s1.1,true,nameOf t,(keyS (nameOf t)).1,s3.1),s3.2.1,s3.2.2)
 else
  let s2:=numR W E s1.2.1 b1
  let s3:=numR W E s2.2.1 s2.2.2
  ((s1.1,false,⟨#[]⟩,s2.1 % 18446744073709551616,s3.1),s3.2.1,s3.2.2)
theorem nameOf_size (t:ByteArray):(nameOf t).size≤t.size:=by
 unfold nameOf
 rw [Lib.size_eq,Lib.extract_data,List.length_take,List.length_drop,← Lib.size_eq]
 omega
theorem RdAt.cell {base r E a g:Nat} {w:World} {W:List (ByteArray × Nat)} {bad:Option Nat} (h:RdAt base w r W E a bad) {c:Array Value} {T:TypeId} (hg:w.heap[g]?=some (.cells c T (0,0))) (hgr:g≠r) (hT:T≠233) (o:Nat) (u:Value):RdAt base (w.setCell ⟨g,o,none⟩ u) r W E a bad :=
 h.keep (w':=w.setCell ⟨g,o,none⟩ u) (g:=g) ⟨rfl,rfl,rfl,by rw [size_setCell]; exact Nat.le_refl _,fun k _ hk=>setCell_other o u hk⟩ hgr hg hT
structure ModN (r B:Nat) (w w':World):Prop where
 m:Mod (fun k=>k=r∨B≤k) w w'
theorem ModN.cell {r B g:Nat} {w w':World} (h:ModN r B w w') (hg:B≤g) (o:Nat) (u:Value):ModN r B w (w'.setCell ⟨g,o,none⟩ u) :=
 ⟨h.m.os,h.m.tape,h.m.output,by rw [size_setCell]; exact h.m.size,fun k hk hn=>(setCell_other o u (by omega)).trans (h.m.block k hk hn)⟩
theorem ModN.cellR {r B:Nat} {w w':World} (h:ModN r B w w') (o:Nat) (u:Value):ModN r B w (w'.setCell ⟨r,o,none⟩ u) :=
 ⟨h.m.os,h.m.tape,h.m.output,by rw [size_setCell]; exact h.m.size,fun k hk hn=>(setCell_other o u (by omega)).trans (h.m.block k hk hn)⟩
theorem ModN.mod {r B:Nat} {w w' w2:World} (h:ModN r B w w') (hm:Mod (fun k=>k=r) w' w2):ModN r B w w2 :=
 ⟨h.m.trans (hm.mono (fun k hk _=>.inl hk))⟩
theorem ModN.extN {r B:Nat} {w w' w2:World} (h:ModN r B w w') (hm:Ext w' w2):ModN r B w w2:=⟨h.m.extR hm⟩
theorem ModN.out {r:Nat} {w w':World} (h:ModN r w.heap.size w w'):Mod (fun k=>k=r) w w':=h.m.mono fun k hk hl=>hk.resolve_right (by omega)
set_option maxRecDepth 20000 in
set_option maxHeartbeats 8000000 in
theorem RAdd_c (base r:Nat) (W:List (ByteArray × Nat)) (E a:Nat) (bad:Option Nat) (w:World) (hT:Tabs w) (h:RdAt base w r W E a bad) (hW:∀ p∈W,p.1.size≤100000000) (hl:W.length≤100000000) (ha:a≤1000000) (hE:E≤100000000) :
 Calls Tryz.prog 120 #[.pointer (some ⟨r,0,none⟩)] w fun e w'=>(∃ h nm name key d a' bad',addR W E a bad=((h,nm,name,key,d),a',bad')∧e=.returned (addCV h nm name key d)∧RdAt base w' r W E a' bad')∧Mod (fun k=>k=r) w w':=by
 have hrl:=h.lt
 have hbr:=h.br
 have hb10:=h.b10
 have h1le:=numR_le W E a bad
 have HA0:addR W E a bad=(let s1:=numR W E a bad
  let t:=nextT W s1.2.1 s1.2.2
  let b1:=nextB W E s1.2.1 s1.2.2
  if namedOf t=true then
   let s3:=numR W E (s1.2.1+1) b1
   ((s1.1,true,nameOf t,(keyS (nameOf t)).1,s3.1),s3.2.1,s3.2.2)
  else
   let s2:=numR W E s1.2.1 b1
   let s3:=numR W E s2.2.1 s2.2.2
   ((s1.1,false,⟨#[]⟩,s2.1 % 18446744073709551616,s3.1),s3.2.1,s3.2.2)):=rfl
 have HN1:=Lib.hid (RNum_c base r W E a bad (w.alloc (.cells #[.int .i64 0,.bool false,.string ⟨#[]⟩,.int .u64 0,.int .i64 0] 174)) (hT.ext (Ext.alloc' _ _)) (h.ext (Ext.alloc' _ _)) hW hl (by omega) hE)
 generalize numR W E a bad=s1 at *
 obtain ⟨n1,a1,b1⟩:=s1
 dsimp only at *
 have htsz:=nextT_size hW a1 b1
 have HN2:=fun w' h=>Lib.hid (RNext_c base r W E a1 b1 w' h hl (by omega) hE)
 generalize nextT W a1 b1=t at *
 generalize nextB W E a1 b1=b2 at *
 have HA:=Lib.hid HA0
 clear HA0
 generalize addR W E a bad=R at *
 go_enter Tryz.func120,Tryz.ntmps120
 go_wp2_with fail
 refine Calls.mono HN1.out ?_
 rintro e w1 ⟨rfl,h1,m1⟩
 have hz2:w1.heap[w.heap.size]?=some (.cells #[.int .i64 0,.bool false,.string ⟨#[]⟩,.int .u64 0,.int .i64 0] 174 (0,0)):=m1.keep (heap_at _ _ rfl) (by omega)
 have M1:ModN r w.heap.size w w1:=ModN.mod ⟨(Mod.refl _ _).extR (Ext.alloc' _ _)⟩ m1
 have hs1:=lt_of hz2
 have HT1:=Lib.hid (hT.below hb10 (M1.out.below' hbr hrl))
 have HR1:=Lib.hid h1
 have HM1:=Lib.hid M1
 have HZ2:=Lib.hid hz2
 clear hz2 M1 m1 h1 HN1 h
 go_wp2_with fail
 refine Calls.mono (HN2 _ (HR1.out.ext (Ext.alloc' _ _))).out ?_
 rintro e w2 ⟨rfl,h2,m2⟩
 have hb3:w2.heap[w1.heap.size]?=some (.cells #[.int .i64 n1,.bool false,.string ⟨#[]⟩,.int .u64 0,.int .i64 0] 174 (0,0)):=m2.keep (heap_at _ _ rfl) (by have:=HR1.out.lt; omega)
 have hz2:w2.heap[w.heap.size]?=some (.cells #[.int .i64 0,.bool false,.string ⟨#[]⟩,.int .u64 0,.int .i64 0] 174 (0,0)):=m2.keep ((heap_old _ _ hs1).trans HZ2.out) (by omega)
 have M2:=(HM1.out.extN (Ext.alloc' _ _)).mod m2
 have hr1:=HR1.out.lt
 have HR2:=Lib.hid h2
 have HM2:=Lib.hid M2
 have HB3:=Lib.hid hb3
 have HZ2':=Lib.hid hz2
 clear M2 m2 h2 HN2 HR1 HM1 HZ2 HT1 hb3 hz2
 go_wp2_with fail
 refine Calls.mono (Named_c t htsz w2) ?_
 rintro e w3 ⟨nt,rfl,hnt,rfl⟩
 have hT3:=hT.below hb10 (HM2.out.out.below' hbr hrl)
 generalize hg3:w1.heap.size=g3 at *
 have hgr:g3≠r:=by omega
 have hgz:w.heap.size≠g3:=by omega
 have hzr:w.heap.size≠r:=by omega
 have hgw:w.heap.size≤g3:=by omega
 cases hnm:namedOf t with
 | true =>
   have hntE:=hnt hnm
   have hnts:nt.size≤100000000:=by have:=nameOf_size t; unfold nameOf at this; rw [hntE]; omega
   have HA1:=HA.out
   rw [if_pos hnm] at HA1
   have HA2:=Lib.hid HA1
   have HNT:=Lib.hid hntE
   have hKY:=fun w' h=>Lib.hid (Key_c nt hnts w' h)
   have hb3:=HB3.out
   have p1:=(cell_of hb3 1).trans rfl
   have p2:=(cell_of hb3 2).trans rfl
   have f1:=frozen_of hb3 1
   have f2:=frozen_of hb3 2
   have gl:=lt_of hb3
   clear HA1 HA hnt hnm hntE hb3
   go_wp2_with fail
   refine Calls.mono (hKY _ ?tk).out ?_
   case tk=>exact hT.below hb10 (((HM2.out.cell hgw _ _).cell hgw _ _).out.below' hbr hrl)
   rintro e w4 ⟨rfl,hx4⟩
   have hb4:w4.heap[g3]?=some (.cells #[.int .i64 n1,.bool true,.string nt,.int .u64 0,.int .i64 0] 174 (0,0)):=hx4.keep (by rw [setCell_same (setCell_same HB3.out 1 _) 2 _]; rfl)
   have hz4:w4.heap[w.heap.size]?=some (.cells #[.int .i64 0,.bool false,.string ⟨#[]⟩,.int .u64 0,.int .i64 0] 174 (0,0)):=hx4.keep ((setCell_other _ _ hgz).trans ((setCell_other _ _ hgz).trans HZ2'.out))
   have HR4:=Lib.hid (((HR2.out.cell HB3.out hgr (by decide) 1 (.bool true)).cell (setCell_same HB3.out 1 _) hgr (by decide) 2 (.string nt)).ext hx4)
   have HM4:=Lib.hid (((HM2.out.cell hgw 1 (.bool true)).cell hgw 2 (.string nt)).extN hx4)
   have HB4:=Lib.hid hb4
   have HZ4:=Lib.hid hz4
   have q3:=(cell_of hb4 3).trans rfl
   have k3:=frozen_of hb4 3
   have gl4:=lt_of hb4
   obtain ⟨v,hrr,_⟩:=HR4.out.hr
   have rc:=(cell_of hrr 1).trans rfl
   have rf:=frozen_of hrr 1
   have rl4:=lt_of hrr
   clear p1 p2 f1 f2 gl hx4 hb4 hz4 hrr HR2 HM2 HB3 HZ2' hKY
   go_wp2_with fail
   have HR5:=Lib.hid ((HR4.out.cell HB4.out hgr (by decide) 3 (.int .u64 (keyS nt).1)).set (a':=a1+1) (bad':=b2) (o:=1) (u:=.int .i64 ((a1:Int)+1)) (fun v=>by simp)).1
   have HM5:=Lib.hid ((HM4.out.cell hgw 3 (.int .u64 (keyS nt).1)).cellR 1 (.int .i64 ((a1:Int)+1)))
   refine Calls.mono (RNum_c base r W E (a1+1) b2 _ (hT.below hb10 (HM5.out.out.below' hbr hrl)) HR5.out hW hl (by omega) hE) ?_
   rintro e w6 ⟨rfl,h6,m6⟩
   have hb6:w6.heap[g3]?=some (.cells #[.int .i64 n1,.bool true,.string nt,.int .u64 (keyS nt).1,.int .i64 0] 174 (0,0)):=m6.keep ((setCell_other _ _ hgr).trans (setCell_same HB4.out 3 _)) hgr
   have hz6:w6.heap[w.heap.size]?=some (.cells #[.int .i64 0,.bool false,.string ⟨#[]⟩,.int .u64 0,.int .i64 0] 174 (0,0)):=m6.keep ((setCell_other _ _ hzr).trans ((setCell_other _ _ hgz).trans HZ4.out)) hzr
   have HM6:=Lib.hid (HM5.out.mod m6)
   have HR6:=Lib.hid h6
   have HB6:=Lib.hid hb6
   have HZ6:=Lib.hid hz6
   have e0:=(cell_of hb6 0).trans rfl
   have e1:=(cell_of hb6 1).trans rfl
   have e2:=(cell_of hb6 2).trans rfl
   have e3:=(cell_of hb6 3).trans rfl
   have e4:=(cell_of hb6 4).trans rfl
   have i4:=frozen_of hb6 4
   have gl6:=lt_of hb6
   have z0:=(cell_of hz6 0).trans rfl
   have z1:=(cell_of hz6 1).trans rfl
   have z2:=(cell_of hz6 2).trans rfl
   have z3:=(cell_of hz6 3).trans rfl
   have z4:=(cell_of hz6 4).trans rfl
   have j0:=frozen_of hz6 0
   have j1:=frozen_of hz6 1
   have j2:=frozen_of hz6 2
   have j3:=frozen_of hz6 3
   have j4:=frozen_of hz6 4
   have zl6:=lt_of hz6
   clear h6 m6 hb6 hz6 q3 k3 gl4 rc rf rl4 HR4 HM4 HB4 HZ4 HR5 HM5
   generalize numR W E (a1+1) b2=s3 at *
   obtain ⟨d,a3,b3⟩:=s3
   dsimp only at HA2 HR6 ⊢
   go_wp2_with fail
   have hz9:=setCell_same (setCell_same (setCell_same (setCell_same (setCell_same ((setCell_other (w:=w6) (b:=g3) 4 (.int .i64 d) hgz).trans HZ6.out) 0 (.int .i64 n1)) 1 (.bool true)) 2 (.string nt)) 3 (.int .u64 (keyS nt).1)) 4 (.int .i64 d)
   have HR9:=Lib.hid ((((((HR6.out.cell HB6.out hgr (by decide) 4 (.int .i64 d)).cell ((setCell_other (w:=w6) (b:=g3) 4 (.int .i64 d) hgz).trans HZ6.out) hzr (by decide) 0 (.int .i64 n1)).cell (setCell_same ((setCell_other (w:=w6) (b:=g3) 4 (.int .i64 d) hgz).trans HZ6.out) 0 (.int .i64 n1)) hzr (by decide) 1 (.bool true)).cell (setCell_same (setCell_same ((setCell_other (w:=w6) (b:=g3) 4 (.int .i64 d) hgz).trans HZ6.out) 0 (.int .i64 n1)) 1 (.bool true)) hzr (by decide) 2 (.string nt)).cell (setCell_same (setCell_same (setCell_same ((setCell_other (w:=w6) (b:=g3) 4 (.int .i64 d) hgz).trans HZ6.out) 0 (.int .i64 n1)) 1 (.bool true)) 2 (.string nt)) hzr (by decide) 3 (.int .u64 (keyS nt).1)).cell (setCell_same (setCell_same (setCell_same (setCell_same ((setCell_other (w:=w6) (b:=g3) 4 (.int .i64 d) hgz).trans HZ6.out) 0 (.int .i64 n1)) 1 (.bool true)) 2 (.string nt)) 3 (.int .u64 (keyS nt).1)) hzr (by decide) 4 (.int .i64 d))
   have HM9:=Lib.hid ((((((HM6.out.cell hgw 4 (.int .i64 d)).cell (Nat.le_refl _) 0 (.int .i64 n1)).cell (Nat.le_refl _) 1 (.bool true)).cell (Nat.le_refl _) 2 (.string nt)).cell (Nat.le_refl _) 3 (.int .u64 (keyS nt).1)).cell (Nat.le_refl _) 4 (.int .i64 d))
   generalize (((((w6.setCell ⟨g3,4,none⟩ (.int .i64 d)).setCell ⟨w.heap.size,0,none⟩ (.int .i64 n1)).setCell ⟨w.heap.size,1,none⟩ (.bool true)).setCell ⟨w.heap.size,2,none⟩ (.string nt)).setCell ⟨w.heap.size,3,none⟩ (.int .u64 (keyS nt).1)).setCell ⟨w.heap.size,4,none⟩ (.int .i64 d)=W9 at hz9 HR9 HM9 ⊢
   have r0:=(cell_of hz9 0).trans rfl
   have r1:=(cell_of hz9 1).trans rfl
   have r2:=(cell_of hz9 2).trans rfl
   have r3:=(cell_of hz9 3).trans rfl
   have r4:=(cell_of hz9 4).trans rfl
   clear e0 e1 e2 e3 e4 i4 gl6 z0 z1 z2 z3 z4 j0 j1 j2 j3 j4 zl6 hz9
   refine bodyPost_ret (v:=addCV n1 true nt (keyS nt).1 d) (by simp [results,Tryz.results120,go_sem,r0,r1,r2,r3,r4,addCV]) rfl ⟨⟨n1,true,nt,(keyS nt).1,d,a3,b3, ?_,rfl,HR9.out⟩,HM9.out.out⟩
   rw [HA2.out,HNT.out]
   rfl
 | false =>
   have HA1:=HA.out
   rw [if_neg (by rw [hnm]; exact Bool.false_ne_true)] at HA1
   have HN3:=Lib.hid (RNum_c base r W E a1 b2 _ hT3 HR2.out hW hl (by omega) hE)
   have h2le:=numR_le W E a1 b2
   have h2r:=numR_range W E a1 b2
   generalize numR W E a1 b2=s2 at *
   obtain ⟨n2,a2,b2'⟩:=s2
   dsimp only at *
   have HA2:=Lib.hid HA1
   clear HA1 HA hnt hnm
   go_wp2_with fail
   refine Calls.mono HN3.out ?_
   rintro e w4 ⟨rfl,h4,m4⟩
   have hb4:w4.heap[g3]?=some (.cells #[.int .i64 n1,.bool false,.string ⟨#[]⟩,.int .u64 0,.int .i64 0] 174 (0,0)):=m4.keep HB3.out hgr
   have hz4:w4.heap[w.heap.size]?=some (.cells #[.int .i64 0,.bool false,.string ⟨#[]⟩,.int .u64 0,.int .i64 0] 174 (0,0)):=m4.keep HZ2'.out hzr
   have HR4:=Lib.hid h4
   have HM4:=Lib.hid (HM2.out.mod m4)
   have HB4:=Lib.hid hb4
   have HZ4:=Lib.hid hz4
   have q3:=(cell_of hb4 3).trans rfl
   have k3:=frozen_of hb4 3
   have gl4:=lt_of hb4
   have hwu:=IntKind.wrap_u64 n2
   clear h4 m4 hb4 hz4 HR2 HM2 HB3 HZ2' HN3
   go_wp2_with fail
   have HR5:=Lib.hid (HR4.out.cell HB4.out hgr (by decide) 3 (.int .u64 (n2 % 18446744073709551616)))
   have HM5:=Lib.hid (HM4.out.cell hgw 3 (.int .u64 (n2 % 18446744073709551616)))
   refine Calls.mono (RNum_c base r W E a2 b2' _ (hT.below hb10 (HM5.out.out.below' hbr hrl)) HR5.out hW hl (by omega) hE) ?_
   rintro e w6 ⟨rfl,h6,m6⟩
   have hb6:w6.heap[g3]?=some (.cells #[.int .i64 n1,.bool false,.string ⟨#[]⟩,.int .u64 (n2 % 18446744073709551616),.int .i64 0] 174 (0,0)):=m6.keep (setCell_same HB4.out 3 _) hgr
   have hz6:w6.heap[w.heap.size]?=some (.cells #[.int .i64 0,.bool false,.string ⟨#[]⟩,.int .u64 0,.int .i64 0] 174 (0,0)):=m6.keep ((setCell_other _ _ hgz).trans HZ4.out) hzr
   have HM6:=Lib.hid (HM5.out.mod m6)
   have HR6:=Lib.hid h6
   have HB6:=Lib.hid hb6
   have HZ6:=Lib.hid hz6
   have e0:=(cell_of hb6 0).trans rfl
   have e1:=(cell_of hb6 1).trans rfl
   have e2:=(cell_of hb6 2).trans rfl
   have e3:=(cell_of hb6 3).trans rfl
   have e4:=(cell_of hb6 4).trans rfl
   have i4:=frozen_of hb6 4
   have gl6:=lt_of hb6
   have z0:=(cell_of hz6 0).trans rfl
   have z1:=(cell_of hz6 1).trans rfl
   have z2:=(cell_of hz6 2).trans rfl
   have z3:=(cell_of hz6 3).trans rfl
   have z4:=(cell_of hz6 4).trans rfl
   have j0:=frozen_of hz6 0
   have j1:=frozen_of hz6 1
   have j2:=frozen_of hz6 2
   have j3:=frozen_of hz6 3
   have j4:=frozen_of hz6 4
   have zl6:=lt_of hz6
   clear h6 m6 hb6 hz6 q3 k3 gl4 HR4 HM4 HB4 HZ4 HR5 HM5
   generalize numR W E a2 b2'=s3 at *
   obtain ⟨d,a3,b3⟩:=s3
   dsimp only at HA2 HR6 ⊢
   go_wp2_with fail
   have hz9:=setCell_same (setCell_same (setCell_same (setCell_same (setCell_same ((setCell_other (w:=w6) (b:=g3) 4 (.int .i64 d) hgz).trans HZ6.out) 0 (.int .i64 n1)) 1 (.bool false)) 2 (.string ⟨#[]⟩)) 3 (.int .u64 (n2 % 18446744073709551616))) 4 (.int .i64 d)
   have HR9:=Lib.hid ((((((HR6.out.cell HB6.out hgr (by decide) 4 (.int .i64 d)).cell ((setCell_other (w:=w6) (b:=g3) 4 (.int .i64 d) hgz).trans HZ6.out) hzr (by decide) 0 (.int .i64 n1)).cell (setCell_same ((setCell_other (w:=w6) (b:=g3) 4 (.int .i64 d) hgz).trans HZ6.out) 0 (.int .i64 n1)) hzr (by decide) 1 (.bool false)).cell (setCell_same (setCell_same ((setCell_other (w:=w6) (b:=g3) 4 (.int .i64 d) hgz).trans HZ6.out) 0 (.int .i64 n1)) 1 (.bool false)) hzr (by decide) 2 (.string ⟨#[]⟩)).cell (setCell_same (setCell_same (setCell_same ((setCell_other (w:=w6) (b:=g3) 4 (.int .i64 d) hgz).trans HZ6.out) 0 (.int .i64 n1)) 1 (.bool false)) 2 (.string ⟨#[]⟩)) hzr (by decide) 3 (.int .u64 (n2 % 18446744073709551616))).cell (setCell_same (setCell_same (setCell_same (setCell_same ((setCell_other (w:=w6) (b:=g3) 4 (.int .i64 d) hgz).trans HZ6.out) 0 (.int .i64 n1)) 1 (.bool false)) 2 (.string ⟨#[]⟩)) 3 (.int .u64 (n2 % 18446744073709551616))) hzr (by decide) 4 (.int .i64 d))
   have HM9:=Lib.hid ((((((HM6.out.cell hgw 4 (.int .i64 d)).cell (Nat.le_refl _) 0 (.int .i64 n1)).cell (Nat.le_refl _) 1 (.bool false)).cell (Nat.le_refl _) 2 (.string ⟨#[]⟩)).cell (Nat.le_refl _) 3 (.int .u64 (n2 % 18446744073709551616))).cell (Nat.le_refl _) 4 (.int .i64 d))
   generalize (((((w6.setCell ⟨g3,4,none⟩ (.int .i64 d)).setCell ⟨w.heap.size,0,none⟩ (.int .i64 n1)).setCell ⟨w.heap.size,1,none⟩ (.bool false)).setCell ⟨w.heap.size,2,none⟩ (.string ⟨#[]⟩)).setCell ⟨w.heap.size,3,none⟩ (.int .u64 (n2 % 18446744073709551616))).setCell ⟨w.heap.size,4,none⟩ (.int .i64 d)=W9 at hz9 HR9 HM9 ⊢
   have r0:=(cell_of hz9 0).trans rfl
   have r1:=(cell_of hz9 1).trans rfl
   have r2:=(cell_of hz9 2).trans rfl
   have r3:=(cell_of hz9 3).trans rfl
   have r4:=(cell_of hz9 4).trans rfl
   clear e0 e1 e2 e3 e4 i4 gl6 z0 z1 z2 z3 z4 j0 j1 j2 j3 j4 zl6 hz9
   refine bodyPost_ret (v:=addCV n1 false ⟨#[]⟩ (n2 % 18446744073709551616) d) (by simp [results,Tryz.results120,go_sem,r0,r1,r2,r3,r4,addCV]) rfl ⟨⟨n1,false,⟨#[]⟩,(n2 % 18446744073709551616),d,a3,b3, ?_,rfl,HR9.out⟩,HM9.out.out⟩
   rw [HA2.out]
end Go.Proofs.YtmalncfcgcebhaaGreatDoor
namespace Go.Proofs.YtmalncfcgcebhaaGreatDoor
set_option linter.unusedVariables false
open Go.Proofs Go.RowKit
def CmdAt (base:Nat) (w:World) (v:Value):Cmd→Prop
 | .create B R W M S=>v=.iface 167 (.agg #[.int .i64 B,.int .i64 R,.int .i64 W,.int .i64 M,.int .u64 S])
 | .window B R W S K=>v=.iface 170 (.agg #[.int .i64 B,.int .i64 R,.int .i64 W,.int .i64 1,.int .u64 S,.int .i64 K])
 | .add h nm name key d=>v=.iface 174 (addCV h nm name key d)
 | .tick=>v=.iface 176 (.agg #[])
 | .query what h l=>∃ s,v=.iface 179 (.agg #[.string what,.int .i64 h,s])∧((l=[]∧s=.slice none 0 0)∨∃ g f,s=.slice (some ⟨g,1,none⟩) l.length l.length∧base≤g∧w.heap[g]?=some (.cells (fillA f (l.length+1) (l.length+1)) 2 (0,0))∧l=(List.range l.length).map fun i=>f (i+1))
 | .pair what a b=>v=.iface 182 (.agg #[.string what,.int .i64 a,.int .i64 b])
 | .imp bs=>∃ s,v=.iface 185 (.agg #[s])∧w.ownsRow base 5 1 s bs.length (u8V bs)
def CmdPost (base r:Nat) (W:List (ByteArray × Nat)) (E:Nat) (w:World) (R:Cmd × Nat × Option Nat) (e:Ending) (w':World):Prop :=
 (∃ v,e=.returned v∧CmdAt base w' v R.1∧RdAt base w' r W E R.2.1 R.2.2)∧Mod (fun k=>k=r) w w'
theorem fill_cell {w:World} {g n:Nat} {f:Nat→Int} {T:TypeId} (h:w.heap[g]?=some (.cells (fillA f n n) T (0,0))) {i:Nat} (hi:i < n):w.cell? ⟨g,i,none⟩=some (.int .i64 (f i)):=by
 rw [cell_of h,fillA_at _ _ _ _ hi,if_pos hi]
theorem vb_eq {b:ByteArray} {l:List UInt8} (h:b.toList=l):b=⟨l.toArray⟩:=by
 rw [← h,Lib.toList_data]
set_option maxRecDepth 20000 in
set_option maxHeartbeats 8000000 in
theorem RCmdCreate_c (base r:Nat) (W:List (ByteArray × Nat)) (E:Nat) (w:World) (hT:Tabs w) (h:RdAt base w r W E 0 none) (hW:∀ p∈W,p.1.size≤100000000) (hl:W.length≤100000000) (hl0:0 < W.length) (hE:E≤100000000) (hv:W[0].1.toList=[99,114,101,97,116,101]) :
 Calls Tryz.prog 80 #[.pointer (some ⟨r,0,none⟩)] w (CmdPost base r W E w (.create (numsF W E 1 none 0) (numsF W E 1 none 1) (numsF W E 1 none 2) (numsF W E 1 none 3) ((numsF W E 1 none 4) % 18446744073709551616),(numsS W E 1 none 5).1,(numsS W E 1 none 5).2)):=by
 have hrl:=h.lt
 have hbr:=h.br
 have hb10:=h.b10
 have hs0:base≤w.heap.size:=by omega
 have HN1:=Lib.hid (RNext_c base r W E 0 none w h hl (by omega) hE)
 obtain ⟨e1,e2⟩:=next_yes (E:=E) hl0
 rw [e1,e2] at HN1
 generalize W[0].1=vb at *
 clear e1 e2
 go_enter Tryz.func80,Tryz.ntmps80
 go_wp2_with fail
 refine Calls.mono HN1.out ?_
 rintro e w1 ⟨rfl,h1,m1⟩
 have HR2:=Lib.hid (h1.set (a':=1) (bad':=none) (o:=1) (u:=.int .i64 1) (fun v=>by simp)).1
 have HM2:=Lib.hid (m1.trans (h1.set (a':=1) (bad':=none) (o:=1) (u:=.int .i64 1) (fun v=>by simp)).2)
 have HT2:=Lib.hid (hT.below hb10 (HM2.out.below' hbr hrl))
 obtain ⟨v,hrr,_⟩:=h1.hr
 have rc:=(cell_of hrr 1).trans rfl
 have rf:=frozen_of hrr 1
 have rl1:=lt_of hrr
 have hs1:=m1.size
 clear HN1 hrr h1 m1
 go_wp2_with fail
 generalize hW2:w1.setCell ⟨r,1,none⟩ (.int .i64 1)=w2 at *
 have hs2:w.heap.size≤w2.heap.size:=HM2.out.size
 clear rc rf rl1 hW2
 refine Calls.mono (RNums_c base r W E 1 none 5 w2 HT2.out HR2.out hW hl (by omega) hE (by decide)) ?_
 rintro e w3 ⟨⟨g,rfl,hg,hgc⟩,h3,m3⟩
 have HR3:=Lib.hid h3
 have HM3:=Lib.hid (HM2.out.trans m3)
 have HG:=Lib.hid hgc
 have gl:=lt_of hgc
 have c0:=fill_cell hgc (i:=0) (by decide)
 have c1:=fill_cell hgc (i:=1) (by decide)
 have c2:=fill_cell hgc (i:=2) (by decide)
 have c3:=fill_cell hgc (i:=3) (by decide)
 have c4:=fill_cell hgc (i:=4) (by decide)
 clear h3 m3 hgc
 have hwu:=IntKind.wrap_u64 (numsF W E 1 none 4)
 generalize numsS W E 1 none 5=st at *
 generalize numsF W E 1 none=ff at *
 go_wp2_with fail
 refine wp_region_after (by kernel_rfl) (by kernel_rfl) ?_
 repeat (go_big_quiet_step ((fail)))
 refine wpQuiet_nil ?_
 rintro _ ⟨xx,rfl⟩
 obtain ⟨w4,hb4⟩:=xx
 try dsimp only
 have HX:=Lib.hid hb4
 go_wp2_with fail
 go_ret
 exact ⟨⟨_,rfl,(by show _=_; rfl),HR3.out.ext HX.out⟩,HM3.out.extR HX.out⟩
set_option maxRecDepth 20000 in
set_option maxHeartbeats 8000000 in
theorem RCmdWindow_c (base r:Nat) (W:List (ByteArray × Nat)) (E:Nat) (w:World) (hT:Tabs w) (h:RdAt base w r W E 0 none) (hW:∀ p∈W,p.1.size≤100000000) (hl:W.length≤100000000) (hl0:0 < W.length) (hE:E≤100000000) (hv:W[0].1.toList=[119,105,110,100,111,119]) :
 Calls Tryz.prog 80 #[.pointer (some ⟨r,0,none⟩)] w (CmdPost base r W E w (.window (numsF W E 1 none 0) (numsF W E 1 none 1) (numsF W E 1 none 2) ((numsF W E 1 none 3) % 18446744073709551616) (numsF W E 1 none 4),(numsS W E 1 none 5).1,(numsS W E 1 none 5).2)):=by
 have hrl:=h.lt
 have hbr:=h.br
 have hb10:=h.b10
 have hs0:base≤w.heap.size:=by omega
 have HN1:=Lib.hid (RNext_c base r W E 0 none w h hl (by omega) hE)
 obtain ⟨e1,e2⟩:=next_yes (E:=E) hl0
 rw [e1,e2] at HN1
 generalize W[0].1=vb at *
 clear e1 e2
 go_enter Tryz.func80,Tryz.ntmps80
 go_wp2_with fail
 refine Calls.mono HN1.out ?_
 rintro e w1 ⟨rfl,h1,m1⟩
 have HR2:=Lib.hid (h1.set (a':=1) (bad':=none) (o:=1) (u:=.int .i64 1) (fun v=>by simp)).1
 have HM2:=Lib.hid (m1.trans (h1.set (a':=1) (bad':=none) (o:=1) (u:=.int .i64 1) (fun v=>by simp)).2)
 have HT2:=Lib.hid (hT.below hb10 (HM2.out.below' hbr hrl))
 obtain ⟨v,hrr,_⟩:=h1.hr
 have rc:=(cell_of hrr 1).trans rfl
 have rf:=frozen_of hrr 1
 have rl1:=lt_of hrr
 have hs1:=m1.size
 clear HN1 hrr h1 m1
 go_wp2_with fail
 generalize hW2:w1.setCell ⟨r,1,none⟩ (.int .i64 1)=w2 at *
 have hs2:w.heap.size≤w2.heap.size:=HM2.out.size
 clear rc rf rl1 hW2
 refine Calls.mono (RNums_c base r W E 1 none 5 w2 HT2.out HR2.out hW hl (by omega) hE (by decide)) ?_
 rintro e w3 ⟨⟨g,rfl,hg,hgc⟩,h3,m3⟩
 have HR3:=Lib.hid h3
 have HM3:=Lib.hid (HM2.out.trans m3)
 have HG:=Lib.hid hgc
 have gl:=lt_of hgc
 have c0:=fill_cell hgc (i:=0) (by decide)
 have c1:=fill_cell hgc (i:=1) (by decide)
 have c2:=fill_cell hgc (i:=2) (by decide)
 have c3:=fill_cell hgc (i:=3) (by decide)
 have c4:=fill_cell hgc (i:=4) (by decide)
 clear h3 m3 hgc
 have hwu:=IntKind.wrap_u64 (numsF W E 1 none 3)
 generalize numsS W E 1 none 5=st at *
 generalize numsF W E 1 none=ff at *
 go_wp2_with fail
 refine wp_region_after (by kernel_rfl) (by kernel_rfl) ?_
 repeat (go_big_quiet_step ((fail)))
 refine wpQuiet_nil ?_
 rintro _ ⟨xx,rfl⟩
 obtain ⟨w4,hb4⟩:=xx
 try dsimp only
 have HX:=Lib.hid hb4
 go_wp2_with fail
 go_ret
 exact ⟨⟨_,rfl,(by show _=_; rfl),HR3.out.ext HX.out⟩,HM3.out.extR HX.out⟩
set_option maxRecDepth 20000 in
set_option maxHeartbeats 8000000 in
theorem RCmdAdd_c (base r:Nat) (W:List (ByteArray × Nat)) (E:Nat) (w:World) (hT:Tabs w) (h:RdAt base w r W E 0 none) (hW:∀ p∈W,p.1.size≤100000000) (hl:W.length≤100000000) (hl0:0 < W.length) (hE:E≤100000000) (hv:W[0].1.toList=[97,100,100]) :
 Calls Tryz.prog 80 #[.pointer (some ⟨r,0,none⟩)] w (CmdPost base r W E w ((Cmd.add (addR W E 1 none).1.1 (addR W E 1 none).1.2.1 (addR W E 1 none).1.2.2.1 (addR W E 1 none).1.2.2.2.1 (addR W E 1 none).1.2.2.2.2,(addR W E 1 none).2.1,(addR W E 1 none).2.2))):=by
 have hrl:=h.lt
 have hbr:=h.br
 have hb10:=h.b10
 have hs0:base≤w.heap.size:=by omega
 have HN1:=Lib.hid (RNext_c base r W E 0 none w h hl (by omega) hE)
 obtain ⟨e1,e2⟩:=next_yes (E:=E) hl0
 rw [e1,e2] at HN1
 generalize W[0].1=vb at *
 clear e1 e2
 have HAD:=fun w' hT h=>Lib.hid (RAdd_c base r W E 1 none w' hT h hW hl (by omega) hE)
 generalize addR W E 1 none=R at *
 obtain ⟨⟨ah,nm,name,key,d⟩,a',bad'⟩:=R
 dsimp only
 go_enter Tryz.func80,Tryz.ntmps80
 go_wp2_with fail
 refine Calls.mono HN1.out ?_
 rintro e w1 ⟨rfl,h1,m1⟩
 have HR2:=Lib.hid (h1.set (a':=1) (bad':=none) (o:=1) (u:=.int .i64 1) (fun v=>by simp)).1
 have HM2:=Lib.hid (m1.trans (h1.set (a':=1) (bad':=none) (o:=1) (u:=.int .i64 1) (fun v=>by simp)).2)
 have HT2:=Lib.hid (hT.below hb10 (HM2.out.below' hbr hrl))
 obtain ⟨v,hrr,_⟩:=h1.hr
 have rc:=(cell_of hrr 1).trans rfl
 have rf:=frozen_of hrr 1
 have rl1:=lt_of hrr
 have hs1:=m1.size
 clear HN1 hrr h1 m1
 go_wp2_with fail
 generalize hW2:w1.setCell ⟨r,1,none⟩ (.int .i64 1)=w2 at *
 have hs2:w.heap.size≤w2.heap.size:=HM2.out.size
 clear rc rf rl1 hW2
 refine Calls.mono (HAD w2 HT2.out HR2.out).out ?_
 rintro e w3 ⟨⟨ah',nm',name',key',d',a'',bad'',haR,rfl,h3⟩,m3⟩
 injection haR with q1 q2
 injection q1 with q1 q3
 injection q3 with q3 q4
 injection q4 with q4 q5
 injection q5 with q5 q6
 injection q2 with q2 q7
 subst q1 q3 q4 q5 q6 q2 q7
 have HR3:=Lib.hid h3
 have HM3:=Lib.hid (HM2.out.trans m3)
 clear h3 m3 HAD
 go_wp2_with fail
 go_ret
 exact ⟨⟨_,rfl,(by show _=_; rfl),HR3.out⟩,HM3.out⟩
set_option maxRecDepth 20000 in
set_option maxHeartbeats 8000000 in
theorem RCmdTick_c (base r:Nat) (W:List (ByteArray × Nat)) (E:Nat) (w:World) (hT:Tabs w) (h:RdAt base w r W E 0 none) (hW:∀ p∈W,p.1.size≤100000000) (hl:W.length≤100000000) (hl0:0 < W.length) (hE:E≤100000000) (hv:W[0].1.toList=[116,105,99,107]) :
 Calls Tryz.prog 80 #[.pointer (some ⟨r,0,none⟩)] w (CmdPost base r W E w (.tick,1,none)):=by
 have hrl:=h.lt
 have hbr:=h.br
 have hb10:=h.b10
 have hs0:base≤w.heap.size:=by omega
 have HN1:=Lib.hid (RNext_c base r W E 0 none w h hl (by omega) hE)
 obtain ⟨e1,e2⟩:=next_yes (E:=E) hl0
 rw [e1,e2] at HN1
 generalize W[0].1=vb at *
 clear e1 e2
 go_enter Tryz.func80,Tryz.ntmps80
 go_wp2_with fail
 refine Calls.mono HN1.out ?_
 rintro e w1 ⟨rfl,h1,m1⟩
 have HR2:=Lib.hid (h1.set (a':=1) (bad':=none) (o:=1) (u:=.int .i64 1) (fun v=>by simp)).1
 have HM2:=Lib.hid (m1.trans (h1.set (a':=1) (bad':=none) (o:=1) (u:=.int .i64 1) (fun v=>by simp)).2)
 have HT2:=Lib.hid (hT.below hb10 (HM2.out.below' hbr hrl))
 obtain ⟨v,hrr,_⟩:=h1.hr
 have rc:=(cell_of hrr 1).trans rfl
 have rf:=frozen_of hrr 1
 have rl1:=lt_of hrr
 have hs1:=m1.size
 clear HN1 hrr h1 m1
 go_wp2_with fail
 go_ret
 exact ⟨⟨_,rfl,(by show _=_; rfl),HR2.out⟩,HM2.out⟩
set_option maxRecDepth 20000 in
set_option maxHeartbeats 8000000 in
theorem RCmdTotal_c (base r:Nat) (W:List (ByteArray × Nat)) (E:Nat) (w:World) (hT:Tabs w) (h:RdAt base w r W E 0 none) (hW:∀ p∈W,p.1.size≤100000000) (hl:W.length≤100000000) (hl0:0 < W.length) (hE:E≤100000000) (hv:W[0].1.toList=[116,111,116,97,108]) :
 Calls Tryz.prog 80 #[.pointer (some ⟨r,0,none⟩)] w (CmdPost base r W E w (.query ⟨#[116,111,116,97,108]⟩ (numR W E 1 none).1 [],(numR W E 1 none).2.1,(numR W E 1 none).2.2)):=by
 have hrl:=h.lt
 have hbr:=h.br
 have hb10:=h.b10
 have hs0:base≤w.heap.size:=by omega
 have HN1:=Lib.hid (RNext_c base r W E 0 none w h hl (by omega) hE)
 obtain ⟨e1,e2⟩:=next_yes (E:=E) hl0
 rw [e1,e2] at HN1
 generalize W[0].1=vb at *
 clear e1 e2
 go_enter Tryz.func80,Tryz.ntmps80
 go_wp2_with fail
 refine Calls.mono HN1.out ?_
 rintro e w1 ⟨rfl,h1,m1⟩
 have HR2:=Lib.hid (h1.set (a':=1) (bad':=none) (o:=1) (u:=.int .i64 1) (fun v=>by simp)).1
 have HM2:=Lib.hid (m1.trans (h1.set (a':=1) (bad':=none) (o:=1) (u:=.int .i64 1) (fun v=>by simp)).2)
 have HT2:=Lib.hid (hT.below hb10 (HM2.out.below' hbr hrl))
 obtain ⟨v,hrr,_⟩:=h1.hr
 have rc:=(cell_of hrr 1).trans rfl
 have rf:=frozen_of hrr 1
 have rl1:=lt_of hrr
 have hs1:=m1.size
 clear HN1 hrr h1 m1
 go_wp2_with fail
 generalize hW2:w1.setCell ⟨r,1,none⟩ (.int .i64 1)=w2 at *
 have hs2:w.heap.size≤w2.heap.size:=HM2.out.size
 clear rc rf rl1 hW2
 refine Calls.mono (RNum_c base r W E 1 none w2 HT2.out HR2.out hW hl (by omega) hE) ?_
 rintro e w3 ⟨rfl,h3,m3⟩
 have HR3:=Lib.hid h3
 have HM3:=Lib.hid (HM2.out.trans m3)
 clear h3 m3
 have hvb:=vb_eq hv
 subst hvb
 go_wp2_with fail
 go_ret
 exact ⟨⟨_,rfl,⟨_,rfl,.inl ⟨rfl,rfl⟩⟩,HR3.out⟩,HM3.out⟩
set_option maxRecDepth 20000 in
set_option maxHeartbeats 8000000 in
theorem RCmdExport_c (base r:Nat) (W:List (ByteArray × Nat)) (E:Nat) (w:World) (hT:Tabs w) (h:RdAt base w r W E 0 none) (hW:∀ p∈W,p.1.size≤100000000) (hl:W.length≤100000000) (hl0:0 < W.length) (hE:E≤100000000) (hv:W[0].1.toList=[101,120,112,111,114,116]) :
 Calls Tryz.prog 80 #[.pointer (some ⟨r,0,none⟩)] w (CmdPost base r W E w (.query ⟨#[101,120,112,111,114,116]⟩ (numR W E 1 none).1 [],(numR W E 1 none).2.1,(numR W E 1 none).2.2)):=by
 have hrl:=h.lt
 have hbr:=h.br
 have hb10:=h.b10
 have hs0:base≤w.heap.size:=by omega
 have HN1:=Lib.hid (RNext_c base r W E 0 none w h hl (by omega) hE)
 obtain ⟨e1,e2⟩:=next_yes (E:=E) hl0
 rw [e1,e2] at HN1
 generalize W[0].1=vb at *
 clear e1 e2
 go_enter Tryz.func80,Tryz.ntmps80
 go_wp2_with fail
 refine Calls.mono HN1.out ?_
 rintro e w1 ⟨rfl,h1,m1⟩
 have HR2:=Lib.hid (h1.set (a':=1) (bad':=none) (o:=1) (u:=.int .i64 1) (fun v=>by simp)).1
 have HM2:=Lib.hid (m1.trans (h1.set (a':=1) (bad':=none) (o:=1) (u:=.int .i64 1) (fun v=>by simp)).2)
 have HT2:=Lib.hid (hT.below hb10 (HM2.out.below' hbr hrl))
 obtain ⟨v,hrr,_⟩:=h1.hr
 have rc:=(cell_of hrr 1).trans rfl
 have rf:=frozen_of hrr 1
 have rl1:=lt_of hrr
 have hs1:=m1.size
 clear HN1 hrr h1 m1
 go_wp2_with fail
 generalize hW2:w1.setCell ⟨r,1,none⟩ (.int .i64 1)=w2 at *
 have hs2:w.heap.size≤w2.heap.size:=HM2.out.size
 clear rc rf rl1 hW2
 refine Calls.mono (RNum_c base r W E 1 none w2 HT2.out HR2.out hW hl (by omega) hE) ?_
 rintro e w3 ⟨rfl,h3,m3⟩
 have HR3:=Lib.hid h3
 have HM3:=Lib.hid (HM2.out.trans m3)
 clear h3 m3
 have hvb:=vb_eq hv
 subst hvb
 go_wp2_with fail
 go_ret
 exact ⟨⟨_,rfl,⟨_,rfl,.inl ⟨rfl,rfl⟩⟩,HR3.out⟩,HM3.out⟩
set_option maxRecDepth 20000 in
set_option maxHeartbeats 8000000 in
theorem RCmdDrop_c (base r:Nat) (W:List (ByteArray × Nat)) (E:Nat) (w:World) (hT:Tabs w) (h:RdAt base w r W E 0 none) (hW:∀ p∈W,p.1.size≤100000000) (hl:W.length≤100000000) (hl0:0 < W.length) (hE:E≤100000000) (hv:W[0].1.toList=[100,114,111,112]) :
 Calls Tryz.prog 80 #[.pointer (some ⟨r,0,none⟩)] w (CmdPost base r W E w (.query ⟨#[100,114,111,112]⟩ (numR W E 1 none).1 [],(numR W E 1 none).2.1,(numR W E 1 none).2.2)):=by
 have hrl:=h.lt
 have hbr:=h.br
 have hb10:=h.b10
 have hs0:base≤w.heap.size:=by omega
 have HN1:=Lib.hid (RNext_c base r W E 0 none w h hl (by omega) hE)
 obtain ⟨e1,e2⟩:=next_yes (E:=E) hl0
 rw [e1,e2] at HN1
 generalize W[0].1=vb at *
 clear e1 e2
 go_enter Tryz.func80,Tryz.ntmps80
 go_wp2_with fail
 refine Calls.mono HN1.out ?_
 rintro e w1 ⟨rfl,h1,m1⟩
 have HR2:=Lib.hid (h1.set (a':=1) (bad':=none) (o:=1) (u:=.int .i64 1) (fun v=>by simp)).1
 have HM2:=Lib.hid (m1.trans (h1.set (a':=1) (bad':=none) (o:=1) (u:=.int .i64 1) (fun v=>by simp)).2)
 have HT2:=Lib.hid (hT.below hb10 (HM2.out.below' hbr hrl))
 obtain ⟨v,hrr,_⟩:=h1.hr
 have rc:=(cell_of hrr 1).trans rfl
 have rf:=frozen_of hrr 1
 have rl1:=lt_of hrr
 have hs1:=m1.size
 clear HN1 hrr h1 m1
 go_wp2_with fail
 generalize hW2:w1.setCell ⟨r,1,none⟩ (.int .i64 1)=w2 at *
 have hs2:w.heap.size≤w2.heap.size:=HM2.out.size
 clear rc rf rl1 hW2
 refine Calls.mono (RNum_c base r W E 1 none w2 HT2.out HR2.out hW hl (by omega) hE) ?_
 rintro e w3 ⟨rfl,h3,m3⟩
 have HR3:=Lib.hid h3
 have HM3:=Lib.hid (HM2.out.trans m3)
 clear h3 m3
 have hvb:=vb_eq hv
 subst hvb
 go_wp2_with fail
 go_ret
 exact ⟨⟨_,rfl,⟨_,rfl,.inl ⟨rfl,rfl⟩⟩,HR3.out⟩,HM3.out⟩
set_option maxRecDepth 20000 in
set_option maxHeartbeats 8000000 in
theorem RCmdQuantile_c (base r:Nat) (W:List (ByteArray × Nat)) (E:Nat) (w:World) (hT:Tabs w) (h:RdAt base w r W E 0 none) (hW:∀ p∈W,p.1.size≤100000000) (hl:W.length≤100000000) (hl0:0 < W.length) (hE:E≤100000000) (hv:W[0].1.toList=[113,117,97,110,116,105,108,101]) :
 Calls Tryz.prog 80 #[.pointer (some ⟨r,0,none⟩)] w (CmdPost base r W E w (.query ⟨#[113,117,97,110,116,105,108,101]⟩ (numsF W E 1 none 0) [numsF W E 1 none 1],(numsS W E 1 none 2).1,(numsS W E 1 none 2).2)):=by
 have hrl:=h.lt
 have hbr:=h.br
 have hb10:=h.b10
 have hs0:base≤w.heap.size:=by omega
 have HN1:=Lib.hid (RNext_c base r W E 0 none w h hl (by omega) hE)
 obtain ⟨e1,e2⟩:=next_yes (E:=E) hl0
 rw [e1,e2] at HN1
 generalize W[0].1=vb at *
 clear e1 e2
 go_enter Tryz.func80,Tryz.ntmps80
 go_wp2_with fail
 refine Calls.mono HN1.out ?_
 rintro e w1 ⟨rfl,h1,m1⟩
 have HR2:=Lib.hid (h1.set (a':=1) (bad':=none) (o:=1) (u:=.int .i64 1) (fun v=>by simp)).1
 have HM2:=Lib.hid (m1.trans (h1.set (a':=1) (bad':=none) (o:=1) (u:=.int .i64 1) (fun v=>by simp)).2)
 have HT2:=Lib.hid (hT.below hb10 (HM2.out.below' hbr hrl))
 obtain ⟨v,hrr,_⟩:=h1.hr
 have rc:=(cell_of hrr 1).trans rfl
 have rf:=frozen_of hrr 1
 have rl1:=lt_of hrr
 have hs1:=m1.size
 clear HN1 hrr h1 m1
 go_wp2_with fail
 generalize hW2:w1.setCell ⟨r,1,none⟩ (.int .i64 1)=w2 at *
 have hs2:w.heap.size≤w2.heap.size:=HM2.out.size
 clear rc rf rl1 hW2
 refine Calls.mono (RNums_c base r W E 1 none 2 w2 HT2.out HR2.out hW hl (by omega) hE (by decide)) ?_
 rintro e w3 ⟨⟨g,rfl,hg,hgc⟩,h3,m3⟩
 have HR3:=Lib.hid h3
 have HM3:=Lib.hid (HM2.out.trans m3)
 have HG:=Lib.hid hgc
 have gl:=lt_of hgc
 have c0:=fill_cell hgc (i:=0) (by decide)
 have c1:=fill_cell hgc (i:=1) (by decide)
 clear h3 m3 hgc
 generalize numsS W E 1 none 2=st at *
 generalize numsF W E 1 none=ff at *
 have hvb:=vb_eq hv
 subst hvb
 go_wp2_with fail
 refine wp_region_after (by kernel_rfl) (by kernel_rfl) ?_
 repeat (go_big_quiet_step ((fail)))
 refine wpQuiet_nil ?_
 rintro _ ⟨xx,rfl⟩
 obtain ⟨w4,hb4⟩:=xx
 try dsimp only
 have HX:=Lib.hid hb4
 go_wp2_with fail
 go_ret
 exact ⟨⟨_,rfl,⟨_,rfl,.inr ⟨g,ff,rfl,by omega,HX.out.keep HG.out,rfl⟩⟩,HR3.out.ext HX.out⟩,HM3.out.extR HX.out⟩
set_option maxRecDepth 20000 in
set_option maxHeartbeats 8000000 in
theorem RCmdPoint_c (base r:Nat) (W:List (ByteArray × Nat)) (E:Nat) (w:World) (hT:Tabs w) (h:RdAt base w r W E 0 none) (hW:∀ p∈W,p.1.size≤100000000) (hl:W.length≤100000000) (hl0:0 < W.length) (hE:E≤100000000) (hv:W[0].1.toList=[112,111,105,110,116]) :
 Calls Tryz.prog 80 #[.pointer (some ⟨r,0,none⟩)] w (CmdPost base r W E w (.query ⟨#[112,111,105,110,116]⟩ (numsF W E 1 none 0) [numsF W E 1 none 1,numsF W E 1 none 2],(numsS W E 1 none 3).1,(numsS W E 1 none 3).2)):=by
 have hrl:=h.lt
 have hbr:=h.br
 have hb10:=h.b10
 have hs0:base≤w.heap.size:=by omega
 have HN1:=Lib.hid (RNext_c base r W E 0 none w h hl (by omega) hE)
 obtain ⟨e1,e2⟩:=next_yes (E:=E) hl0
 rw [e1,e2] at HN1
 generalize W[0].1=vb at *
 clear e1 e2
 go_enter Tryz.func80,Tryz.ntmps80
 go_wp2_with fail
 refine Calls.mono HN1.out ?_
 rintro e w1 ⟨rfl,h1,m1⟩
 have HR2:=Lib.hid (h1.set (a':=1) (bad':=none) (o:=1) (u:=.int .i64 1) (fun v=>by simp)).1
 have HM2:=Lib.hid (m1.trans (h1.set (a':=1) (bad':=none) (o:=1) (u:=.int .i64 1) (fun v=>by simp)).2)
 have HT2:=Lib.hid (hT.below hb10 (HM2.out.below' hbr hrl))
 obtain ⟨v,hrr,_⟩:=h1.hr
 have rc:=(cell_of hrr 1).trans rfl
 have rf:=frozen_of hrr 1
 have rl1:=lt_of hrr
 have hs1:=m1.size
 clear HN1 hrr h1 m1
 go_wp2_with fail
 generalize hW2:w1.setCell ⟨r,1,none⟩ (.int .i64 1)=w2 at *
 have hs2:w.heap.size≤w2.heap.size:=HM2.out.size
 clear rc rf rl1 hW2
 refine Calls.mono (RNums_c base r W E 1 none 3 w2 HT2.out HR2.out hW hl (by omega) hE (by decide)) ?_
 rintro e w3 ⟨⟨g,rfl,hg,hgc⟩,h3,m3⟩
 have HR3:=Lib.hid h3
 have HM3:=Lib.hid (HM2.out.trans m3)
 have HG:=Lib.hid hgc
 have gl:=lt_of hgc
 have c0:=fill_cell hgc (i:=0) (by decide)
 have c1:=fill_cell hgc (i:=1) (by decide)
 have c2:=fill_cell hgc (i:=2) (by decide)
 clear h3 m3 hgc
 generalize numsS W E 1 none 3=st at *
 generalize numsF W E 1 none=ff at *
 have hvb:=vb_eq hv
 subst hvb
 go_wp2_with fail
 refine wp_region_after (by kernel_rfl) (by kernel_rfl) ?_
 repeat (go_big_quiet_step ((fail)))
 refine wpQuiet_nil ?_
 rintro _ ⟨xx,rfl⟩
 obtain ⟨w4,hb4⟩:=xx
 try dsimp only
 have HX:=Lib.hid hb4
 go_wp2_with fail
 go_ret
 exact ⟨⟨_,rfl,⟨_,rfl,.inr ⟨g,ff,rfl,by omega,HX.out.keep HG.out,rfl⟩⟩,HR3.out.ext HX.out⟩,HM3.out.extR HX.out⟩
set_option maxRecDepth 20000 in
set_option maxHeartbeats 8000000 in
theorem RCmdRange_c (base r:Nat) (W:List (ByteArray × Nat)) (E:Nat) (w:World) (hT:Tabs w) (h:RdAt base w r W E 0 none) (hW:∀ p∈W,p.1.size≤100000000) (hl:W.length≤100000000) (hl0:0 < W.length) (hE:E≤100000000) (hv:W[0].1.toList=[114,97,110,103,101]) :
 Calls Tryz.prog 80 #[.pointer (some ⟨r,0,none⟩)] w (CmdPost base r W E w (.query ⟨#[114,97,110,103,101]⟩ (numsF W E 1 none 0) [numsF W E 1 none 1,numsF W E 1 none 2],(numsS W E 1 none 3).1,(numsS W E 1 none 3).2)):=by
 have hrl:=h.lt
 have hbr:=h.br
 have hb10:=h.b10
 have hs0:base≤w.heap.size:=by omega
 have HN1:=Lib.hid (RNext_c base r W E 0 none w h hl (by omega) hE)
 obtain ⟨e1,e2⟩:=next_yes (E:=E) hl0
 rw [e1,e2] at HN1
 generalize W[0].1=vb at *
 clear e1 e2
 go_enter Tryz.func80,Tryz.ntmps80
 go_wp2_with fail
 refine Calls.mono HN1.out ?_
 rintro e w1 ⟨rfl,h1,m1⟩
 have HR2:=Lib.hid (h1.set (a':=1) (bad':=none) (o:=1) (u:=.int .i64 1) (fun v=>by simp)).1
 have HM2:=Lib.hid (m1.trans (h1.set (a':=1) (bad':=none) (o:=1) (u:=.int .i64 1) (fun v=>by simp)).2)
 have HT2:=Lib.hid (hT.below hb10 (HM2.out.below' hbr hrl))
 obtain ⟨v,hrr,_⟩:=h1.hr
 have rc:=(cell_of hrr 1).trans rfl
 have rf:=frozen_of hrr 1
 have rl1:=lt_of hrr
 have hs1:=m1.size
 clear HN1 hrr h1 m1
 go_wp2_with fail
 generalize hW2:w1.setCell ⟨r,1,none⟩ (.int .i64 1)=w2 at *
 have hs2:w.heap.size≤w2.heap.size:=HM2.out.size
 clear rc rf rl1 hW2
 refine Calls.mono (RNums_c base r W E 1 none 3 w2 HT2.out HR2.out hW hl (by omega) hE (by decide)) ?_
 rintro e w3 ⟨⟨g,rfl,hg,hgc⟩,h3,m3⟩
 have HR3:=Lib.hid h3
 have HM3:=Lib.hid (HM2.out.trans m3)
 have HG:=Lib.hid hgc
 have gl:=lt_of hgc
 have c0:=fill_cell hgc (i:=0) (by decide)
 have c1:=fill_cell hgc (i:=1) (by decide)
 have c2:=fill_cell hgc (i:=2) (by decide)
 clear h3 m3 hgc
 generalize numsS W E 1 none 3=st at *
 generalize numsF W E 1 none=ff at *
 have hvb:=vb_eq hv
 subst hvb
 go_wp2_with fail
 refine wp_region_after (by kernel_rfl) (by kernel_rfl) ?_
 repeat (go_big_quiet_step ((fail)))
 refine wpQuiet_nil ?_
 rintro _ ⟨xx,rfl⟩
 obtain ⟨w4,hb4⟩:=xx
 try dsimp only
 have HX:=Lib.hid hb4
 go_wp2_with fail
 go_ret
 exact ⟨⟨_,rfl,⟨_,rfl,.inr ⟨g,ff,rfl,by omega,HX.out.keep HG.out,rfl⟩⟩,HR3.out.ext HX.out⟩,HM3.out.extR HX.out⟩
set_option maxRecDepth 20000 in
set_option maxHeartbeats 8000000 in
theorem RCmdHeavy_c (base r:Nat) (W:List (ByteArray × Nat)) (E:Nat) (w:World) (hT:Tabs w) (h:RdAt base w r W E 0 none) (hW:∀ p∈W,p.1.size≤100000000) (hl:W.length≤100000000) (hl0:0 < W.length) (hE:E≤100000000) (hv:W[0].1.toList=[104,101,97,118,121]) :
 Calls Tryz.prog 80 #[.pointer (some ⟨r,0,none⟩)] w (CmdPost base r W E w (.query ⟨#[104,101,97,118,121]⟩ (numsF W E 1 none 0) [numsF W E 1 none 1,numsF W E 1 none 2],(numsS W E 1 none 3).1,(numsS W E 1 none 3).2)):=by
 have hrl:=h.lt
 have hbr:=h.br
 have hb10:=h.b10
 have hs0:base≤w.heap.size:=by omega
 have HN1:=Lib.hid (RNext_c base r W E 0 none w h hl (by omega) hE)
 obtain ⟨e1,e2⟩:=next_yes (E:=E) hl0
 rw [e1,e2] at HN1
 generalize W[0].1=vb at *
 clear e1 e2
 go_enter Tryz.func80,Tryz.ntmps80
 go_wp2_with fail
 refine Calls.mono HN1.out ?_
 rintro e w1 ⟨rfl,h1,m1⟩
 have HR2:=Lib.hid (h1.set (a':=1) (bad':=none) (o:=1) (u:=.int .i64 1) (fun v=>by simp)).1
 have HM2:=Lib.hid (m1.trans (h1.set (a':=1) (bad':=none) (o:=1) (u:=.int .i64 1) (fun v=>by simp)).2)
 have HT2:=Lib.hid (hT.below hb10 (HM2.out.below' hbr hrl))
 obtain ⟨v,hrr,_⟩:=h1.hr
 have rc:=(cell_of hrr 1).trans rfl
 have rf:=frozen_of hrr 1
 have rl1:=lt_of hrr
 have hs1:=m1.size
 clear HN1 hrr h1 m1
 go_wp2_with fail
 generalize hW2:w1.setCell ⟨r,1,none⟩ (.int .i64 1)=w2 at *
 have hs2:w.heap.size≤w2.heap.size:=HM2.out.size
 clear rc rf rl1 hW2
 refine Calls.mono (RNums_c base r W E 1 none 3 w2 HT2.out HR2.out hW hl (by omega) hE (by decide)) ?_
 rintro e w3 ⟨⟨g,rfl,hg,hgc⟩,h3,m3⟩
 have HR3:=Lib.hid h3
 have HM3:=Lib.hid (HM2.out.trans m3)
 have HG:=Lib.hid hgc
 have gl:=lt_of hgc
 have c0:=fill_cell hgc (i:=0) (by decide)
 have c1:=fill_cell hgc (i:=1) (by decide)
 have c2:=fill_cell hgc (i:=2) (by decide)
 clear h3 m3 hgc
 generalize numsS W E 1 none 3=st at *
 generalize numsF W E 1 none=ff at *
 have hvb:=vb_eq hv
 subst hvb
 go_wp2_with fail
 refine wp_region_after (by kernel_rfl) (by kernel_rfl) ?_
 repeat (go_big_quiet_step ((fail)))
 refine wpQuiet_nil ?_
 rintro _ ⟨xx,rfl⟩
 obtain ⟨w4,hb4⟩:=xx
 try dsimp only
 have HX:=Lib.hid hb4
 go_wp2_with fail
 go_ret
 exact ⟨⟨_,rfl,⟨_,rfl,.inr ⟨g,ff,rfl,by omega,HX.out.keep HG.out,rfl⟩⟩,HR3.out.ext HX.out⟩,HM3.out.extR HX.out⟩
set_option maxRecDepth 20000 in
set_option maxHeartbeats 8000000 in
theorem RCmdInner_c (base r:Nat) (W:List (ByteArray × Nat)) (E:Nat) (w:World) (hT:Tabs w) (h:RdAt base w r W E 0 none) (hW:∀ p∈W,p.1.size≤100000000) (hl:W.length≤100000000) (hl0:0 < W.length) (hE:E≤100000000) (hv:W[0].1.toList=[105,110,110,101,114]) :
 Calls Tryz.prog 80 #[.pointer (some ⟨r,0,none⟩)] w (CmdPost base r W E w (.pair ⟨#[105,110,110,101,114]⟩ (numsF W E 1 none 0) (numsF W E 1 none 1),(numsS W E 1 none 2).1,(numsS W E 1 none 2).2)):=by
 have hrl:=h.lt
 have hbr:=h.br
 have hb10:=h.b10
 have hs0:base≤w.heap.size:=by omega
 have HN1:=Lib.hid (RNext_c base r W E 0 none w h hl (by omega) hE)
 obtain ⟨e1,e2⟩:=next_yes (E:=E) hl0
 rw [e1,e2] at HN1
 generalize W[0].1=vb at *
 clear e1 e2
 go_enter Tryz.func80,Tryz.ntmps80
 go_wp2_with fail
 refine Calls.mono HN1.out ?_
 rintro e w1 ⟨rfl,h1,m1⟩
 have HR2:=Lib.hid (h1.set (a':=1) (bad':=none) (o:=1) (u:=.int .i64 1) (fun v=>by simp)).1
 have HM2:=Lib.hid (m1.trans (h1.set (a':=1) (bad':=none) (o:=1) (u:=.int .i64 1) (fun v=>by simp)).2)
 have HT2:=Lib.hid (hT.below hb10 (HM2.out.below' hbr hrl))
 obtain ⟨v,hrr,_⟩:=h1.hr
 have rc:=(cell_of hrr 1).trans rfl
 have rf:=frozen_of hrr 1
 have rl1:=lt_of hrr
 have hs1:=m1.size
 clear HN1 hrr h1 m1
 go_wp2_with fail
 generalize hW2:w1.setCell ⟨r,1,none⟩ (.int .i64 1)=w2 at *
 have hs2:w.heap.size≤w2.heap.size:=HM2.out.size
 clear rc rf rl1 hW2
 refine Calls.mono (RNums_c base r W E 1 none 2 w2 HT2.out HR2.out hW hl (by omega) hE (by decide)) ?_
 rintro e w3 ⟨⟨g,rfl,hg,hgc⟩,h3,m3⟩
 have HR3:=Lib.hid h3
 have HM3:=Lib.hid (HM2.out.trans m3)
 have HG:=Lib.hid hgc
 have gl:=lt_of hgc
 have c0:=fill_cell hgc (i:=0) (by decide)
 have c1:=fill_cell hgc (i:=1) (by decide)
 clear h3 m3 hgc
 generalize numsS W E 1 none 2=st at *
 generalize numsF W E 1 none=ff at *
 have hvb:=vb_eq hv
 subst hvb
 go_wp2_with fail
 refine wp_region_after (by kernel_rfl) (by kernel_rfl) ?_
 repeat (go_big_quiet_step ((fail)))
 refine wpQuiet_nil ?_
 rintro _ ⟨xx,rfl⟩
 obtain ⟨w4,hb4⟩:=xx
 try dsimp only
 have HX:=Lib.hid hb4
 go_wp2_with fail
 go_ret
 exact ⟨⟨_,rfl,(by show _=_; rfl),HR3.out.ext HX.out⟩,HM3.out.extR HX.out⟩
set_option maxRecDepth 20000 in
set_option maxHeartbeats 8000000 in
theorem RCmdMerge_c (base r:Nat) (W:List (ByteArray × Nat)) (E:Nat) (w:World) (hT:Tabs w) (h:RdAt base w r W E 0 none) (hW:∀ p∈W,p.1.size≤100000000) (hl:W.length≤100000000) (hl0:0 < W.length) (hE:E≤100000000) (hv:W[0].1.toList=[109,101,114,103,101]) :
 Calls Tryz.prog 80 #[.pointer (some ⟨r,0,none⟩)] w (CmdPost base r W E w (.pair ⟨#[109,101,114,103,101]⟩ (numsF W E 1 none 0) (numsF W E 1 none 1),(numsS W E 1 none 2).1,(numsS W E 1 none 2).2)):=by
 have hrl:=h.lt
 have hbr:=h.br
 have hb10:=h.b10
 have hs0:base≤w.heap.size:=by omega
 have HN1:=Lib.hid (RNext_c base r W E 0 none w h hl (by omega) hE)
 obtain ⟨e1,e2⟩:=next_yes (E:=E) hl0
 rw [e1,e2] at HN1
 generalize W[0].1=vb at *
 clear e1 e2
 go_enter Tryz.func80,Tryz.ntmps80
 go_wp2_with fail
 refine Calls.mono HN1.out ?_
 rintro e w1 ⟨rfl,h1,m1⟩
 have HR2:=Lib.hid (h1.set (a':=1) (bad':=none) (o:=1) (u:=.int .i64 1) (fun v=>by simp)).1
 have HM2:=Lib.hid (m1.trans (h1.set (a':=1) (bad':=none) (o:=1) (u:=.int .i64 1) (fun v=>by simp)).2)
 have HT2:=Lib.hid (hT.below hb10 (HM2.out.below' hbr hrl))
 obtain ⟨v,hrr,_⟩:=h1.hr
 have rc:=(cell_of hrr 1).trans rfl
 have rf:=frozen_of hrr 1
 have rl1:=lt_of hrr
 have hs1:=m1.size
 clear HN1 hrr h1 m1
 go_wp2_with fail
 generalize hW2:w1.setCell ⟨r,1,none⟩ (.int .i64 1)=w2 at *
 have hs2:w.heap.size≤w2.heap.size:=HM2.out.size
 clear rc rf rl1 hW2
 refine Calls.mono (RNums_c base r W E 1 none 2 w2 HT2.out HR2.out hW hl (by omega) hE (by decide)) ?_
 rintro e w3 ⟨⟨g,rfl,hg,hgc⟩,h3,m3⟩
 have HR3:=Lib.hid h3
 have HM3:=Lib.hid (HM2.out.trans m3)
 have HG:=Lib.hid hgc
 have gl:=lt_of hgc
 have c0:=fill_cell hgc (i:=0) (by decide)
 have c1:=fill_cell hgc (i:=1) (by decide)
 clear h3 m3 hgc
 generalize numsS W E 1 none 2=st at *
 generalize numsF W E 1 none=ff at *
 have hvb:=vb_eq hv
 subst hvb
 go_wp2_with fail
 refine wp_region_after (by kernel_rfl) (by kernel_rfl) ?_
 repeat (go_big_quiet_step ((fail)))
 refine wpQuiet_nil ?_
 rintro _ ⟨xx,rfl⟩
 obtain ⟨w4,hb4⟩:=xx
 try dsimp only
 have HX:=Lib.hid hb4
 go_wp2_with fail
 go_ret
 exact ⟨⟨_,rfl,(by show _=_; rfl),HR3.out.ext HX.out⟩,HM3.out.extR HX.out⟩
set_option maxRecDepth 20000 in
set_option maxHeartbeats 8000000 in
theorem RCmdSubtract_c (base r:Nat) (W:List (ByteArray × Nat)) (E:Nat) (w:World) (hT:Tabs w) (h:RdAt base w r W E 0 none) (hW:∀ p∈W,p.1.size≤100000000) (hl:W.length≤100000000) (hl0:0 < W.length) (hE:E≤100000000) (hv:W[0].1.toList=[115,117,98,116,114,97,99,116]) :
 Calls Tryz.prog 80 #[.pointer (some ⟨r,0,none⟩)] w (CmdPost base r W E w (.pair ⟨#[115,117,98,116,114,97,99,116]⟩ (numsF W E 1 none 0) (numsF W E 1 none 1),(numsS W E 1 none 2).1,(numsS W E 1 none 2).2)):=by
 have hrl:=h.lt
 have hbr:=h.br
 have hb10:=h.b10
 have hs0:base≤w.heap.size:=by omega
 have HN1:=Lib.hid (RNext_c base r W E 0 none w h hl (by omega) hE)
 obtain ⟨e1,e2⟩:=next_yes (E:=E) hl0
 rw [e1,e2] at HN1
 generalize W[0].1=vb at *
 clear e1 e2
 go_enter Tryz.func80,Tryz.ntmps80
 go_wp2_with fail
 refine Calls.mono HN1.out ?_
 rintro e w1 ⟨rfl,h1,m1⟩
 have HR2:=Lib.hid (h1.set (a':=1) (bad':=none) (o:=1) (u:=.int .i64 1) (fun v=>by simp)).1
 have HM2:=Lib.hid (m1.trans (h1.set (a':=1) (bad':=none) (o:=1) (u:=.int .i64 1) (fun v=>by simp)).2)
 have HT2:=Lib.hid (hT.below hb10 (HM2.out.below' hbr hrl))
 obtain ⟨v,hrr,_⟩:=h1.hr
 have rc:=(cell_of hrr 1).trans rfl
 have rf:=frozen_of hrr 1
 have rl1:=lt_of hrr
 have hs1:=m1.size
 clear HN1 hrr h1 m1
 go_wp2_with fail
 generalize hW2:w1.setCell ⟨r,1,none⟩ (.int .i64 1)=w2 at *
 have hs2:w.heap.size≤w2.heap.size:=HM2.out.size
 clear rc rf rl1 hW2
 refine Calls.mono (RNums_c base r W E 1 none 2 w2 HT2.out HR2.out hW hl (by omega) hE (by decide)) ?_
 rintro e w3 ⟨⟨g,rfl,hg,hgc⟩,h3,m3⟩
 have HR3:=Lib.hid h3
 have HM3:=Lib.hid (HM2.out.trans m3)
 have HG:=Lib.hid hgc
 have gl:=lt_of hgc
 have c0:=fill_cell hgc (i:=0) (by decide)
 have c1:=fill_cell hgc (i:=1) (by decide)
 clear h3 m3 hgc
 generalize numsS W E 1 none 2=st at *
 generalize numsF W E 1 none=ff at *
 have hvb:=vb_eq hv
 subst hvb
 go_wp2_with fail
 refine wp_region_after (by kernel_rfl) (by kernel_rfl) ?_
 repeat (go_big_quiet_step ((fail)))
 refine wpQuiet_nil ?_
 rintro _ ⟨xx,rfl⟩
 obtain ⟨w4,hb4⟩:=xx
 try dsimp only
 have HX:=Lib.hid hb4
 go_wp2_with fail
 go_ret
 exact ⟨⟨_,rfl,(by show _=_; rfl),HR3.out.ext HX.out⟩,HM3.out.extR HX.out⟩
end Go.Proofs.YtmalncfcgcebhaaGreatDoor
namespace Go.Proofs.YtmalncfcgcebhaaGreatDoor
set_option linter.unusedVariables false
open Go.Proofs Go.RowKit
theorem own_modR {base b r E a n size:Nat} {w w':World} {W:List (ByteArray × Nat)} {bad:Option Nat} {e:TypeId} {v:Value} {xs:List Value} (h:w.ownsRow b e size v n xs) (hr:RdAt base w r W E a bad) (hm:Mod (fun k=>k=r) w w') (hT:164≠e):w'.ownsRow b e size v n xs:=by
 obtain ⟨u,h1,_⟩:=hr.hr
 exact own_keepB h fun k hk=>hm.block k (own_lt h hk) fun e=>own_notB h h1 hT (e ▸ hk)
def impR (W:List (ByteArray × Nat)) (E:Nat):Cmd × Nat × Option Nat :=
 (.imp ((hexFrom (nextT W 1 none).data.toList).getD []),2,if hexOk (nextT W 1 none).data.toList=true then nextB W E 1 none else failR W E 1 (nextB W E 1 none))
set_option maxRecDepth 20000 in
set_option maxHeartbeats 8000000 in
theorem RCmdImport_c (base r:Nat) (W:List (ByteArray × Nat)) (E:Nat) (w:World) (hT:Tabs w) (h:RdAt base w r W E 0 none) (hW:∀ p∈W,p.1.size≤100000000) (hl:W.length≤100000000) (hl0:0 < W.length) (hE:E≤100000000) (hv:W[0].1.toList=[105,109,112,111,114,116]) :
 Calls Tryz.prog 80 #[.pointer (some ⟨r,0,none⟩)] w (CmdPost base r W E w (impR W E)):=by
 have hrl:=h.lt
 have hbr:=h.br
 have hb10:=h.b10
 have hs0:base≤w.heap.size:=by omega
 have HN1:=Lib.hid (RNext_c base r W E 0 none w h hl (by omega) hE)
 obtain ⟨e1,e2⟩:=next_yes (E:=E) hl0
 rw [e1,e2] at HN1
 generalize W[0].1=vb at *
 clear e1 e2
 have ht:=nextT_size hW 1 none
 have HNX:=fun w' h=>Lib.hid (RNext_c base r W E 1 none w' h hl (by omega) hE)
 unfold impR
 generalize nextT W 1 none=t at *
 generalize nextB W E 1 none=b1 at *
 have HBY:=fun w'=>Lib.hid (Bytes_c t ht w')
 unfold HexPost at HBY
 generalize hok:hexOk t.data.toList=ok at *
 clear hok
 generalize hrb:(if ok=true then b1 else failR W E 1 b1)=rb
 have HRB:=Lib.hid hrb
 clear hrb
 go_enter Tryz.func80,Tryz.ntmps80
 go_wp2_with fail
 refine Calls.mono HN1.out ?_
 rintro e w1 ⟨rfl,h1,m1⟩
 have HR2:=Lib.hid (h1.set (a':=1) (bad':=none) (o:=1) (u:=.int .i64 1) (fun v=>by simp)).1
 have HM2:=Lib.hid (m1.trans (h1.set (a':=1) (bad':=none) (o:=1) (u:=.int .i64 1) (fun v=>by simp)).2)
 have HT2:=Lib.hid (hT.below hb10 (HM2.out.below' hbr hrl))
 obtain ⟨v,hrr,_⟩:=h1.hr
 have rc:=(cell_of hrr 1).trans rfl
 have rf:=frozen_of hrr 1
 have rl1:=lt_of hrr
 have hs1:=m1.size
 clear HN1 hrr h1 m1
 go_wp2_with fail
 generalize hW2:w1.setCell ⟨r,1,none⟩ (.int .i64 1)=w2 at *
 have hs2:w.heap.size≤w2.heap.size:=HM2.out.size
 clear rc rf rl1 hW2
 refine Calls.mono (HNX w2 HR2.out).out ?_
 rintro e w3 ⟨rfl,h3,m3⟩
 have HR3:=Lib.hid h3
 have HM3:=Lib.hid (HM2.out.trans m3)
 have hs3:=HM3.out.size
 clear h3 m3
 go_wp2_with fail
 refine Calls.mono (HBY w3).out ?_
 rintro e w4 ⟨⟨bv,bs,rfl,hbo,hbs⟩,hx4⟩
 obtain ⟨po,co,rfl⟩:=own_sl hbo
 have HR4:=Lib.hid (HR3.out.ext hx4)
 have HM4:=Lib.hid (HM3.out.extR hx4)
 have HO4:=Lib.hid (own_bmono hbo (show base≤w3.heap.size by omega))
 have HBS:=Lib.hid hbs
 clear hbo hx4 hbs HBY HNX
 cases ok with
 | true =>
   obtain ⟨v4,hrr4,_⟩:=HR4.out.hr
   have rc:=(cell_of hrr4 1).trans rfl
   have rf:=frozen_of hrr4 1
   have rl4:=lt_of hrr4
   have HS:=Lib.hid (HR4.out.set (a':=2) (bad':=b1) (o:=1) (u:=.int .i64 2) (fun v=>by simp))
   have HO5:=Lib.hid (own_modR HO4.out HR4.out HS.out.2 (by decide))
   clear hrr4
   go_wp2_with fail
   go_ret
   have hrb:b1=rb:=HRB.out
   refine ⟨⟨_,rfl,⟨_,rfl,by rw [HBS.out]; exact HO5.out⟩, ?_⟩,HM4.out.trans HS.out.2⟩
   rw [← hrb]
   exact HS.out.1
 | false =>
   go_wp2_with fail
   refine Calls.mono (RFail_c base r W E 1 b1 w4 HR4.out hl (by omega) hE) ?_
   rintro e w5 ⟨rfl,h5,m5⟩
   have HO5:=Lib.hid (own_modR HO4.out HR4.out m5 (by decide))
   have HR5:=Lib.hid h5
   have HM5:=Lib.hid (HM4.out.trans m5)
   clear h5 m5 HR4 HM4 HO4
   generalize hfr:failR W E 1 b1=fb at *
   clear hfr
   obtain ⟨v4,hrr4,_⟩:=HR5.out.hr
   have rc:=(cell_of hrr4 1).trans rfl
   have rf:=frozen_of hrr4 1
   have rl4:=lt_of hrr4
   have HS:=Lib.hid (HR5.out.set (a':=2) (bad':=fb) (o:=1) (u:=.int .i64 2) (fun v=>by simp))
   have HO6:=Lib.hid (own_modR HO5.out HR5.out HS.out.2 (by decide))
   clear hrr4
   go_wp2_with fail
   go_ret
   refine ⟨⟨_,rfl,⟨_,rfl,by rw [HBS.out]; exact HO6.out⟩, ?_⟩,HM5.out.trans HS.out.2⟩
   have hrb:fb=rb:=HRB.out
   rw [← hrb]
   exact HS.out.1
def verbs:List (List UInt8):=[[99,114,101,97,116,101],[119,105,110,100,111,119],[97,100,100],[116,105,99,107],[116,111,116,97,108],[101,120,112,111,114,116],[100,114,111,112],[113,117,97,110,116,105,108,101],[112,111,105,110,116],[114,97,110,103,101],[104,101,97,118,121],[105,110,110,101,114],[109,101,114,103,101],[115,117,98,116,114,97,99,116],[105,109,112,111,114,116]]
set_option maxRecDepth 20000 in
set_option maxHeartbeats 8000000 in
theorem RCmdNo_c (base r:Nat) (W:List (ByteArray × Nat)) (E:Nat) (w:World) (hT:Tabs w) (h:RdAt base w r W E 0 none) (hW:∀ p∈W,p.1.size≤100000000) (hl:W.length≤100000000) (hl0:0 < W.length) (hE:E≤100000000) (hv:W[0].1.toList ∉ verbs) :
 Calls Tryz.prog 80 #[.pointer (some ⟨r,0,none⟩)] w fun e w'=>(e=.returned .nilIface∧RdAt base w' r W E 0 (failR W E 0 none))∧Mod (fun k=>k=r) w w':=by
 have hrl:=h.lt
 have hbr:=h.br
 have hb10:=h.b10
 have hs0:base≤w.heap.size:=by omega
 have HN1:=Lib.hid (RNext_c base r W E 0 none w h hl (by omega) hE)
 obtain ⟨e1,e2⟩:=next_yes (E:=E) hl0
 rw [e1,e2] at HN1
 generalize W[0].1=vb at *
 clear e1 e2
 have n0:(vb.toList == [99,114,101,97,116,101])=false:=beq_eq_false_iff_ne.2 fun e=>hv (by rw [e]; decide)
 have n1:(vb.toList == [119,105,110,100,111,119])=false:=beq_eq_false_iff_ne.2 fun e=>hv (by rw [e]; decide)
 have n2:(vb.toList == [97,100,100])=false:=beq_eq_false_iff_ne.2 fun e=>hv (by rw [e]; decide)
 have n3:(vb.toList == [116,105,99,107])=false:=beq_eq_false_iff_ne.2 fun e=>hv (by rw [e]; decide)
 have n4:(vb.toList == [116,111,116,97,108])=false:=beq_eq_false_iff_ne.2 fun e=>hv (by rw [e]; decide)
 have n5:(vb.toList == [101,120,112,111,114,116])=false:=beq_eq_false_iff_ne.2 fun e=>hv (by rw [e]; decide)
 have n6:(vb.toList == [100,114,111,112])=false:=beq_eq_false_iff_ne.2 fun e=>hv (by rw [e]; decide)
 have n7:(vb.toList == [113,117,97,110,116,105,108,101])=false:=beq_eq_false_iff_ne.2 fun e=>hv (by rw [e]; decide)
 have n8:(vb.toList == [112,111,105,110,116])=false:=beq_eq_false_iff_ne.2 fun e=>hv (by rw [e]; decide)
 have n9:(vb.toList == [114,97,110,103,101])=false:=beq_eq_false_iff_ne.2 fun e=>hv (by rw [e]; decide)
 have n10:(vb.toList == [104,101,97,118,121])=false:=beq_eq_false_iff_ne.2 fun e=>hv (by rw [e]; decide)
 have n11:(vb.toList == [105,110,110,101,114])=false:=beq_eq_false_iff_ne.2 fun e=>hv (by rw [e]; decide)
 have n12:(vb.toList == [109,101,114,103,101])=false:=beq_eq_false_iff_ne.2 fun e=>hv (by rw [e]; decide)
 have n13:(vb.toList == [115,117,98,116,114,97,99,116])=false:=beq_eq_false_iff_ne.2 fun e=>hv (by rw [e]; decide)
 have n14:(vb.toList == [105,109,112,111,114,116])=false:=beq_eq_false_iff_ne.2 fun e=>hv (by rw [e]; decide)
 clear hv
 go_enter Tryz.func80,Tryz.ntmps80
 go_wp2_with fail
 refine Calls.mono HN1.out ?_
 rintro e w1 ⟨rfl,h1,m1⟩
 have HR2:=Lib.hid (h1.set (a':=1) (bad':=none) (o:=1) (u:=.int .i64 1) (fun v=>by simp)).1
 have HM2:=Lib.hid (m1.trans (h1.set (a':=1) (bad':=none) (o:=1) (u:=.int .i64 1) (fun v=>by simp)).2)
 have HT2:=Lib.hid (hT.below hb10 (HM2.out.below' hbr hrl))
 obtain ⟨v,hrr,_⟩:=h1.hr
 have rc:=(cell_of hrr 1).trans rfl
 have rf:=frozen_of hrr 1
 have rl1:=lt_of hrr
 have hs1:=m1.size
 clear HN1 hrr h1 m1
 generalize hW2:w1.setCell ⟨r,1,none⟩ (.int .i64 1)=w2 at HR2 HM2 HT2
 have HS:=Lib.hid (HR2.out.set (a':=0) (bad':=none) (o:=1) (u:=.int .i64 0) (fun v=>by simp))
 have HW2:=Lib.hid hW2
 clear hW2
 go_wp2_with fail
 rw [HW2.out]
 refine Calls.mono (RFail_c base r W E 0 none _ HS.out.1 hl (by omega) hE) ?_
 rintro e w5 ⟨rfl,h5,m5⟩
 have HM5:=Lib.hid ((HM2.out.trans HS.out.2).trans m5)
 have HR5:=Lib.hid h5
 clear h5 m5
 go_wp2
 go_ret
 exact ⟨⟨rfl,HR5.out⟩,HM5.out⟩
end Go.Proofs.YtmalncfcgcebhaaGreatDoor
