/- Part. No condition. -/
import Derived.Test.YtmalncfcgcebhaaGreatDoorDTopQuantile14
import Derived.Test.YtmalncfcgcebhaaGreatDoorDTopQuantile3
namespace Go.Proofs.YtmalncfcgcebhaaGreatDoor
set_option linter.unusedVariables false
open Go.Proofs Go.RowKit
def DoesPost (w:World) (N p a m:Nat) (C:Cfg) (T:Int) (e:Ending) (w':World):Prop :=
 e = .returned (.bool true) ∧ ∃ l' g' f',PlAt w' N p a m l' C (T + T) g' f' ∧ Below N w w'
theorem PlAt.below_ext {w w':World} {N p a m:Nat} {l:List (Nat × Th)} {C:Cfg} {T:Int} {g:Nat → Nat → List Int} {f:Nat → Nat → Int} (H:PlAt w N p a m l C T g f) (hx:Ext w w'):Below N w w' :=
 Below.mono hx (Nat.le_trans H.lp (Nat.le_of_lt H.tw.lt))
theorem hand3 (x:Int):∃ h:Nat,(h:Int) = x % 65536 % 3 ∧ h < 3:=⟨(x % 65536 % 3).toNat,by omega,by omega⟩
theorem smallZ_bd (mode d:Int):-1048576 < smallZ mode d ∧ smallZ mode d < 1048576 ∧ (mode = 2 → 0 ≤ smallZ mode d):=by
 have h:=tmod_b20 (d:=d) (k:=1048576) (by decide)
 unfold smallZ
 split
 · exact ⟨by omega,by omega,fun _=>by omega⟩
 · exact ⟨by omega,by omega,fun h=>absurd h (by assumption)⟩
theorem done_ba:(⟨(repT .done).toArray⟩:ByteArray) = ⟨#[100,111,110,101]⟩:=rfl
set_option maxRecDepth 20000 in
set_option maxHeartbeats 8000000 in
theorem TDoesAdd_c {w:World} {N p a m:Nat} {l:List (Nat × Th)} {C:Cfg} {T:Int} {g:Nat → Nat → List Int} {f:Nat → Nat → Int} (H:PlAt w N p a m l C T g f) (hT1:1048576 ≤ T) (hT2:T ≤ 35184372088832) (kd ho oo key d:Int) (h1:I64 ho) (h2:I64 oo) (h3:U64 key) (h4:I64 d) (hk3:kd ≠ 3) (hk4:kd ≠ 4) :
 Calls Tryz.prog 48 #[.pointer (some ⟨p,0,none⟩),.agg #[.int .i64 kd,.int .i64 ho,.int .i64 oo,.int .u64 key,.int .i64 d]] w (DoesPost w N p a m C T):=by
 have HH:=Lib.hid H
 have hpl:=H.tw.lt
 obtain ⟨c0,c1,c2,c3,c4,c5⟩:=H.tw.c0
 have b3:(kd == 3) = false:=by simpa using hk3
 have b4:(kd == 4) = false:=by simpa using hk4
 obtain ⟨h,hh,hh3⟩:=hand3 ho
 obtain ⟨o,ho',ho3⟩:=hand3 oo
 have HH1:=fun W=>Lib.hid (THandle_c ho h1 W)
 have HO1:=fun W=>Lib.hid (THandle_c oo h2 W)
 rw [← hh] at HH1
 rw [← ho'] at HO1
 clear hh ho'
 obtain ⟨k,hk⟩:∃ k:Nat,(k:Int) = key % 64:=⟨(key % 64).toNat,by omega⟩
 have hk64:k < 64:=by omega
 have hkt:key.tmod 64 = (k:Int):=by rw [hk,Int.tmod_eq_emod_of_nonneg h3.1]
 clear hk
 have hsm:=smallZ_bd C.mode d
 have HSM:=fun W=>Lib.hid (TSmall_c C d h4 W)
 generalize smallZ C.mode d = z at *
 have hzI:I64 z:=by unfold I64; omega
 have hadd:=H.hd.add H.ok H.hb hh3 hk64 (d:=z) (by omega) hsm.2.2 (by omega)
 have hfb:=H.hd.f_bd hh3 hk64
 have HADD:=Lib.hid hadd
 have HL:=fun W (hx:Ext w W)=>Lib.hid ((H.ext hx).line (top_add hh3 (show (0:Int) ≤ (k:Int) by omega) (by omega) hzI hadd.2))
 have HT1:=fun W=>Lib.hid (TText_c ((h + 1:Nat):Int) (hI hh3) W)
 have hkI:I64 (k:Int):=by unfold I64; omega
 have HT2:=fun W=>Lib.hid (TText_c (k:Int) hkI W)
 have HT3:=fun W=>Lib.hid (TText_c z hzI W)
 have z1:=tb_size (hI hh3)
 have z2:=tb_size hkI
 have z3:=tb_size hzI
 have hcat:=cat_three vAdd ((h + 1:Nat):Int) (k:Int) z
 obtain ⟨t1,e1⟩:∃ t,(⟨(Lib.itoa ((h + 1:Nat):Int)).toArray⟩:ByteArray) = t:=⟨_,rfl⟩
 obtain ⟨t2,e2⟩:∃ t,(⟨(Lib.itoa (k:Int)).toArray⟩:ByteArray) = t:=⟨_,rfl⟩
 obtain ⟨t3,e3⟩:∃ t,(⟨(Lib.itoa z).toArray⟩:ByteArray) = t:=⟨_,rfl⟩
 obtain ⟨sb,e4⟩:∃ t,lineB vAdd [((h + 1:Nat):Int),(k:Int),z] = t:=⟨_,rfl⟩
 have hv:(⟨(vAdd ++ [32]).toArray⟩:ByteArray) = ⟨#[97,100,100,32]⟩:=rfl
 rw [e1,e2,e3,e4,hv] at hcat
 rw [e1] at z1
 rw [e2] at z2
 rw [e3] at z3
 unfold strV at HT1 HT2 HT3 HL
 rw [e1] at HT1
 rw [e2] at HT2
 rw [e3] at HT3
 rw [e4,done_ba] at HL
 have hzb:-1048576 < z ∧ z < 1048576:=⟨hsm.1,hsm.2.1⟩
 have hhc:(h:Int) + 1 = ((h + 1:Nat):Int):=by omega
 have HHC:=Lib.hid hhc
 clear e1 e2 e3 e4 hv hadd hhc hsm H
 obtain ⟨W1,hW1⟩:∃ W1,w.alloc (.cells #[.int .i64 kd,.int .i64 ho,.int .i64 oo,.int .u64 key,.int .i64 d] 102) = W1:=⟨_,rfl⟩
 have hb1:=heap_at w (.cells #[.int .i64 kd,.int .i64 ho,.int .i64 oo,.int .u64 key,.int .i64 d] 102) rfl
 have hx1:=Ext.alloc' w (.cells #[.int .i64 kd,.int .i64 ho,.int .i64 oo,.int .u64 key,.int .i64 d] 102)
 rw [hW1] at hb1 hx1
 have o0:=(cell_of hb1 0).trans rfl
 have o1:=(cell_of hb1 1).trans rfl
 have o2:=(cell_of hb1 2).trans rfl
 have o3:=(cell_of hb1 3).trans rfl
 have o4:=(cell_of hb1 4).trans rfl
 have ol:=lt_of hb1
 have c0:=(hx1.cell hpl).trans c0
 have c1:=(hx1.cell hpl).trans c1
 have c2:=(hx1.cell hpl).trans c2
 have c3:=(hx1.cell hpl).trans c3
 have c4:=(hx1.cell hpl).trans c4
 have c5:=(hx1.cell hpl).trans c5
 have hpl1:=Nat.lt_of_lt_of_le hpl hx1.size
 have HX1:=Lib.hid hx1
 have hNs:∀ k,AgF a m l k → k < w.heap.size:=fun k hk=>HH.out.ag.flt hk
 obtain ⟨S,hS⟩:∃ S,AgF a m l = S:=⟨_,rfl⟩
 have nS1:¬ S w.heap.size:=by
  rw [← hS]
  intro h
  have:=hNs _ h
  omega
 have nS2:¬ S p:=by rw [← hS]; exact HH.out.np
 have HSS:=Lib.hid hS
 clear hS hNs hb1 hx1
 go_enter Tryz.func48,Tryz.ntmps48
 go_wp2_with fail
 clear hW1
 refine Calls.mono (HH1 _).out ?_
 rintro e v1 ⟨rfl,rfl⟩
 go_wp2_with fail
 refine Calls.mono (HO1 _).out ?_
 rintro e v2 ⟨rfl,rfl⟩
 go_wp2_with fail
 have hC0:=af_drew v2
 refine pi_start (fun w'=>∃ x:After v2,w' = x.w) [] (by kernel_rfl) ?_
 refine pi_t 0 rfl (by kernel_rfl) (by kernel_rfl) (fun _ _ _ _ h=>h) (fun K hK=>?_)
 go_big_quiet_op
 refine hK _ ?_
 clear hK K
 refine pi_t 1 rfl (by kernel_rfl) (by kernel_rfl) (fun _ _ _ _ h=>h) (fun K hK=>?_)
 go_big_quiet_op
 refine hK _ ?_
 clear hK K
 refine pi_t 2 rfl (by kernel_rfl) (by kernel_rfl) (fun _ _ _ _ h=>h) (fun K hK=>?_)
 go_big_quiet_op
 refine hK _ ?_
 clear hK K
 refine pi_t 4 rfl (by kernel_rfl) (by kernel_rfl) (fun _ _ _ _ h=>h) (fun K hK=>?_)
 go_big_quiet_op
 refine hK _ ?_
 clear hK K
 refine pi_c 3 (by assumption) rfl (by kernel_rfl) (by kernel_rfl) (fun _ _ _ _ h=>h) (fun K hK=>?_)
 go_big_quiet_op
 refine hK _ ?_
 clear hK K
 refine pi_c 5 (by assumption) rfl (by kernel_rfl) (by kernel_rfl) (fun _ _ _ _ h=>h) (fun K hK=>?_)
 go_big_quiet_op
 refine hK _ ?_
 clear hK K
 refine pi_l 6 rfl (by kernel_rfl) (fun K hK=>?_)
 go_wp2_with (go_at_call 96; refine (HSM _).out.mono ?_; rintro e v3 ⟨rfl,hx3⟩)
 refine hK _ _ (fun _ h=>af_step h hx3) ?_
 clear hK K
 refine pi_t 7 rfl (by kernel_rfl) (by kernel_rfl) (fun _ _ _ _ h=>h) (fun K hK=>?_)
 go_big_quiet_op
 refine hK _ ?_
 clear hK K
 refine pi_end (by kernel_rfl) ?_
 have hx3':Ext v2 v3:=(Ext.refl v2).drewR.trans' hx3
 have HX3:=Lib.hid (HX1.out.trans' hx3')
 have c0:=(hx3'.cell hpl1).trans c0
 have hpl3:=Nat.lt_of_lt_of_le hpl1 hx3'.size
 have HX23:=Lib.hid hx3'
 clear hx3 hx3' hC0 c1 c2 c3 c4 c5
 go_wp2_with fail
 have hC0:=afs_drew S v3
 refine pi_start (fun w'=>∃ x:AftS S v3,w' = x.w) [] (by kernel_rfl) ?_
 refine pi_t 0 rfl (by kernel_rfl) (by kernel_rfl) (fun _ _ _ _ h=>h) (fun K hK=>?_)
 go_big_quiet_op
 refine hK _ ?_
 clear hK K
 refine pi_t 1 rfl (by kernel_rfl) (by kernel_rfl) (fun _ _ _ _ h=>h) (fun K hK=>?_)
 go_big_quiet_op
 refine hK _ ?_
 clear hK K
 refine pi_t 2 rfl (by kernel_rfl) (by kernel_rfl) (fun _ _ _ _ h=>h) (fun K hK=>?_)
 go_big_quiet_op
 refine hK _ ?_
 clear hK K
 refine pi_t 4 rfl (by kernel_rfl) (by kernel_rfl) (fun _ _ _ _ h=>h) (fun K hK=>?_)
 go_big_quiet_op
 refine hK _ ?_
 clear hK K
 refine pi_t 5 rfl (by kernel_rfl) (by kernel_rfl) (fun _ _ _ _ h=>h) (fun K hK=>?_)
 go_big_quiet_op
 refine hK _ ?_
 clear hK K
 refine pi_t 9 rfl (by kernel_rfl) (by kernel_rfl) (fun _ _ _ _ h=>h) (fun K hK=>?_)
 go_big_quiet_op
 refine hK _ ?_
 clear hK K
 refine pi_t 10 rfl (by kernel_rfl) (by kernel_rfl) (fun _ _ _ _ h=>h) (fun K hK=>?_)
 go_big_quiet_op
 refine hK _ ?_
 clear hK K
 refine pi_t 14 rfl (by kernel_rfl) (by kernel_rfl) (fun _ _ _ _ h=>h) (fun K hK=>?_)
 go_big_quiet_op
 refine hK _ ?_
 clear hK K
 refine pi_c 3 (by assumption) rfl (by kernel_rfl) (by kernel_rfl) (fun _ _ _ _ h=>h) (fun K hK=>?_)
 go_big_quiet_op
 refine hK _ ?_
 clear hK K
 refine pi_l 6 rfl (by kernel_rfl) (fun K hK=>?_)
 go_wp2_with (go_at_call 16; rw [HHC.out]; refine (HT1 _).out.mono ?_; rintro e y1 ⟨rfl,hy1⟩)
 refine hK _ _ (fun _ h=>afs_step h hy1) ?_
 clear hK K
 refine pi_t 7 rfl (by kernel_rfl) (by kernel_rfl) (fun _ _ _ _ h=>h) (fun K hK=>?_)
 go_big_quiet_op
 refine hK _ ?_
 clear hK K
 refine pi_t 8 rfl (by kernel_rfl) (by kernel_rfl) (fun _ _ _ _ h=>h) (fun K hK=>?_)
 go_big_quiet_op
 refine hK _ ?_
 clear hK K
 refine pi_l 11 rfl (by kernel_rfl) (fun K hK=>?_)
 go_wp2_with (go_at_call 16; refine (HT2 _).out.mono ?_; rintro e y2 ⟨rfl,hy2⟩)
 refine hK _ _ (fun _ h=>afs_step h hy2) ?_
 clear hK K
 refine pi_t 12 rfl (by kernel_rfl) (by kernel_rfl) (fun _ _ _ _ h=>h) (fun K hK=>?_)
 go_big_quiet_op
 refine hK _ ?_
 clear hK K
 refine pi_t 13 rfl (by kernel_rfl) (by kernel_rfl) (fun _ _ _ _ h=>h) (fun K hK=>?_)
 go_big_quiet_op
 refine hK _ ?_
 clear hK K
 refine pi_l 15 rfl (by kernel_rfl) (fun K hK=>?_)
 go_wp2_with (go_at_call 16; refine (HT3 _).out.mono ?_; rintro e y3 ⟨rfl,hy3⟩)
 refine hK _ _ (fun _ h=>afs_step h hy3) ?_
 clear hK K
 have hy:Ext v3 y3:=((((Ext.refl v3).drewR.trans' hy1).trans' hy2).trans' hy3)
 have HY:=Lib.hid hy
 clear hy1 hy2 hy3 hy
 refine pi_t 16 rfl (by kernel_rfl) (by kernel_rfl) (fun _ _ _ _ h=>h) (fun K hK=>?_)
 go_big_quiet_op
 refine hK _ ?_
 clear hK K
 refine pi_l 17 rfl (by kernel_rfl) (fun K hK=>?_)
 go_wp2_with (go_at_call 15; refine (HL y3 (HX3.out.trans' HY.out)).out.mono ?_; rintro e v4 ⟨rfl,l',hA',hst',hnp',htw',htb',hM,hfr⟩)
 have hM3:Mod S v3 v4:=by rw [← HSS.out]; exact (HY.out.mod _).trans hM
 refine hK _ _ (fun _ _=>⟨⟨_,hM3⟩,rfl⟩) ?_
 clear hK K
 refine pi_t 18 rfl (by kernel_rfl) (by kernel_rfl) (fun _ _ _ _ h=>h) (fun K hK=>?_)
 go_big_quiet_op
 refine hK _ ?_
 clear hK K
 refine pi_t 19 rfl (by kernel_rfl) (by kernel_rfl) (fun _ _ _ _ h=>h) (fun K hK=>?_)
 go_big_quiet_op
 refine hK _ ?_
 clear hK K
 refine pi_t 20 rfl (by kernel_rfl) (by kernel_rfl) (fun _ _ _ _ h=>h) (fun K hK=>?_)
 go_big_quiet_op
 refine hK _ ?_
 clear hK K
 refine pi_t 21 rfl (by kernel_rfl) (by kernel_rfl) (fun _ _ _ _ h=>h) (fun K hK=>?_)
 go_big_quiet_op
 refine hK _ ?_
 clear hK K
 refine pi_t 22 rfl (by kernel_rfl) (by kernel_rfl) (fun _ _ _ _ h=>h) (fun K hK=>?_)
 go_big_quiet_op
 refine hK _ ?_
 clear hK K
 refine pi_end (by kernel_rfl) ?_
 have hB4:Below N w v4:=Below.trans (HH.out.below_ext (HX3.out.trans' HY.out)) ((HH.out.ag.ext (HX3.out.trans' HY.out)).below hM)
 have hcl:=htw'.cell hh3 hk64
 have hfz:=htw'.frz (6 + h * 64 + k)
 have hp4:=htw'.lt
 have HF1:=Lib.hid (And.intro hA' (And.intro hst' (And.intro hnp' (And.intro htw' (And.intro htb' hB4)))))
 obtain ⟨y,hyy⟩:∃ y,f h k = y:=⟨_,rfl⟩
 have HYY:=Lib.hid hyy
 rw [hyy] at hfb hcl
 have hwr:wrap64 (y + z) = y + z:=by unfold wrap64; omega
 clear hyy hM hM3 hA' hst' hnp' htw' htb' hB4 hfr hC0 c0
 go_wp2_with fail
 have hC0:=af_drew v4
 refine pi_start (fun w'=>∃ x:After v4,w' = x.w) [17] (by kernel_rfl) ?_
 refine pi_t 0 rfl (by kernel_rfl) (by kernel_rfl) (fun _ _ _ _ h=>h) (fun K hK=>?_)
 go_big_quiet_op
 refine hK _ ?_
 clear hK K
 refine pi_t 1 rfl (by kernel_rfl) (by kernel_rfl) (fun _ _ _ _ h=>h) (fun K hK=>?_)
 go_big_quiet_op
 refine hK _ ?_
 clear hK K
 refine pi_t 2 rfl (by kernel_rfl) (by kernel_rfl) (fun _ _ _ _ h=>h) (fun K hK=>?_)
 go_big_quiet_op
 refine hK _ ?_
 clear hK K
 refine pi_t 3 rfl (by kernel_rfl) (by kernel_rfl) (fun _ _ _ _ h=>h) (fun K hK=>?_)
 go_big_quiet_op
 refine hK _ ?_
 clear hK K
 refine pi_t 4 rfl (by kernel_rfl) (by kernel_rfl) (fun _ _ _ _ h=>h) (fun K hK=>?_)
 go_big_quiet_op
 refine hK _ ?_
 clear hK K
 refine pi_t 5 rfl (by kernel_rfl) (by kernel_rfl) (fun _ _ _ _ h=>h) (fun K hK=>?_)
 go_big_quiet_op
 refine hK _ ?_
 clear hK K
 refine pi_t 6 rfl (by kernel_rfl) (by kernel_rfl) (fun _ _ _ _ h=>h) (fun K hK=>?_)
 go_big_quiet_op
 refine hK _ ?_
 clear hK K
 refine pi_t 7 rfl (by kernel_rfl) (by kernel_rfl) (fun _ _ _ _ h=>h) (fun K hK=>?_)
 go_big_quiet_op
 refine hK _ ?_
 clear hK K
 refine pi_t 8 rfl (by kernel_rfl) (by kernel_rfl) (fun _ _ _ _ h=>h) (fun K hK=>?_)
 go_big_quiet_op
 refine hK _ ?_
 clear hK K
 refine pi_t 9 rfl (by kernel_rfl) (by kernel_rfl) (fun _ _ _ _ h=>h) (fun K hK=>?_)
 go_big_quiet_op
 refine hK _ ?_
 clear hK K
 refine pi_t 11 rfl (by kernel_rfl) (by kernel_rfl) (fun _ _ _ _ h=>h) (fun K hK=>?_)
 go_big_quiet_op
 refine hK _ ?_
 clear hK K
 refine pi_t 13 rfl (by kernel_rfl) (by kernel_rfl) (fun _ _ _ _ h=>h) (fun K hK=>?_)
 go_big_quiet_op
 refine hK _ ?_
 clear hK K
 refine pi_t 14 rfl (by kernel_rfl) (by kernel_rfl) (fun _ _ _ _ h=>h) (fun K hK=>?_)
 go_big_quiet_op
 refine hK _ ?_
 clear hK K
 refine pi_t 15 rfl (by kernel_rfl) (by kernel_rfl) (fun _ _ _ _ h=>h) (fun K hK=>?_)
 go_big_quiet_op
 refine hK _ ?_
 clear hK K
 refine pi_c 10 (by assumption) rfl (by kernel_rfl) (by kernel_rfl) (fun _ _ _ _ h=>h) (fun K hK=>?_)
 go_big_quiet_op
 refine hK _ ?_
 clear hK K
 refine pi_t 12 rfl (by kernel_rfl) (by kernel_rfl) (fun _ _ _ _ h=>h) (fun K hK=>?_)
 go_big_quiet_op
 refine hK _ ?_
 clear hK K
 refine pi_t 16 rfl (by kernel_rfl) (by kernel_rfl) (fun _ _ _ _ h=>h) (fun K hK=>?_)
 go_big_quiet_op
 refine hK _ ?_
 clear hK K
 refine pi_l 17 rfl (by kernel_rfl) (fun K hK=>?_)
 go_wp2
 refine hK _ _ (by simp) ?_
 clear hK K
 refine pi_end (by kernel_rfl) ?_
 have hv5:-1125899906842624 ≤ y + z ∧ y + z ≤ 1125899906842624:=by omega
 obtain ⟨g1,g2,g3,g4,g5,g6⟩:=HF1.out
 obtain ⟨q1,q2,q3,q4⟩:=PlAt.put g4 g1 g3 g5 HH.out.lo HH.out.lp hh3 hk64 hv5
 obtain ⟨W5,hW5⟩:∃ W5,v4.setCell ⟨p,6 + h * 64 + k,none⟩ (.int .i64 (y + z)) = W5:=⟨_,rfl⟩
 rw [hW5] at q1 q2 q3 q4
 have hfn:(fun h' j=>if h' = h ∧ j = k then y + z else f h' j) = addFn f h k z:=by
  funext h' j
  unfold addFn
  by_cases e:h' = h ∧ j = k
  · rw [if_pos e,if_pos e,e.1,e.2,HYY.out]
  · rw [if_neg e,if_neg e]
 rw [hfn] at q1
 have HF:Hid (PlAt W5.drew N p a m l' C (T + T) (setG g h (updK C (g h) (k:Int) z)) (addFn f h k z) ∧ Below N w W5.drew):=Lib.hid ⟨PlAt.ext ⟨q1,q2,g2,g3,HH.out.ok,HH.out.hb,HADD.out.1,q3,HH.out.lo,HH.out.lp⟩ (Ext.refl W5).drewR,Below.drew (Below.trans g6 q4)⟩
 clear q1 q2 q3 q4 g1 g2 g3 g4 g5 g6 hfn hcl hfz hC0
 go_wp2
 go_ret
 exact ⟨rfl,_,_,_,HF.out.1,HF.out.2⟩
end Go.Proofs.YtmalncfcgcebhaaGreatDoor
namespace Go.Proofs.YtmalncfcgcebhaaGreatDoor
set_option linter.unusedVariables false
open Go.Proofs Go.RowKit
def rowV (f:Nat → Int):List Value:=(List.range 64).map fun j=>.int .i64 (f j)
theorem rowV_get {f:Nat → Int} {i:Nat} (h:i < 64):(rowV f)[i]? = some (.int .i64 (f i)):=by
 unfold rowV
 rw [List.getElem?_map,List.getElem?_range h]
 rfl
theorem TWAt.row {w:World} {p a:Nat} {C:Cfg} {f:Nat → Nat → Int} (H:TWAt w p a C f) {o:Nat} (ho:o < 3):w.rangeAt p (6 + o * 64) (rowV (f o)):=by
 intro j v hv
 have hj:j < 64:=by
  have:=(List.getElem?_eq_some_iff.1 hv).1
  simpa [rowV] using this
 rw [rowV_get hj] at hv
 cases hv
 exact H.cell ho hj
def mixFn (op:Int → Int → Int) (f:Nat → Nat → Int) (h o i:Nat):Nat → Nat → Int:=fun h' j=>if h' = h ∧ j < i then op (f h j) (f o j) else f h' j
theorem mixFn_zero (op:Int → Int → Int) (f:Nat → Nat → Int) (h o:Nat):mixFn op f h o 0 = f:=by
 funext h' j
 unfold mixFn
 rw [if_neg (by omega)]
theorem mixFn_here (op:Int → Int → Int) (f:Nat → Nat → Int) (h o i:Nat):mixFn op f h o i h i = f h i:=by
 unfold mixFn
 rw [if_neg (by omega)]
theorem mixFn_step (op:Int → Int → Int) (f:Nat → Nat → Int) (h o i:Nat):(fun h' j=>if h' = h ∧ j = i then op (f h i) (f o i) else mixFn op f h o i h' j) = mixFn op f h o (i + 1):=by
 funext h' j
 unfold mixFn
 by_cases e:h' = h ∧ j = i
 · obtain ⟨rfl,rfl⟩:=e
   rw [if_pos ⟨rfl,rfl⟩,if_pos ⟨rfl,by omega⟩]
 · rw [if_neg e]
   by_cases e2:h' = h ∧ j < i
   · rw [if_pos e2,if_pos ⟨e2.1,by omega⟩]
   · rw [if_neg e2,if_neg]
     rintro ⟨a,b⟩
     by_cases e3:j = i
     · exact e ⟨a,e3⟩
     · exact e2 ⟨a,by omega⟩
theorem TWAt.congr {w:World} {p a:Nat} {C:Cfg} {f f':Nat → Nat → Int} (H:TWAt w p a C f) (h:∀ h' j,h' < 3 → j < 64 → f h' j = f' h' j):TWAt w p a C f':=by
 obtain ⟨cur,h1,a0,a1,a2,a3,a4,a5,h2⟩:=H.ex
 exact ⟨⟨cur,h1,a0,a1,a2,a3,a4,a5,fun h' j hh hj=>by rw [← h h' j hh hj]; exact h2 h' j hh hj⟩,fun h' j hh hj=>by rw [← h h' j hh hj]; exact H.bd h' j hh hj⟩
theorem mixFn_plus (f:Nat → Nat → Int) (h o:Nat):∀ h' j,h' < 3 → j < 64 → mixFn (fun x y=>x + y) f h o 64 h' j = plusFn f h o h' j:=by
 intro h' j _ hj
 unfold mixFn plusFn
 by_cases e:h' = h
 · rw [if_pos ⟨e,hj⟩,if_pos e]
 · rw [if_neg (fun h=>e h.1),if_neg e]
theorem mixFn_minus (f:Nat → Nat → Int) (h o:Nat):∀ h' j,h' < 3 → j < 64 → mixFn (fun x y=>x - y) f h o 64 h' j = minusFn f h o h' j:=by
 intro h' j _ hj
 unfold mixFn minusFn
 by_cases e:h' = h
 · rw [if_pos ⟨e,hj⟩,if_pos e]
 · rw [if_neg (fun h=>e h.1),if_neg e]
set_option maxRecDepth 20000 in
set_option maxHeartbeats 8000000 in
theorem TDoesMerge_c {w:World} {N p a m:Nat} {l:List (Nat × Th)} {C:Cfg} {T:Int} {g:Nat → Nat → List Int} {f:Nat → Nat → Int} (H:PlAt w N p a m l C T g f) (hT1:1048576 ≤ T) (hT2:T ≤ 35184372088832) (ho oo key d:Int) (h1:I64 ho) (h2:I64 oo) (h3:U64 key) (h4:I64 d) :
 Calls Tryz.prog 48 #[.pointer (some ⟨p,0,none⟩),.agg #[.int .i64 3,.int .i64 ho,.int .i64 oo,.int .u64 key,.int .i64 d]] w (DoesPost w N p a m C T):=by
 have HH:=Lib.hid H
 have hpl:=H.tw.lt
 obtain ⟨c0,c1,c2,c3,c4,c5⟩:=H.tw.c0
 obtain ⟨h,hh,hh3⟩:=hand3 ho
 obtain ⟨o,ho',ho3⟩:=hand3 oo
 have HH1:=fun W=>Lib.hid (THandle_c ho h1 W)
 have HO1:=fun W=>Lib.hid (THandle_c oo h2 W)
 rw [← hh] at HH1
 rw [← ho'] at HO1
 have hadd:=H.hd.plus H.ok hh3 ho3 (by omega)
 have HADD:=Lib.hid hadd
 have HL:=fun W (hx:Ext w W)=>Lib.hid ((H.ext hx).line (top_merge hh3 ho3 hadd.2))
 have HT1:=fun W=>Lib.hid (TText_c ((h + 1:Nat):Int) (hI hh3) W)
 have HT2:=fun W=>Lib.hid (TText_c ((o + 1:Nat):Int) (hI ho3) W)
 have z1:=tb_size (hI hh3)
 have z2:=tb_size (hI ho3)
 have hcat:=cat_two vMerge ((h + 1:Nat):Int) ((o + 1:Nat):Int)
 obtain ⟨t1,e1⟩:∃ t,(⟨(Lib.itoa ((h + 1:Nat):Int)).toArray⟩:ByteArray) = t:=⟨_,rfl⟩
 obtain ⟨t2,e2⟩:∃ t,(⟨(Lib.itoa ((o + 1:Nat):Int)).toArray⟩:ByteArray) = t:=⟨_,rfl⟩
 obtain ⟨sb,e4⟩:∃ t,lineB vMerge [((h + 1:Nat):Int),((o + 1:Nat):Int)] = t:=⟨_,rfl⟩
 have hv:(⟨(vMerge ++ [32]).toArray⟩:ByteArray) = ⟨#[109,101,114,103,101,32]⟩:=rfl
 rw [e1,e2,e4,hv] at hcat
 rw [e1] at z1
 rw [e2] at z2
 unfold strV at HT1 HT2 HL
 rw [e1] at HT1
 rw [e2] at HT2
 rw [e4,done_ba] at HL
 have HHC:=Lib.hid (show (h:Int) + 1 = ((h + 1:Nat):Int) by omega)
 have HOC:=Lib.hid (show (o:Int) + 1 = ((o + 1:Nat):Int) by omega)
 clear hh ho' e1 e2 e4 hv hadd H
 obtain ⟨W1,hW1⟩:∃ W1,w.alloc (.cells #[.int .i64 3,.int .i64 ho,.int .i64 oo,.int .u64 key,.int .i64 d] 102) = W1:=⟨_,rfl⟩
 have hb1:=heap_at w (.cells #[.int .i64 3,.int .i64 ho,.int .i64 oo,.int .u64 key,.int .i64 d] 102) rfl
 have hx1:=Ext.alloc' w (.cells #[.int .i64 3,.int .i64 ho,.int .i64 oo,.int .u64 key,.int .i64 d] 102)
 rw [hW1] at hb1 hx1
 have o0:=(cell_of hb1 0).trans rfl
 have o1:=(cell_of hb1 1).trans rfl
 have o2:=(cell_of hb1 2).trans rfl
 have o3:=(cell_of hb1 3).trans rfl
 have o4:=(cell_of hb1 4).trans rfl
 have ol:=lt_of hb1
 have c0:=(hx1.cell hpl).trans c0
 have c1:=(hx1.cell hpl).trans c1
 have c2:=(hx1.cell hpl).trans c2
 have c3:=(hx1.cell hpl).trans c3
 have c4:=(hx1.cell hpl).trans c4
 have c5:=(hx1.cell hpl).trans c5
 have hpl1:=Nat.lt_of_lt_of_le hpl hx1.size
 have HX1:=Lib.hid hx1
 have hNs:∀ k,AgF a m l k → k < w.heap.size:=fun k hk=>HH.out.ag.flt hk
 obtain ⟨S,hS⟩:∃ S,AgF a m l = S:=⟨_,rfl⟩
 have nS1:¬ S w.heap.size:=by
  rw [← hS]
  intro h
  have:=hNs _ h
  omega
 have nS2:¬ S p:=by rw [← hS]; exact HH.out.np
 have HSS:=Lib.hid hS
 have HOB:=Lib.hid hb1
 clear hS hNs hb1 hx1
 go_enter Tryz.func48,Tryz.ntmps48
 go_wp2_with fail
 clear hW1
 refine Calls.mono (HH1 _).out ?_
 rintro e v1 ⟨rfl,rfl⟩
 go_wp2_with fail
 refine Calls.mono (HO1 _).out ?_
 rintro e v3 ⟨rfl,rfl⟩
 go_wp2_with fail
 have hC0:=afs_drew S v3
 refine pi_start (fun w'=>∃ x:AftS S v3,w' = x.w) [] (by kernel_rfl) ?_
 refine pi_t 0 rfl (by kernel_rfl) (by kernel_rfl) (fun _ _ _ _ h=>h) (fun K hK=>?_)
 go_big_quiet_op
 refine hK _ ?_
 clear hK K
 refine pi_t 1 rfl (by kernel_rfl) (by kernel_rfl) (fun _ _ _ _ h=>h) (fun K hK=>?_)
 go_big_quiet_op
 refine hK _ ?_
 clear hK K
 refine pi_t 2 rfl (by kernel_rfl) (by kernel_rfl) (fun _ _ _ _ h=>h) (fun K hK=>?_)
 go_big_quiet_op
 refine hK _ ?_
 clear hK K
 refine pi_t 4 rfl (by kernel_rfl) (by kernel_rfl) (fun _ _ _ _ h=>h) (fun K hK=>?_)
 go_big_quiet_op
 refine hK _ ?_
 clear hK K
 refine pi_t 5 rfl (by kernel_rfl) (by kernel_rfl) (fun _ _ _ _ h=>h) (fun K hK=>?_)
 go_big_quiet_op
 refine hK _ ?_
 clear hK K
 refine pi_t 6 rfl (by kernel_rfl) (by kernel_rfl) (fun _ _ _ _ h=>h) (fun K hK=>?_)
 go_big_quiet_op
 refine hK _ ?_
 clear hK K
 refine pi_t 10 rfl (by kernel_rfl) (by kernel_rfl) (fun _ _ _ _ h=>h) (fun K hK=>?_)
 go_big_quiet_op
 refine hK _ ?_
 clear hK K
 refine pi_t 11 rfl (by kernel_rfl) (by kernel_rfl) (fun _ _ _ _ h=>h) (fun K hK=>?_)
 go_big_quiet_op
 refine hK _ ?_
 clear hK K
 refine pi_c 3 (by assumption) rfl (by kernel_rfl) (by kernel_rfl) (fun _ _ _ _ h=>h) (fun K hK=>?_)
 go_big_quiet_op
 refine hK _ ?_
 clear hK K
 refine pi_l 7 rfl (by kernel_rfl) (fun K hK=>?_)
 go_wp2_with (go_at_call 16; rw [HHC.out]; refine (HT1 _).out.mono ?_; rintro e y1 ⟨rfl,hy1⟩)
 refine hK _ _ (fun _ h=>afs_step h hy1) ?_
 clear hK K
 refine pi_t 8 rfl (by kernel_rfl) (by kernel_rfl) (fun _ _ _ _ h=>h) (fun K hK=>?_)
 go_big_quiet_op
 refine hK _ ?_
 clear hK K
 refine pi_t 9 rfl (by kernel_rfl) (by kernel_rfl) (fun _ _ _ _ h=>h) (fun K hK=>?_)
 go_big_quiet_op
 refine hK _ ?_
 clear hK K
 refine pi_l 12 rfl (by kernel_rfl) (fun K hK=>?_)
 go_wp2_with (go_at_call 16; rw [HOC.out]; refine (HT2 _).out.mono ?_; rintro e y2 ⟨rfl,hy2⟩)
 refine hK _ _ (fun _ h=>afs_step h hy2) ?_
 clear hK K
 have hy:Ext v3 y2:=(((Ext.refl v3).drewR.trans' hy1).trans' hy2)
 have HY:=Lib.hid hy
 clear hy1 hy2 hy
 refine pi_t 13 rfl (by kernel_rfl) (by kernel_rfl) (fun _ _ _ _ h=>h) (fun K hK=>?_)
 go_big_quiet_op
 refine hK _ ?_
 clear hK K
 refine pi_l 14 rfl (by kernel_rfl) (fun K hK=>?_)
 go_wp2_with (go_at_call 15; refine (HL y2 (HX1.out.trans' HY.out)).out.mono ?_; rintro e v4 ⟨rfl,l',hA',hst',hnp',htw',htb',hM,hfr⟩)
 have hM3:Mod S v3 v4:=by rw [← HSS.out]; exact (HY.out.mod _).trans hM
 refine hK _ _ (fun _ _=>⟨⟨_,hM3⟩,rfl⟩) ?_
 clear hK K
 refine pi_t 15 rfl (by kernel_rfl) (by kernel_rfl) (fun _ _ _ _ h=>h) (fun K hK=>?_)
 go_big_quiet_op
 refine hK _ ?_
 clear hK K
 refine pi_t 16 rfl (by kernel_rfl) (by kernel_rfl) (fun _ _ _ _ h=>h) (fun K hK=>?_)
 go_big_quiet_op
 refine hK _ ?_
 clear hK K
 refine pi_t 17 rfl (by kernel_rfl) (by kernel_rfl) (fun _ _ _ _ h=>h) (fun K hK=>?_)
 go_big_quiet_op
 refine hK _ ?_
 clear hK K
 refine pi_t 18 rfl (by kernel_rfl) (by kernel_rfl) (fun _ _ _ _ h=>h) (fun K hK=>?_)
 go_big_quiet_op
 refine hK _ ?_
 clear hK K
 refine pi_t 19 rfl (by kernel_rfl) (by kernel_rfl) (fun _ _ _ _ h=>h) (fun K hK=>?_)
 go_big_quiet_op
 refine hK _ ?_
 clear hK K
 refine pi_end (by kernel_rfl) ?_
 have hB4:Below N w v4:=Below.trans (HH.out.below_ext (HX1.out.trans' HY.out)) ((HH.out.ag.ext (HX1.out.trans' HY.out)).below hM)
 have hp4:=htw'.lt
 have HRO:=Lib.hid (htw'.row ho3)
 have HF1:=Lib.hid (And.intro hA' (And.intro hst' (And.intro hnp' (And.intro htw' (And.intro htb' hB4)))))
 obtain ⟨d0,d1,d2,d3,d4,d5⟩:=htw'.c0
 have ob:v4.heap[w.heap.size]? = some (.cells #[.int .i64 3,.int .i64 ho,.int .i64 oo,.int .u64 key,.int .i64 d] 102 (0,0)):=(hM3.block _ ol nS1).trans HOB.out
 have o0:=(cell_of ob 0).trans rfl
 have ol4:=lt_of ob
 have HOB4:=Lib.hid ob
 have hv4s:w.heap.size + 1 ≤ v4.heap.size:=by omega
 clear hM hA' hst' hnp' htw' htb' hB4 hfr hC0 c0 c1 c2 c3 c4 c5 o1 o2 o3 o4 hM3 ob
 go_wp2_with (first | (refine wpList_load_mid (ty:=33) rfl _ rfl p (6 + o * 64) rfl (rowV (f o)) _ HRO.out Tryz.underlying33 rfl (by kernel_rfl) ?_) | (refine wpList_store_rowTo (ty:=33) rfl _ _ rfl rfl v4.heap.size (rowV (f o)).toArray rfl rfl 33 _ (heap_at v4 _ rfl) (by kernel_rfl) (by kernel_rfl) (by kernel_rfl) ?_))
 have hx0:Ext v4 ((v4.alloc (.cells #[.int .i64 0,.int .i64 0,.int .i64 0,.int .i64 0,.int .i64 0,.int .i64 0,.int .i64 0,.int .i64 0,.int .i64 0,.int .i64 0,.int .i64 0,.int .i64 0,.int .i64 0,.int .i64 0,.int .i64 0,.int .i64 0,.int .i64 0,.int .i64 0,.int .i64 0,.int .i64 0,.int .i64 0,.int .i64 0,.int .i64 0,.int .i64 0,.int .i64 0,.int .i64 0,.int .i64 0,.int .i64 0,.int .i64 0,.int .i64 0,.int .i64 0,.int .i64 0,.int .i64 0,.int .i64 0,.int .i64 0,.int .i64 0,.int .i64 0,.int .i64 0,.int .i64 0,.int .i64 0,.int .i64 0,.int .i64 0,.int .i64 0,.int .i64 0,.int .i64 0,.int .i64 0,.int .i64 0,.int .i64 0,.int .i64 0,.int .i64 0,.int .i64 0,.int .i64 0,.int .i64 0,.int .i64 0,.int .i64 0,.int .i64 0,.int .i64 0,.int .i64 0,.int .i64 0,.int .i64 0,.int .i64 0,.int .i64 0,.int .i64 0,.int .i64 0] 33)).setRow v4.heap.size (rowV (f o)).toArray):=below_setRow (Ext.alloc' v4 _) (Nat.le_refl _) _
 have hr0:((v4.alloc (.cells #[.int .i64 0,.int .i64 0,.int .i64 0,.int .i64 0,.int .i64 0,.int .i64 0,.int .i64 0,.int .i64 0,.int .i64 0,.int .i64 0,.int .i64 0,.int .i64 0,.int .i64 0,.int .i64 0,.int .i64 0,.int .i64 0,.int .i64 0,.int .i64 0,.int .i64 0,.int .i64 0,.int .i64 0,.int .i64 0,.int .i64 0,.int .i64 0,.int .i64 0,.int .i64 0,.int .i64 0,.int .i64 0,.int .i64 0,.int .i64 0,.int .i64 0,.int .i64 0,.int .i64 0,.int .i64 0,.int .i64 0,.int .i64 0,.int .i64 0,.int .i64 0,.int .i64 0,.int .i64 0,.int .i64 0,.int .i64 0,.int .i64 0,.int .i64 0,.int .i64 0,.int .i64 0,.int .i64 0,.int .i64 0,.int .i64 0,.int .i64 0,.int .i64 0,.int .i64 0,.int .i64 0,.int .i64 0,.int .i64 0,.int .i64 0,.int .i64 0,.int .i64 0,.int .i64 0,.int .i64 0,.int .i64 0,.int .i64 0,.int .i64 0,.int .i64 0] 33)).setRow v4.heap.size (rowV (f o)).toArray).heap[v4.heap.size]? = some (.cells (rowV (f o)).toArray 33 (0,0)):=setRow_heap _ _ _ _ _ _ (heap_at v4 (.cells #[.int .i64 0,.int .i64 0,.int .i64 0,.int .i64 0,.int .i64 0,.int .i64 0,.int .i64 0,.int .i64 0,.int .i64 0,.int .i64 0,.int .i64 0,.int .i64 0,.int .i64 0,.int .i64 0,.int .i64 0,.int .i64 0,.int .i64 0,.int .i64 0,.int .i64 0,.int .i64 0,.int .i64 0,.int .i64 0,.int .i64 0,.int .i64 0,.int .i64 0,.int .i64 0,.int .i64 0,.int .i64 0,.int .i64 0,.int .i64 0,.int .i64 0,.int .i64 0,.int .i64 0,.int .i64 0,.int .i64 0,.int .i64 0,.int .i64 0,.int .i64 0,.int .i64 0,.int .i64 0,.int .i64 0,.int .i64 0,.int .i64 0,.int .i64 0,.int .i64 0,.int .i64 0,.int .i64 0,.int .i64 0,.int .i64 0,.int .i64 0,.int .i64 0,.int .i64 0,.int .i64 0,.int .i64 0,.int .i64 0,.int .i64 0,.int .i64 0,.int .i64 0,.int .i64 0,.int .i64 0,.int .i64 0,.int .i64 0,.int .i64 0,.int .i64 0] 33) rfl)
 generalize (v4.alloc (.cells #[.int .i64 0,.int .i64 0,.int .i64 0,.int .i64 0,.int .i64 0,.int .i64 0,.int .i64 0,.int .i64 0,.int .i64 0,.int .i64 0,.int .i64 0,.int .i64 0,.int .i64 0,.int .i64 0,.int .i64 0,.int .i64 0,.int .i64 0,.int .i64 0,.int .i64 0,.int .i64 0,.int .i64 0,.int .i64 0,.int .i64 0,.int .i64 0,.int .i64 0,.int .i64 0,.int .i64 0,.int .i64 0,.int .i64 0,.int .i64 0,.int .i64 0,.int .i64 0,.int .i64 0,.int .i64 0,.int .i64 0,.int .i64 0,.int .i64 0,.int .i64 0,.int .i64 0,.int .i64 0,.int .i64 0,.int .i64 0,.int .i64 0,.int .i64 0,.int .i64 0,.int .i64 0,.int .i64 0,.int .i64 0,.int .i64 0,.int .i64 0,.int .i64 0,.int .i64 0,.int .i64 0,.int .i64 0,.int .i64 0,.int .i64 0,.int .i64 0,.int .i64 0,.int .i64 0,.int .i64 0,.int .i64 0,.int .i64 0,.int .i64 0,.int .i64 0] 33)).setRow v4.heap.size (rowV (f o)).toArray = W0 at *
 have HX0:=Lib.hid hx0
 have HR0:=Lib.hid hr0
 have HBD:=Lib.hid (fun (j:Nat) (hj:j < 64)=>And.intro (HH.out.hd.f_bd hh3 hj) (HH.out.hd.f_bd ho3 hj))
 have hopb:=hx0.keep HOB4.out
 have HOPB:=Lib.hid hopb
 have hW0s:=hx0.size
 have hr0l:=lt_of hr0
 clear hx0 hr0 o0 d0 d1 d2 d3 d4 d5 hopb
 go_loopw [11] (fun u11 wr=>∃ i:Nat,i ≤ 64 ∧ u11 = .int .i64 (i:Nat) ∧ TWAt wr p a C (mixFn (fun x y=>x + y) f h o i) ∧ AgAt wr N a m l' 3 ∧ Tabs wr ∧ wr.heap[v4.heap.size]? = some (.cells (rowV (f o)).toArray 33 (0,0)) ∧ wr.heap[w.heap.size]? = some (.cells #[.int .i64 3,.int .i64 ho,.int .i64 oo,.int .u64 key,.int .i64 d] 102 (0,0)) ∧ Below N v4 wr) (fun u11 _=>64 - (intOf u11).toNat)
 case atStart =>
  refine ⟨0,by omega,rfl, ?_,HF1.out.1.ext HX0.out,HF1.out.2.2.2.2.1.ext HX0.out,HR0.out,HOPB.out,Below.mono HX0.out (by have:=HH.out.lp; omega)⟩
  rw [mixFn_zero]
  exact HF1.out.2.2.2.1.keep (HX0.out.block _ hp4)
 case round =>
  obtain ⟨i,hi,rfl,htw,hag,htb,hrow,hopb,hBw⟩:=hrel
  have o0:=(cell_of hopb 0).trans rfl
  have ol:=lt_of hopb
  have HTW:=Lib.hid htw
  have HAG:=Lib.hid hag
  have HTB:=Lib.hid htb
  have HROW:=Lib.hid hrow
  have HOPW:=Lib.hid hopb
  have HBW:=Lib.hid hBw
  have hpr:=htw.lt
  by_cases hlt:i < 64
  · have e1:=htw.cell hh3 hlt
    rw [mixFn_here] at e1
    have e2:=(cell_of hrow i).trans (show (rowV (f o)).toArray[i]? = some (.int .i64 (f o i)) from by rw [List.getElem?_toArray]; exact rowV_get hlt)
    have rl:=lt_of hrow
    have fz:=htw.frz (6 + h * 64 + i)
    have hbd:=HBD.out i hlt
    obtain ⟨y,hyy⟩:∃ y,f h i = y:=⟨_,rfl⟩
    obtain ⟨x,hxx⟩:∃ x,f o i = x:=⟨_,rfl⟩
    rw [hyy] at e1 hbd
    rw [hxx] at e2 hbd
    have hwr:wrap64 (y + x) = y + x:=by unfold wrap64; omega
    have hv5:-1125899906842624 ≤ y + x ∧ y + x ≤ 1125899906842624:=by omega
    have hput:=PlAt.put htw hag HF1.out.2.2.1 htb HH.out.lo HH.out.lp hh3 hlt hv5
    rw [← hyy,← hxx,mixFn_step (fun x y=>x + y) f h o i,hyy,hxx] at hput
    have HPUT:=Lib.hid hput
    clear hyy hxx htw hag htb hrow hopb hBw hput
    go_wp2_with fail
    have hC0:=af_drew wr
    refine pi_start (fun w'=>∃ x:After wr,w' = x.w) [19] (by kernel_rfl) ?_
    refine pi_t 0 rfl (by kernel_rfl) (by kernel_rfl) (fun _ _ _ _ h=>h) (fun K hK=>?_)
    go_big_quiet_op
    refine hK _ ?_
    clear hK K
    refine pi_t 1 rfl (by kernel_rfl) (by kernel_rfl) (fun _ _ _ _ h=>h) (fun K hK=>?_)
    go_big_quiet_op
    refine hK _ ?_
    clear hK K
    refine pi_t 2 rfl (by kernel_rfl) (by kernel_rfl) (fun _ _ _ _ h=>h) (fun K hK=>?_)
    go_big_quiet_op
    refine hK _ ?_
    clear hK K
    refine pi_t 3 rfl (by kernel_rfl) (by kernel_rfl) (fun _ _ _ _ h=>h) (fun K hK=>?_)
    go_big_quiet_op
    refine hK _ ?_
    clear hK K
    refine pi_t 4 rfl (by kernel_rfl) (by kernel_rfl) (fun _ _ _ _ h=>h) (fun K hK=>?_)
    go_big_quiet_op
    refine hK _ ?_
    clear hK K
    refine pi_t 5 rfl (by kernel_rfl) (by kernel_rfl) (fun _ _ _ _ h=>h) (fun K hK=>?_)
    go_big_quiet_op
    refine hK _ ?_
    clear hK K
    refine pi_t 6 rfl (by kernel_rfl) (by kernel_rfl) (fun _ _ _ _ h=>h) (fun K hK=>?_)
    go_big_quiet_op
    refine hK _ ?_
    clear hK K
    refine pi_t 7 rfl (by kernel_rfl) (by kernel_rfl) (fun _ _ _ _ h=>h) (fun K hK=>?_)
    go_big_quiet_op
    refine hK _ ?_
    clear hK K
    refine pi_t 8 rfl (by kernel_rfl) (by kernel_rfl) (fun _ _ _ _ h=>h) (fun K hK=>?_)
    go_big_quiet_op
    refine hK _ ?_
    clear hK K
    refine pi_t 9 rfl (by kernel_rfl) (by kernel_rfl) (fun _ _ _ _ h=>h) (fun K hK=>?_)
    go_big_quiet_op
    refine hK _ ?_
    clear hK K
    refine pi_t 11 rfl (by kernel_rfl) (by kernel_rfl) (fun _ _ _ _ h=>h) (fun K hK=>?_)
    go_big_quiet_op
    refine hK _ ?_
    clear hK K
    refine pi_t 12 rfl (by kernel_rfl) (by kernel_rfl) (fun _ _ _ _ h=>h) (fun K hK=>?_)
    go_big_quiet_op
    refine hK _ ?_
    clear hK K
    refine pi_t 15 rfl (by kernel_rfl) (by kernel_rfl) (fun _ _ _ _ h=>h) (fun K hK=>?_)
    go_big_quiet_op
    refine hK _ ?_
    clear hK K
    refine pi_t 16 rfl (by kernel_rfl) (by kernel_rfl) (fun _ _ _ _ h=>h) (fun K hK=>?_)
    go_big_quiet_op
    refine hK _ ?_
    clear hK K
    refine pi_t 17 rfl (by kernel_rfl) (by kernel_rfl) (fun _ _ _ _ h=>h) (fun K hK=>?_)
    go_big_quiet_op
    refine hK _ ?_
    clear hK K
    refine pi_c 10 (by assumption) rfl (by kernel_rfl) (by kernel_rfl) (fun _ _ _ _ h=>h) (fun K hK=>?_)
    go_big_quiet_op
    refine hK _ ?_
    clear hK K
    refine pi_c 13 (by assumption) rfl (by kernel_rfl) (by kernel_rfl) (fun _ _ _ _ h=>h) (fun K hK=>?_)
    go_big_quiet_op
    refine hK _ ?_
    clear hK K
    refine pi_t 14 rfl (by kernel_rfl) (by kernel_rfl) (fun _ _ _ _ h=>h) (fun K hK=>?_)
    go_big_quiet_op
    refine hK _ ?_
    clear hK K
    refine pi_t 18 rfl (by kernel_rfl) (by kernel_rfl) (fun _ _ _ _ h=>h) (fun K hK=>?_)
    go_big_quiet_op
    refine hK _ ?_
    clear hK K
    refine pi_l 19 rfl (by kernel_rfl) (fun K hK=>?_)
    go_wp2
    refine hK _ _ (by simp) ?_
    clear hK K
    refine pi_end (by kernel_rfl) ?_
    obtain ⟨q1,q2,q3,q4⟩:=HPUT.out
    have n1:v4.heap.size ≠ p:=by omega
    have n2:w.heap.size ≠ p:=by omega
    have r1:=(setCell_other (w:=wr) (6 + h * 64 + i) (.int .i64 (y + x)) n1).trans HROW.out
    have r2:=(setCell_other (w:=wr) (6 + h * 64 + i) (.int .i64 (y + x)) n2).trans HOPW.out
    obtain ⟨W5,hW5⟩:∃ W5,wr.setCell ⟨p,6 + h * 64 + i,none⟩ (.int .i64 (y + x)) = W5:=⟨_,rfl⟩
    rw [hW5] at q1 q2 q3 q4 r1 r2
    have HF:Hid (TWAt W5.drew p a C (mixFn (fun x y=>x + y) f h o (i + 1)) ∧ AgAt W5.drew N a m l' 3 ∧ Tabs W5.drew ∧ W5.drew.heap[v4.heap.size]? = some (.cells (rowV (f o)).toArray 33 (0,0)) ∧ W5.drew.heap[w.heap.size]? = some (.cells #[.int .i64 3,.int .i64 ho,.int .i64 oo,.int .u64 key,.int .i64 d] 102 (0,0)) ∧ Below N v4 W5.drew):=Lib.hid ⟨q1.keep rfl,q2.ext (Ext.refl _).drewR,q3.ext (Ext.refl _).drewR,r1,r2,Below.drew (Below.trans HBW.out q4)⟩
    clear q1 q2 q3 q4 r1 r2 e1 e2 fz hC0
    go_wp2
    go_roundw
    case rel=>exact ⟨i + 1,by omega,by go_num,HF.out.1,HF.out.2.1,HF.out.2.2.1,HF.out.2.2.2.1,HF.out.2.2.2.2.1,HF.out.2.2.2.2.2⟩
    case measure=>simp [intOf]; omega
  · obtain rfl:i = 64:=by omega
    have HF:Hid (PlAt wr N p a m l' C (T + T) (setG g h fun n=>plusL (g h n) (g o n)) (plusFn f h o) ∧ Below N w wr):=Lib.hid ⟨⟨htw.congr (mixFn_plus f h o),hag,HF1.out.2.1,HF1.out.2.2.1,HH.out.ok,HH.out.hb,HADD.out.1,htb,HH.out.lo,HH.out.lp⟩,Below.trans HF1.out.2.2.2.2.2 hBw⟩
    clear htw hag htb hrow hopb hBw
    go_wp2
    go_ret
    exact ⟨rfl,_,_,_,HF.out.1,HF.out.2⟩
end Go.Proofs.YtmalncfcgcebhaaGreatDoor
namespace Go.Proofs.YtmalncfcgcebhaaGreatDoor
set_option linter.unusedVariables false
open Go.Proofs Go.RowKit
set_option maxRecDepth 20000 in
set_option maxHeartbeats 8000000 in
theorem TDoesSub_c {w:World} {N p a m:Nat} {l:List (Nat × Th)} {C:Cfg} {T:Int} {g:Nat → Nat → List Int} {f:Nat → Nat → Int} (H:PlAt w N p a m l C T g f) (hm:C.mode ≠ 2) (hT1:1048576 ≤ T) (hT2:T ≤ 35184372088832) (ho oo key d:Int) (h1:I64 ho) (h2:I64 oo) (h3:U64 key) (h4:I64 d) :
 Calls Tryz.prog 48 #[.pointer (some ⟨p,0,none⟩),.agg #[.int .i64 4,.int .i64 ho,.int .i64 oo,.int .u64 key,.int .i64 d]] w (DoesPost w N p a m C T):=by
 have HH:=Lib.hid H
 have hmb:(C.mode == 2) = false:=by simpa using hm
 have hpl:=H.tw.lt
 obtain ⟨c0,c1,c2,c3,c4,c5⟩:=H.tw.c0
 obtain ⟨h,hh,hh3⟩:=hand3 ho
 obtain ⟨o,ho',ho3⟩:=hand3 oo
 have HH1:=fun W=>Lib.hid (THandle_c ho h1 W)
 have HO1:=fun W=>Lib.hid (THandle_c oo h2 W)
 rw [← hh] at HH1
 rw [← ho'] at HO1
 have hadd:=H.hd.minus H.ok hm hh3 ho3 (by omega)
 have HADD:=Lib.hid hadd
 have HL:=fun W (hx:Ext w W)=>Lib.hid ((H.ext hx).line (top_sub hh3 ho3 hadd.2))
 have HT1:=fun W=>Lib.hid (TText_c ((h + 1:Nat):Int) (hI hh3) W)
 have HT2:=fun W=>Lib.hid (TText_c ((o + 1:Nat):Int) (hI ho3) W)
 have z1:=tb_size (hI hh3)
 have z2:=tb_size (hI ho3)
 have hcat:=cat_two vSub ((h + 1:Nat):Int) ((o + 1:Nat):Int)
 obtain ⟨t1,e1⟩:∃ t,(⟨(Lib.itoa ((h + 1:Nat):Int)).toArray⟩:ByteArray) = t:=⟨_,rfl⟩
 obtain ⟨t2,e2⟩:∃ t,(⟨(Lib.itoa ((o + 1:Nat):Int)).toArray⟩:ByteArray) = t:=⟨_,rfl⟩
 obtain ⟨sb,e4⟩:∃ t,lineB vSub [((h + 1:Nat):Int),((o + 1:Nat):Int)] = t:=⟨_,rfl⟩
 have hv:(⟨(vSub ++ [32]).toArray⟩:ByteArray) = ⟨#[115,117,98,116,114,97,99,116,32]⟩:=rfl
 rw [e1,e2,e4,hv] at hcat
 rw [e1] at z1
 rw [e2] at z2
 unfold strV at HT1 HT2 HL
 rw [e1] at HT1
 rw [e2] at HT2
 rw [e4,done_ba] at HL
 have HHC:=Lib.hid (show (h:Int) + 1 = ((h + 1:Nat):Int) by omega)
 have HOC:=Lib.hid (show (o:Int) + 1 = ((o + 1:Nat):Int) by omega)
 clear hh ho' e1 e2 e4 hv hadd H
 obtain ⟨W1,hW1⟩:∃ W1,w.alloc (.cells #[.int .i64 4,.int .i64 ho,.int .i64 oo,.int .u64 key,.int .i64 d] 102) = W1:=⟨_,rfl⟩
 have hb1:=heap_at w (.cells #[.int .i64 4,.int .i64 ho,.int .i64 oo,.int .u64 key,.int .i64 d] 102) rfl
 have hx1:=Ext.alloc' w (.cells #[.int .i64 4,.int .i64 ho,.int .i64 oo,.int .u64 key,.int .i64 d] 102)
 rw [hW1] at hb1 hx1
 have o0:=(cell_of hb1 0).trans rfl
 have o1:=(cell_of hb1 1).trans rfl
 have o2:=(cell_of hb1 2).trans rfl
 have o3:=(cell_of hb1 3).trans rfl
 have o4:=(cell_of hb1 4).trans rfl
 have ol:=lt_of hb1
 have c0:=(hx1.cell hpl).trans c0
 have c1:=(hx1.cell hpl).trans c1
 have c2:=(hx1.cell hpl).trans c2
 have c3:=(hx1.cell hpl).trans c3
 have c4:=(hx1.cell hpl).trans c4
 have c5:=(hx1.cell hpl).trans c5
 have hpl1:=Nat.lt_of_lt_of_le hpl hx1.size
 have HX1:=Lib.hid hx1
 have hNs:∀ k,AgF a m l k → k < w.heap.size:=fun k hk=>HH.out.ag.flt hk
 obtain ⟨S,hS⟩:∃ S,AgF a m l = S:=⟨_,rfl⟩
 have nS1:¬ S w.heap.size:=by
  rw [← hS]
  intro h
  have:=hNs _ h
  omega
 have nS2:¬ S p:=by rw [← hS]; exact HH.out.np
 have HSS:=Lib.hid hS
 have HOB:=Lib.hid hb1
 clear hS hNs hb1 hx1
 go_enter Tryz.func48,Tryz.ntmps48
 go_wp2_with fail
 clear hW1
 refine Calls.mono (HH1 _).out ?_
 rintro e v1 ⟨rfl,rfl⟩
 go_wp2_with fail
 refine Calls.mono (HO1 _).out ?_
 rintro e v3 ⟨rfl,rfl⟩
 go_wp2_with fail
 have hC0:=afs_drew S v3
 refine pi_start (fun w'=>∃ x:AftS S v3,w' = x.w) [] (by kernel_rfl) ?_
 refine pi_t 0 rfl (by kernel_rfl) (by kernel_rfl) (fun _ _ _ _ h=>h) (fun K hK=>?_)
 go_big_quiet_op
 refine hK _ ?_
 clear hK K
 refine pi_t 1 rfl (by kernel_rfl) (by kernel_rfl) (fun _ _ _ _ h=>h) (fun K hK=>?_)
 go_big_quiet_op
 refine hK _ ?_
 clear hK K
 refine pi_t 2 rfl (by kernel_rfl) (by kernel_rfl) (fun _ _ _ _ h=>h) (fun K hK=>?_)
 go_big_quiet_op
 refine hK _ ?_
 clear hK K
 refine pi_t 4 rfl (by kernel_rfl) (by kernel_rfl) (fun _ _ _ _ h=>h) (fun K hK=>?_)
 go_big_quiet_op
 refine hK _ ?_
 clear hK K
 refine pi_t 5 rfl (by kernel_rfl) (by kernel_rfl) (fun _ _ _ _ h=>h) (fun K hK=>?_)
 go_big_quiet_op
 refine hK _ ?_
 clear hK K
 refine pi_t 6 rfl (by kernel_rfl) (by kernel_rfl) (fun _ _ _ _ h=>h) (fun K hK=>?_)
 go_big_quiet_op
 refine hK _ ?_
 clear hK K
 refine pi_t 10 rfl (by kernel_rfl) (by kernel_rfl) (fun _ _ _ _ h=>h) (fun K hK=>?_)
 go_big_quiet_op
 refine hK _ ?_
 clear hK K
 refine pi_t 11 rfl (by kernel_rfl) (by kernel_rfl) (fun _ _ _ _ h=>h) (fun K hK=>?_)
 go_big_quiet_op
 refine hK _ ?_
 clear hK K
 refine pi_c 3 (by assumption) rfl (by kernel_rfl) (by kernel_rfl) (fun _ _ _ _ h=>h) (fun K hK=>?_)
 go_big_quiet_op
 refine hK _ ?_
 clear hK K
 refine pi_l 7 rfl (by kernel_rfl) (fun K hK=>?_)
 go_wp2_with (go_at_call 16; rw [HHC.out]; refine (HT1 _).out.mono ?_; rintro e y1 ⟨rfl,hy1⟩)
 refine hK _ _ (fun _ h=>afs_step h hy1) ?_
 clear hK K
 refine pi_t 8 rfl (by kernel_rfl) (by kernel_rfl) (fun _ _ _ _ h=>h) (fun K hK=>?_)
 go_big_quiet_op
 refine hK _ ?_
 clear hK K
 refine pi_t 9 rfl (by kernel_rfl) (by kernel_rfl) (fun _ _ _ _ h=>h) (fun K hK=>?_)
 go_big_quiet_op
 refine hK _ ?_
 clear hK K
 refine pi_l 12 rfl (by kernel_rfl) (fun K hK=>?_)
 go_wp2_with (go_at_call 16; rw [HOC.out]; refine (HT2 _).out.mono ?_; rintro e y2 ⟨rfl,hy2⟩)
 refine hK _ _ (fun _ h=>afs_step h hy2) ?_
 clear hK K
 have hy:Ext v3 y2:=(((Ext.refl v3).drewR.trans' hy1).trans' hy2)
 have HY:=Lib.hid hy
 clear hy1 hy2 hy
 refine pi_t 13 rfl (by kernel_rfl) (by kernel_rfl) (fun _ _ _ _ h=>h) (fun K hK=>?_)
 go_big_quiet_op
 refine hK _ ?_
 clear hK K
 refine pi_l 14 rfl (by kernel_rfl) (fun K hK=>?_)
 go_wp2_with (go_at_call 15; refine (HL y2 (HX1.out.trans' HY.out)).out.mono ?_; rintro e v4 ⟨rfl,l',hA',hst',hnp',htw',htb',hM,hfr⟩)
 have hM3:Mod S v3 v4:=by rw [← HSS.out]; exact (HY.out.mod _).trans hM
 refine hK _ _ (fun _ _=>⟨⟨_,hM3⟩,rfl⟩) ?_
 clear hK K
 refine pi_t 15 rfl (by kernel_rfl) (by kernel_rfl) (fun _ _ _ _ h=>h) (fun K hK=>?_)
 go_big_quiet_op
 refine hK _ ?_
 clear hK K
 refine pi_t 16 rfl (by kernel_rfl) (by kernel_rfl) (fun _ _ _ _ h=>h) (fun K hK=>?_)
 go_big_quiet_op
 refine hK _ ?_
 clear hK K
 refine pi_t 17 rfl (by kernel_rfl) (by kernel_rfl) (fun _ _ _ _ h=>h) (fun K hK=>?_)
 go_big_quiet_op
 refine hK _ ?_
 clear hK K
 refine pi_t 18 rfl (by kernel_rfl) (by kernel_rfl) (fun _ _ _ _ h=>h) (fun K hK=>?_)
 go_big_quiet_op
 refine hK _ ?_
 clear hK K
 refine pi_t 19 rfl (by kernel_rfl) (by kernel_rfl) (fun _ _ _ _ h=>h) (fun K hK=>?_)
 go_big_quiet_op
 refine hK _ ?_
 clear hK K
 refine pi_end (by kernel_rfl) ?_
 have hB4:Below N w v4:=Below.trans (HH.out.below_ext (HX1.out.trans' HY.out)) ((HH.out.ag.ext (HX1.out.trans' HY.out)).below hM)
 have hp4:=htw'.lt
 have HRO:=Lib.hid (htw'.row ho3)
 have HF1:=Lib.hid (And.intro hA' (And.intro hst' (And.intro hnp' (And.intro htw' (And.intro htb' hB4)))))
 obtain ⟨d0,d1,d2,d3,d4,d5⟩:=htw'.c0
 have ob:v4.heap[w.heap.size]? = some (.cells #[.int .i64 4,.int .i64 ho,.int .i64 oo,.int .u64 key,.int .i64 d] 102 (0,0)):=(hM3.block _ ol nS1).trans HOB.out
 have o0:=(cell_of ob 0).trans rfl
 have ol4:=lt_of ob
 have HOB4:=Lib.hid ob
 have hv4s:w.heap.size + 1 ≤ v4.heap.size:=by omega
 clear hM hA' hst' hnp' htw' htb' hB4 hfr hC0 c0 c1 c2 c3 c4 c5 o1 o2 o3 o4 hM3 ob
 go_wp2_with (first | (refine wpList_load_mid (ty:=33) rfl _ rfl p (6 + o * 64) rfl (rowV (f o)) _ HRO.out Tryz.underlying33 rfl (by kernel_rfl) ?_) | (refine wpList_store_rowTo (ty:=33) rfl _ _ rfl rfl v4.heap.size (rowV (f o)).toArray rfl rfl 33 _ (heap_at v4 _ rfl) (by kernel_rfl) (by kernel_rfl) (by kernel_rfl) ?_))
 have hx0:Ext v4 ((v4.alloc (.cells #[.int .i64 0,.int .i64 0,.int .i64 0,.int .i64 0,.int .i64 0,.int .i64 0,.int .i64 0,.int .i64 0,.int .i64 0,.int .i64 0,.int .i64 0,.int .i64 0,.int .i64 0,.int .i64 0,.int .i64 0,.int .i64 0,.int .i64 0,.int .i64 0,.int .i64 0,.int .i64 0,.int .i64 0,.int .i64 0,.int .i64 0,.int .i64 0,.int .i64 0,.int .i64 0,.int .i64 0,.int .i64 0,.int .i64 0,.int .i64 0,.int .i64 0,.int .i64 0,.int .i64 0,.int .i64 0,.int .i64 0,.int .i64 0,.int .i64 0,.int .i64 0,.int .i64 0,.int .i64 0,.int .i64 0,.int .i64 0,.int .i64 0,.int .i64 0,.int .i64 0,.int .i64 0,.int .i64 0,.int .i64 0,.int .i64 0,.int .i64 0,.int .i64 0,.int .i64 0,.int .i64 0,.int .i64 0,.int .i64 0,.int .i64 0,.int .i64 0,.int .i64 0,.int .i64 0,.int .i64 0,.int .i64 0,.int .i64 0,.int .i64 0,.int .i64 0] 33)).setRow v4.heap.size (rowV (f o)).toArray):=below_setRow (Ext.alloc' v4 _) (Nat.le_refl _) _
 have hr0:((v4.alloc (.cells #[.int .i64 0,.int .i64 0,.int .i64 0,.int .i64 0,.int .i64 0,.int .i64 0,.int .i64 0,.int .i64 0,.int .i64 0,.int .i64 0,.int .i64 0,.int .i64 0,.int .i64 0,.int .i64 0,.int .i64 0,.int .i64 0,.int .i64 0,.int .i64 0,.int .i64 0,.int .i64 0,.int .i64 0,.int .i64 0,.int .i64 0,.int .i64 0,.int .i64 0,.int .i64 0,.int .i64 0,.int .i64 0,.int .i64 0,.int .i64 0,.int .i64 0,.int .i64 0,.int .i64 0,.int .i64 0,.int .i64 0,.int .i64 0,.int .i64 0,.int .i64 0,.int .i64 0,.int .i64 0,.int .i64 0,.int .i64 0,.int .i64 0,.int .i64 0,.int .i64 0,.int .i64 0,.int .i64 0,.int .i64 0,.int .i64 0,.int .i64 0,.int .i64 0,.int .i64 0,.int .i64 0,.int .i64 0,.int .i64 0,.int .i64 0,.int .i64 0,.int .i64 0,.int .i64 0,.int .i64 0,.int .i64 0,.int .i64 0,.int .i64 0,.int .i64 0] 33)).setRow v4.heap.size (rowV (f o)).toArray).heap[v4.heap.size]? = some (.cells (rowV (f o)).toArray 33 (0,0)):=setRow_heap _ _ _ _ _ _ (heap_at v4 (.cells #[.int .i64 0,.int .i64 0,.int .i64 0,.int .i64 0,.int .i64 0,.int .i64 0,.int .i64 0,.int .i64 0,.int .i64 0,.int .i64 0,.int .i64 0,.int .i64 0,.int .i64 0,.int .i64 0,.int .i64 0,.int .i64 0,.int .i64 0,.int .i64 0,.int .i64 0,.int .i64 0,.int .i64 0,.int .i64 0,.int .i64 0,.int .i64 0,.int .i64 0,.int .i64 0,.int .i64 0,.int .i64 0,.int .i64 0,.int .i64 0,.int .i64 0,.int .i64 0,.int .i64 0,.int .i64 0,.int .i64 0,.int .i64 0,.int .i64 0,.int .i64 0,.int .i64 0,.int .i64 0,.int .i64 0,.int .i64 0,.int .i64 0,.int .i64 0,.int .i64 0,.int .i64 0,.int .i64 0,.int .i64 0,.int .i64 0,.int .i64 0,.int .i64 0,.int .i64 0,.int .i64 0,.int .i64 0,.int .i64 0,.int .i64 0,.int .i64 0,.int .i64 0,.int .i64 0,.int .i64 0,.int .i64 0,.int .i64 0,.int .i64 0,.int .i64 0] 33) rfl)
 generalize (v4.alloc (.cells #[.int .i64 0,.int .i64 0,.int .i64 0,.int .i64 0,.int .i64 0,.int .i64 0,.int .i64 0,.int .i64 0,.int .i64 0,.int .i64 0,.int .i64 0,.int .i64 0,.int .i64 0,.int .i64 0,.int .i64 0,.int .i64 0,.int .i64 0,.int .i64 0,.int .i64 0,.int .i64 0,.int .i64 0,.int .i64 0,.int .i64 0,.int .i64 0,.int .i64 0,.int .i64 0,.int .i64 0,.int .i64 0,.int .i64 0,.int .i64 0,.int .i64 0,.int .i64 0,.int .i64 0,.int .i64 0,.int .i64 0,.int .i64 0,.int .i64 0,.int .i64 0,.int .i64 0,.int .i64 0,.int .i64 0,.int .i64 0,.int .i64 0,.int .i64 0,.int .i64 0,.int .i64 0,.int .i64 0,.int .i64 0,.int .i64 0,.int .i64 0,.int .i64 0,.int .i64 0,.int .i64 0,.int .i64 0,.int .i64 0,.int .i64 0,.int .i64 0,.int .i64 0,.int .i64 0,.int .i64 0,.int .i64 0,.int .i64 0,.int .i64 0,.int .i64 0] 33)).setRow v4.heap.size (rowV (f o)).toArray = W0 at *
 have HX0:=Lib.hid hx0
 have HR0:=Lib.hid hr0
 have HBD:=Lib.hid (fun (j:Nat) (hj:j < 64)=>And.intro (HH.out.hd.f_bd hh3 hj) (HH.out.hd.f_bd ho3 hj))
 have hopb:=hx0.keep HOB4.out
 have HOPB:=Lib.hid hopb
 have hW0s:=hx0.size
 have hr0l:=lt_of hr0
 clear hx0 hr0 o0 d0 d1 d2 d3 d4 d5 hopb
 go_loopw [11] (fun u11 wr=>∃ i:Nat,i ≤ 64 ∧ u11 = .int .i64 (i:Nat) ∧ TWAt wr p a C (mixFn (fun x y=>x - y) f h o i) ∧ AgAt wr N a m l' 3 ∧ Tabs wr ∧ wr.heap[v4.heap.size]? = some (.cells (rowV (f o)).toArray 33 (0,0)) ∧ wr.heap[w.heap.size]? = some (.cells #[.int .i64 4,.int .i64 ho,.int .i64 oo,.int .u64 key,.int .i64 d] 102 (0,0)) ∧ Below N v4 wr) (fun u11 _=>64 - (intOf u11).toNat)
 case atStart =>
  refine ⟨0,by omega,rfl, ?_,HF1.out.1.ext HX0.out,HF1.out.2.2.2.2.1.ext HX0.out,HR0.out,HOPB.out,Below.mono HX0.out (by have:=HH.out.lp; omega)⟩
  rw [mixFn_zero]
  exact HF1.out.2.2.2.1.keep (HX0.out.block _ hp4)
 case round =>
  obtain ⟨i,hi,rfl,htw,hag,htb,hrow,hopb,hBw⟩:=hrel
  have o0:=(cell_of hopb 0).trans rfl
  have ol:=lt_of hopb
  have HTW:=Lib.hid htw
  have HAG:=Lib.hid hag
  have HTB:=Lib.hid htb
  have HROW:=Lib.hid hrow
  have HOPW:=Lib.hid hopb
  have HBW:=Lib.hid hBw
  have hpr:=htw.lt
  by_cases hlt:i < 64
  · have e1:=htw.cell hh3 hlt
    rw [mixFn_here] at e1
    have e2:=(cell_of hrow i).trans (show (rowV (f o)).toArray[i]? = some (.int .i64 (f o i)) from by rw [List.getElem?_toArray]; exact rowV_get hlt)
    have rl:=lt_of hrow
    have fz:=htw.frz (6 + h * 64 + i)
    have hbd:=HBD.out i hlt
    obtain ⟨y,hyy⟩:∃ y,f h i = y:=⟨_,rfl⟩
    obtain ⟨x,hxx⟩:∃ x,f o i = x:=⟨_,rfl⟩
    rw [hyy] at e1 hbd
    rw [hxx] at e2 hbd
    have hwr:wrap64 (y - x) = y - x:=by unfold wrap64; omega
    have hv5:-1125899906842624 ≤ y - x ∧ y - x ≤ 1125899906842624:=by omega
    have hput:=PlAt.put htw hag HF1.out.2.2.1 htb HH.out.lo HH.out.lp hh3 hlt hv5
    rw [← hyy,← hxx,mixFn_step (fun x y=>x - y) f h o i,hyy,hxx] at hput
    have HPUT:=Lib.hid hput
    clear hyy hxx htw hag htb hrow hopb hBw hput
    go_wp2_with fail
    have hC0:=af_drew wr
    refine pi_start (fun w'=>∃ x:After wr,w' = x.w) [19] (by kernel_rfl) ?_
    refine pi_t 0 rfl (by kernel_rfl) (by kernel_rfl) (fun _ _ _ _ h=>h) (fun K hK=>?_)
    go_big_quiet_op
    refine hK _ ?_
    clear hK K
    refine pi_t 1 rfl (by kernel_rfl) (by kernel_rfl) (fun _ _ _ _ h=>h) (fun K hK=>?_)
    go_big_quiet_op
    refine hK _ ?_
    clear hK K
    refine pi_t 2 rfl (by kernel_rfl) (by kernel_rfl) (fun _ _ _ _ h=>h) (fun K hK=>?_)
    go_big_quiet_op
    refine hK _ ?_
    clear hK K
    refine pi_t 3 rfl (by kernel_rfl) (by kernel_rfl) (fun _ _ _ _ h=>h) (fun K hK=>?_)
    go_big_quiet_op
    refine hK _ ?_
    clear hK K
    refine pi_t 4 rfl (by kernel_rfl) (by kernel_rfl) (fun _ _ _ _ h=>h) (fun K hK=>?_)
    go_big_quiet_op
    refine hK _ ?_
    clear hK K
    refine pi_t 5 rfl (by kernel_rfl) (by kernel_rfl) (fun _ _ _ _ h=>h) (fun K hK=>?_)
    go_big_quiet_op
    refine hK _ ?_
    clear hK K
    refine pi_t 6 rfl (by kernel_rfl) (by kernel_rfl) (fun _ _ _ _ h=>h) (fun K hK=>?_)
    go_big_quiet_op
    refine hK _ ?_
    clear hK K
    refine pi_t 7 rfl (by kernel_rfl) (by kernel_rfl) (fun _ _ _ _ h=>h) (fun K hK=>?_)
    go_big_quiet_op
    refine hK _ ?_
    clear hK K
    refine pi_t 8 rfl (by kernel_rfl) (by kernel_rfl) (fun _ _ _ _ h=>h) (fun K hK=>?_)
    go_big_quiet_op
    refine hK _ ?_
    clear hK K
    refine pi_t 9 rfl (by kernel_rfl) (by kernel_rfl) (fun _ _ _ _ h=>h) (fun K hK=>?_)
    go_big_quiet_op
    refine hK _ ?_
    clear hK K
    refine pi_t 11 rfl (by kernel_rfl) (by kernel_rfl) (fun _ _ _ _ h=>h) (fun K hK=>?_)
    go_big_quiet_op
    refine hK _ ?_
    clear hK K
    refine pi_t 12 rfl (by kernel_rfl) (by kernel_rfl) (fun _ _ _ _ h=>h) (fun K hK=>?_)
    go_big_quiet_op
    refine hK _ ?_
    clear hK K
    refine pi_t 15 rfl (by kernel_rfl) (by kernel_rfl) (fun _ _ _ _ h=>h) (fun K hK=>?_)
    go_big_quiet_op
    refine hK _ ?_
    clear hK K
    refine pi_t 16 rfl (by kernel_rfl) (by kernel_rfl) (fun _ _ _ _ h=>h) (fun K hK=>?_)
    go_big_quiet_op
    refine hK _ ?_
    clear hK K
    refine pi_t 17 rfl (by kernel_rfl) (by kernel_rfl) (fun _ _ _ _ h=>h) (fun K hK=>?_)
    go_big_quiet_op
    refine hK _ ?_
    clear hK K
    refine pi_c 10 (by assumption) rfl (by kernel_rfl) (by kernel_rfl) (fun _ _ _ _ h=>h) (fun K hK=>?_)
    go_big_quiet_op
    refine hK _ ?_
    clear hK K
    refine pi_c 13 (by assumption) rfl (by kernel_rfl) (by kernel_rfl) (fun _ _ _ _ h=>h) (fun K hK=>?_)
    go_big_quiet_op
    refine hK _ ?_
    clear hK K
    refine pi_t 14 rfl (by kernel_rfl) (by kernel_rfl) (fun _ _ _ _ h=>h) (fun K hK=>?_)
    go_big_quiet_op
    refine hK _ ?_
    clear hK K
    refine pi_t 18 rfl (by kernel_rfl) (by kernel_rfl) (fun _ _ _ _ h=>h) (fun K hK=>?_)
    go_big_quiet_op
    refine hK _ ?_
    clear hK K
    refine pi_l 19 rfl (by kernel_rfl) (fun K hK=>?_)
    go_wp2
    refine hK _ _ (by simp) ?_
    clear hK K
    refine pi_end (by kernel_rfl) ?_
    obtain ⟨q1,q2,q3,q4⟩:=HPUT.out
    have n1:v4.heap.size ≠ p:=by omega
    have n2:w.heap.size ≠ p:=by omega
    have r1:=(setCell_other (w:=wr) (6 + h * 64 + i) (.int .i64 (y - x)) n1).trans HROW.out
    have r2:=(setCell_other (w:=wr) (6 + h * 64 + i) (.int .i64 (y - x)) n2).trans HOPW.out
    obtain ⟨W5,hW5⟩:∃ W5,wr.setCell ⟨p,6 + h * 64 + i,none⟩ (.int .i64 (y - x)) = W5:=⟨_,rfl⟩
    rw [hW5] at q1 q2 q3 q4 r1 r2
    have HF:Hid (TWAt W5.drew p a C (mixFn (fun x y=>x - y) f h o (i + 1)) ∧ AgAt W5.drew N a m l' 3 ∧ Tabs W5.drew ∧ W5.drew.heap[v4.heap.size]? = some (.cells (rowV (f o)).toArray 33 (0,0)) ∧ W5.drew.heap[w.heap.size]? = some (.cells #[.int .i64 4,.int .i64 ho,.int .i64 oo,.int .u64 key,.int .i64 d] 102 (0,0)) ∧ Below N v4 W5.drew):=Lib.hid ⟨q1.keep rfl,q2.ext (Ext.refl _).drewR,q3.ext (Ext.refl _).drewR,r1,r2,Below.drew (Below.trans HBW.out q4)⟩
    clear q1 q2 q3 q4 r1 r2 e1 e2 fz hC0
    go_wp2
    go_roundw
    case rel=>exact ⟨i + 1,by omega,by go_num,HF.out.1,HF.out.2.1,HF.out.2.2.1,HF.out.2.2.2.1,HF.out.2.2.2.2.1,HF.out.2.2.2.2.2⟩
    case measure=>simp [intOf]; omega
  · obtain rfl:i = 64:=by omega
    have HF:Hid (PlAt wr N p a m l' C (T + T) (setG g h fun n=>minusL (g h n) (g o n)) (minusFn f h o) ∧ Below N w wr):=Lib.hid ⟨⟨htw.congr (mixFn_minus f h o),hag,HF1.out.2.1,HF1.out.2.2.1,HH.out.ok,HH.out.hb,HADD.out.1,htb,HH.out.lo,HH.out.lp⟩,Below.trans HF1.out.2.2.2.2.2 hBw⟩
    clear htw hag htb hrow hopb hBw
    go_wp2
    go_ret
    exact ⟨rfl,_,_,_,HF.out.1,HF.out.2⟩
end Go.Proofs.YtmalncfcgcebhaaGreatDoor
namespace Go.Proofs.YtmalncfcgcebhaaGreatDoor
set_option linter.unusedVariables false
open Go.Proofs Go.RowKit
theorem err3_ba:(⟨(errT 3).toArray⟩:ByteArray) = ⟨#[101,114,114,111,114,32,51]⟩:=by kernel_rfl
set_option maxRecDepth 20000 in
set_option maxHeartbeats 8000000 in
theorem TDoesSubNo_c {w:World} {N p a m:Nat} {l:List (Nat × Th)} {C:Cfg} {T:Int} {g:Nat → Nat → List Int} {f:Nat → Nat → Int} (H:PlAt w N p a m l C T g f) (hm:C.mode = 2) (hT1:1048576 ≤ T) (hT2:T ≤ 35184372088832) (ho oo key d:Int) (h1:I64 ho) (h2:I64 oo) (h3:U64 key) (h4:I64 d) :
 Calls Tryz.prog 48 #[.pointer (some ⟨p,0,none⟩),.agg #[.int .i64 4,.int .i64 ho,.int .i64 oo,.int .u64 key,.int .i64 d]] w (DoesPost w N p a m C T):=by
 have HH:=Lib.hid H
 have hmb:(C.mode == 2) = true:=by simpa using hm
 have hpl:=H.tw.lt
 obtain ⟨c0,c1,c2,c3,c4,c5⟩:=H.tw.c0
 obtain ⟨h,hh,hh3⟩:=hand3 ho
 obtain ⟨o,ho',ho3⟩:=hand3 oo
 have HH1:=fun W=>Lib.hid (THandle_c ho h1 W)
 have HO1:=fun W=>Lib.hid (THandle_c oo h2 W)
 rw [← hh] at HH1
 rw [← ho'] at HO1
 have HL:=fun W (hx:Ext w W)=>Lib.hid ((H.ext hx).line (top_subno hh3 ho3 (sub_mode hm)))
 have HT1:=fun W=>Lib.hid (TText_c ((h + 1:Nat):Int) (hI hh3) W)
 have HT2:=fun W=>Lib.hid (TText_c ((o + 1:Nat):Int) (hI ho3) W)
 have z1:=tb_size (hI hh3)
 have z2:=tb_size (hI ho3)
 have hcat:=cat_two vSub ((h + 1:Nat):Int) ((o + 1:Nat):Int)
 obtain ⟨t1,e1⟩:∃ t,(⟨(Lib.itoa ((h + 1:Nat):Int)).toArray⟩:ByteArray) = t:=⟨_,rfl⟩
 obtain ⟨t2,e2⟩:∃ t,(⟨(Lib.itoa ((o + 1:Nat):Int)).toArray⟩:ByteArray) = t:=⟨_,rfl⟩
 obtain ⟨sb,e4⟩:∃ t,lineB vSub [((h + 1:Nat):Int),((o + 1:Nat):Int)] = t:=⟨_,rfl⟩
 have hv:(⟨(vSub ++ [32]).toArray⟩:ByteArray) = ⟨#[115,117,98,116,114,97,99,116,32]⟩:=rfl
 rw [e1,e2,e4,hv] at hcat
 rw [e1] at z1
 rw [e2] at z2
 unfold strV at HT1 HT2 HL
 rw [e1] at HT1
 rw [e2] at HT2
 rw [e4,err3_ba] at HL
 have HHC:=Lib.hid (show (h:Int) + 1 = ((h + 1:Nat):Int) by omega)
 have HOC:=Lib.hid (show (o:Int) + 1 = ((o + 1:Nat):Int) by omega)
 clear hh ho' e1 e2 e4 hv H
 obtain ⟨W1,hW1⟩:∃ W1,w.alloc (.cells #[.int .i64 4,.int .i64 ho,.int .i64 oo,.int .u64 key,.int .i64 d] 102) = W1:=⟨_,rfl⟩
 have hb1:=heap_at w (.cells #[.int .i64 4,.int .i64 ho,.int .i64 oo,.int .u64 key,.int .i64 d] 102) rfl
 have hx1:=Ext.alloc' w (.cells #[.int .i64 4,.int .i64 ho,.int .i64 oo,.int .u64 key,.int .i64 d] 102)
 rw [hW1] at hb1 hx1
 have o0:=(cell_of hb1 0).trans rfl
 have o1:=(cell_of hb1 1).trans rfl
 have o2:=(cell_of hb1 2).trans rfl
 have o3:=(cell_of hb1 3).trans rfl
 have o4:=(cell_of hb1 4).trans rfl
 have ol:=lt_of hb1
 have c0:=(hx1.cell hpl).trans c0
 have c1:=(hx1.cell hpl).trans c1
 have c2:=(hx1.cell hpl).trans c2
 have c3:=(hx1.cell hpl).trans c3
 have c4:=(hx1.cell hpl).trans c4
 have c5:=(hx1.cell hpl).trans c5
 have hpl1:=Nat.lt_of_lt_of_le hpl hx1.size
 have HX1:=Lib.hid hx1
 have hNs:∀ k,AgF a m l k → k < w.heap.size:=fun k hk=>HH.out.ag.flt hk
 obtain ⟨S,hS⟩:∃ S,AgF a m l = S:=⟨_,rfl⟩
 have nS1:¬ S w.heap.size:=by
  rw [← hS]
  intro h
  have:=hNs _ h
  omega
 have nS2:¬ S p:=by rw [← hS]; exact HH.out.np
 have HSS:=Lib.hid hS
 have HOB:=Lib.hid hb1
 clear hS hNs hb1 hx1
 go_enter Tryz.func48,Tryz.ntmps48
 go_wp2_with fail
 clear hW1
 refine Calls.mono (HH1 _).out ?_
 rintro e v1 ⟨rfl,rfl⟩
 go_wp2_with fail
 refine Calls.mono (HO1 _).out ?_
 rintro e v3 ⟨rfl,rfl⟩
 go_wp2_with fail
 have hC0:=afs_drew S v3
 refine pi_start (fun w'=>∃ x:AftS S v3,w' = x.w) [] (by kernel_rfl) ?_
 refine pi_t 0 rfl (by kernel_rfl) (by kernel_rfl) (fun _ _ _ _ h=>h) (fun K hK=>?_)
 go_big_quiet_op
 refine hK _ ?_
 clear hK K
 refine pi_t 1 rfl (by kernel_rfl) (by kernel_rfl) (fun _ _ _ _ h=>h) (fun K hK=>?_)
 go_big_quiet_op
 refine hK _ ?_
 clear hK K
 refine pi_t 2 rfl (by kernel_rfl) (by kernel_rfl) (fun _ _ _ _ h=>h) (fun K hK=>?_)
 go_big_quiet_op
 refine hK _ ?_
 clear hK K
 refine pi_t 4 rfl (by kernel_rfl) (by kernel_rfl) (fun _ _ _ _ h=>h) (fun K hK=>?_)
 go_big_quiet_op
 refine hK _ ?_
 clear hK K
 refine pi_t 5 rfl (by kernel_rfl) (by kernel_rfl) (fun _ _ _ _ h=>h) (fun K hK=>?_)
 go_big_quiet_op
 refine hK _ ?_
 clear hK K
 refine pi_t 6 rfl (by kernel_rfl) (by kernel_rfl) (fun _ _ _ _ h=>h) (fun K hK=>?_)
 go_big_quiet_op
 refine hK _ ?_
 clear hK K
 refine pi_t 10 rfl (by kernel_rfl) (by kernel_rfl) (fun _ _ _ _ h=>h) (fun K hK=>?_)
 go_big_quiet_op
 refine hK _ ?_
 clear hK K
 refine pi_t 11 rfl (by kernel_rfl) (by kernel_rfl) (fun _ _ _ _ h=>h) (fun K hK=>?_)
 go_big_quiet_op
 refine hK _ ?_
 clear hK K
 refine pi_c 3 (by assumption) rfl (by kernel_rfl) (by kernel_rfl) (fun _ _ _ _ h=>h) (fun K hK=>?_)
 go_big_quiet_op
 refine hK _ ?_
 clear hK K
 refine pi_l 7 rfl (by kernel_rfl) (fun K hK=>?_)
 go_wp2_with (go_at_call 16; rw [HHC.out]; refine (HT1 _).out.mono ?_; rintro e y1 ⟨rfl,hy1⟩)
 refine hK _ _ (fun _ h=>afs_step h hy1) ?_
 clear hK K
 refine pi_t 8 rfl (by kernel_rfl) (by kernel_rfl) (fun _ _ _ _ h=>h) (fun K hK=>?_)
 go_big_quiet_op
 refine hK _ ?_
 clear hK K
 refine pi_t 9 rfl (by kernel_rfl) (by kernel_rfl) (fun _ _ _ _ h=>h) (fun K hK=>?_)
 go_big_quiet_op
 refine hK _ ?_
 clear hK K
 refine pi_l 12 rfl (by kernel_rfl) (fun K hK=>?_)
 go_wp2_with (go_at_call 16; rw [HOC.out]; refine (HT2 _).out.mono ?_; rintro e y2 ⟨rfl,hy2⟩)
 refine hK _ _ (fun _ h=>afs_step h hy2) ?_
 clear hK K
 have hy:Ext v3 y2:=(((Ext.refl v3).drewR.trans' hy1).trans' hy2)
 have HY:=Lib.hid hy
 clear hy1 hy2 hy
 refine pi_t 13 rfl (by kernel_rfl) (by kernel_rfl) (fun _ _ _ _ h=>h) (fun K hK=>?_)
 go_big_quiet_op
 refine hK _ ?_
 clear hK K
 refine pi_l 14 rfl (by kernel_rfl) (fun K hK=>?_)
 go_wp2_with (go_at_call 15; refine (HL y2 (HX1.out.trans' HY.out)).out.mono ?_; rintro e v4 ⟨rfl,l',hA',hst',hnp',htw',htb',hM,hfr⟩)
 have hM3:Mod S v3 v4:=by rw [← HSS.out]; exact (HY.out.mod _).trans hM
 refine hK _ _ (fun _ _=>⟨⟨_,hM3⟩,rfl⟩) ?_
 clear hK K
 refine pi_t 15 rfl (by kernel_rfl) (by kernel_rfl) (fun _ _ _ _ h=>h) (fun K hK=>?_)
 go_big_quiet_op
 refine hK _ ?_
 clear hK K
 refine pi_t 16 rfl (by kernel_rfl) (by kernel_rfl) (fun _ _ _ _ h=>h) (fun K hK=>?_)
 go_big_quiet_op
 refine hK _ ?_
 clear hK K
 refine pi_t 17 rfl (by kernel_rfl) (by kernel_rfl) (fun _ _ _ _ h=>h) (fun K hK=>?_)
 go_big_quiet_op
 refine hK _ ?_
 clear hK K
 refine pi_t 18 rfl (by kernel_rfl) (by kernel_rfl) (fun _ _ _ _ h=>h) (fun K hK=>?_)
 go_big_quiet_op
 refine hK _ ?_
 clear hK K
 refine pi_t 19 rfl (by kernel_rfl) (by kernel_rfl) (fun _ _ _ _ h=>h) (fun K hK=>?_)
 go_big_quiet_op
 refine hK _ ?_
 clear hK K
 refine pi_end (by kernel_rfl) ?_
 have hB4:Below N w v4:=Below.trans (HH.out.below_ext (HX1.out.trans' HY.out)) ((HH.out.ag.ext (HX1.out.trans' HY.out)).below hM)
 have HF:Hid (PlAt v4 N p a m l' C (T + T) g f ∧ Below N w v4):=Lib.hid ⟨⟨htw',hA',hst',hnp',HH.out.ok,HH.out.hb,HH.out.hd.mono (by omega),htb',HH.out.lo,HH.out.lp⟩,hB4⟩
 obtain ⟨d0,d1,d2,d3,d4,d5⟩:=htw'.c0
 have hp4:=htw'.lt
 have ob:v4.heap[w.heap.size]? = some (.cells #[.int .i64 4,.int .i64 ho,.int .i64 oo,.int .u64 key,.int .i64 d] 102 (0,0)):=(hM3.block _ ol nS1).trans HOB.out
 have o0:=(cell_of ob 0).trans rfl
 have ol4:=lt_of ob
 clear hM hA' hst' hnp' htw' htb' hB4 hfr hC0 c0 c1 c2 c3 c4 c5 o1 o2 o3 o4 hM3 ob
 go_wp2
 go_ret
 exact ⟨rfl,_,_,_,HF.out.1,HF.out.2⟩
theorem TDoes_c {w:World} {N p a m:Nat} {l:List (Nat × Th)} {C:Cfg} {T:Int} {g:Nat → Nat → List Int} {f:Nat → Nat → Int} (H:PlAt w N p a m l C T g f) (hT1:1048576 ≤ T) (hT2:T ≤ 35184372088832) (kd ho oo key d:Int) (h0:I64 kd) (h1:I64 ho) (h2:I64 oo) (h3:U64 key) (h4:I64 d) :
 Calls Tryz.prog 48 #[.pointer (some ⟨p,0,none⟩),.agg #[.int .i64 kd,.int .i64 ho,.int .i64 oo,.int .u64 key,.int .i64 d]] w (DoesPost w N p a m C T):=by
 by_cases k3:kd = 3
 · subst k3
   exact TDoesMerge_c H hT1 hT2 ho oo key d h1 h2 h3 h4
 · by_cases k4:kd = 4
   · subst k4
     by_cases hm:C.mode = 2
     · exact TDoesSubNo_c H hm hT1 hT2 ho oo key d h1 h2 h3 h4
     · exact TDoesSub_c H hm hT1 hT2 ho oo key d h1 h2 h3 h4
   · exact TDoesAdd_c H hT1 hT2 kd ho oo key d h1 h2 h3 h4 k3 k4
end Go.Proofs.YtmalncfcgcebhaaGreatDoor
namespace Go.Proofs.YtmalncfcgcebhaaGreatDoor
set_option linter.unusedVariables false
open Go.RowKit
abbrev Opn5:=Int × Int × Int × Int × Int
def Ops5At (w:World) (v:Value) (os:List Opn5):Prop :=
 ((∃ p,v = .slice p 0 0) ∧ os = []) ∨ ∃ g off cap,v = .slice (some ⟨g,off,none⟩) os.length cap ∧ g < w.heap.size ∧
  ∀ k,k < os.length → w.cell? ⟨g,off + k * 5,none⟩ = some (.int .i64 (os.getD k (0,0,0,0,0)).1) ∧ w.cell? ⟨g,off + k * 5 + 1,none⟩ = some (.int .i64 (os.getD k (0,0,0,0,0)).2.1) ∧ w.cell? ⟨g,off + k * 5 + 2,none⟩ = some (.int .i64 (os.getD k (0,0,0,0,0)).2.2.1) ∧ w.cell? ⟨g,off + k * 5 + 3,none⟩ = some (.int .u64 (os.getD k (0,0,0,0,0)).2.2.2.1) ∧ w.cell? ⟨g,off + k * 5 + 4,none⟩ = some (.int .i64 (os.getD k (0,0,0,0,0)).2.2.2.2)
def Ops5Ok (os:List Opn5):Prop:=∀ u ∈ os,I64 u.1 ∧ I64 u.2.1 ∧ I64 u.2.2.1 ∧ U64 u.2.2.2.1 ∧ I64 u.2.2.2.2
theorem Ops5At.ext {w w':World} {v:Value} {os:List Opn5} (h:Ops5At w v os) (he:Ext w w'):Ops5At w' v os:=by
 rcases h with h | ⟨g,off,cap,h1,h2,h3⟩
 · exact .inl h
 · exact .inr ⟨g,off,cap,h1,Nat.lt_of_lt_of_le h2 he.size,fun k hk=>⟨((bcell he).1 _ _ h2).trans (h3 k hk).1,((bcell he).1 _ _ h2).trans (h3 k hk).2.1,((bcell he).1 _ _ h2).trans (h3 k hk).2.2.1,((bcell he).1 _ _ h2).trans (h3 k hk).2.2.2.1,((bcell he).1 _ _ h2).trans (h3 k hk).2.2.2.2⟩⟩
theorem Ops5At.sl {w:World} {v:Value} {os:List Opn5} (h:Ops5At w v os):∃ p c,v = .slice p os.length c:=by
 rcases h with ⟨⟨p,rfl⟩,rfl⟩ | ⟨g,off,cap,rfl,_⟩
 · exact ⟨p,0,rfl⟩
 · exact ⟨_,cap,rfl⟩
theorem Ops5At.one {w:World} {p:Option Addr} {n c:Nat} {os:List Opn5} (h:Ops5At w (.slice p n c) os) {k:Nat} (hk:k < os.length) :
 ∃ g off,p = some ⟨g,off,none⟩ ∧ g < w.heap.size ∧ w.cell? ⟨g,off + k * 5,none⟩ = some (.int .i64 os[k].1) ∧ w.cell? ⟨g,off + k * 5 + 1,none⟩ = some (.int .i64 os[k].2.1) ∧ w.cell? ⟨g,off + k * 5 + 2,none⟩ = some (.int .i64 os[k].2.2.1) ∧ w.cell? ⟨g,off + k * 5 + 3,none⟩ = some (.int .u64 os[k].2.2.2.1) ∧ w.cell? ⟨g,off + k * 5 + 4,none⟩ = some (.int .i64 os[k].2.2.2.2):=by
 rcases h with ⟨_,rfl⟩ | ⟨g,off,cap,h1,h2,h3⟩
 · exact absurd hk (Nat.not_lt_zero _)
 · have e:=Value.slice.inj h1
   have hg:os.getD k (0,0,0,0,0) = os[k]:=by simp [hk]
   have:=h3 k hk
   rw [hg] at this
   exact ⟨g,off,e.1,h2,this⟩
end Go.Proofs.YtmalncfcgcebhaaGreatDoor
namespace Go.Proofs.YtmalncfcgcebhaaGreatDoor
set_option linter.unusedVariables false
open Go.Proofs Go.RowKit
theorem pow_T (i:Nat) (h:i ≤ 25):(1048576:Int) ≤ 1048576 * 2 ^ i ∧ (1048576:Int) * 2 ^ i ≤ 35184372088832:=by
 have h1:(2:Int) ^ i ≤ 2 ^ 25:=by
  have:=Nat.pow_le_pow_right (show 0 < 2 by decide) h
  exact_mod_cast this
 have h2:(1:Int) ≤ 2 ^ i:=by
  have:=Nat.one_le_two_pow (n:=i)
  exact_mod_cast this
 rw [show (2:Int) ^ 25 = 33554432 from rfl] at h1
 omega
set_option maxRecDepth 20000 in
set_option maxHeartbeats 8000000 in
theorem TPlayed_c (x:Cfg) (hx:x.Raw) (mode:Int) (hm1:1 ≤ mode) (hm3:mode ≤ 3) (os:List Opn5) (hos:Ops5Ok os) (v:Value) (w:World) (hat:Ops5At w v os) (hul:os.length ≤ 140737488355328) (hT:Tabs w) :
 Calls Tryz.prog 13 #[.agg #[.int .i64 x.bits,.int .i64 x.rows,.int .i64 x.width,.int .i64 x.mode,.int .u64 x.seed],.int .i64 mode,v] w fun e w'=>∃ N p a m l g f,e = .returned (.pointer (some ⟨p,0,none⟩)) ∧ PlAt w' N p a m l (topC x mode) 35184372088832 g f ∧ w.heap.size ≤ N ∧ Ext w w':=by
 obtain ⟨vp,vc,rfl⟩:=hat.sl
 have HV:=Lib.hid hat
 have HM:=fun W hT'=>Lib.hid (TMade_c x hx mode hm1 hm3 W hT')
 have HT:=Lib.hid hT
 have HOS:=Lib.hid hos
 clear hat hT
 go_enter Tryz.func13,Tryz.ntmps13
 go_wp2_with fail
 refine Calls.mono (HM _ (HT.out.ext (by (repeat' (first | exact Ext.refl _ | assumption | apply Ext.allocR | apply Ext.drewR | apply Ext.drewNR | (refine Ext.trans' ?_ (by assumption))))))).out ?_
 rintro e w1 ⟨N,p,a,m,l,rfl,hP,hN,hx1⟩
 have hE1:Ext w w1:=by (repeat' (first | exact Ext.refl _ | assumption | apply Ext.allocR | apply Ext.drewR | apply Ext.drewNR | (refine Ext.trans' ?_ (by assumption))))
 have hNw:w.heap.size ≤ N:=by rw [size_alloc] at hN; omega
 have HP:=Lib.hid hP
 have HE1:=Lib.hid hE1
 clear hP hx1 hE1 hN
 go_wp2_with fail
 go_loopw [8] (fun u8 wr=>∃ (i:Nat) (l':List (Nat × Th)) (g:Nat → Nat → List Int) (f:Nat → Nat → Int),i ≤ 25 ∧ i ≤ os.length ∧ u8 = .int .i64 i ∧ PlAt wr N p a m l' (topC x mode) (1048576 * 2 ^ i) g f ∧ Ext w wr) (fun u8 _=>25 - (intOf u8).toNat)
 case atStart=>exact ⟨0,l,_,_,by omega,by omega,rfl,by simpa using HP.out,HE1.out⟩
 case round =>
  obtain ⟨i,l',g,f,hi25,hil,rfl,hP,hE⟩:=hrel
  by_cases hlt:i < os.length ∧ i < 25
  · obtain ⟨hlt1,hlt2⟩:=hlt
    obtain ⟨q,off,rfl,hql,o0,o1,o2,o3,o4⟩:=HV.out.one hlt1
    have hu:=HOS.out os[i] (List.getElem_mem hlt1)
    have k0:=(hE.cell hql).trans o0
    have k1:=(hE.cell hql).trans o1
    have k2:=(hE.cell hql).trans o2
    have k3:=(hE.cell hql).trans o3
    have k4:=(hE.cell hql).trans o4
    generalize os[i] = u at *
    obtain ⟨kd,ho,oo,key,d⟩:=u
    dsimp only at *
    obtain ⟨u0,u1,u2,u3,u4⟩:=hu
    have hpw:=pow_T i hi25
    have HD:=Lib.hid (TDoes_c hP hpw.1 hpw.2 kd ho oo key d u0 u1 u2 u3 u4)
    have hdb:(1048576:Int) * 2 ^ i + 1048576 * 2 ^ i = 1048576 * 2 ^ (i + 1):=by rw [Int.pow_succ]; omega
    unfold DoesPost at HD
    rw [hdb] at HD
    have HE:=Lib.hid hE
    have hsz:=hE.size
    have hqr:q < wr.heap.size:=by omega
    clear hE o0 o1 o2 o3 o4 hP hdb hpw
    go_wp2_with fail
    refine Calls.mono HD.out ?_
    rintro e w2 ⟨rfl,l2,g2,f2,hP2,hB2⟩
    have HP2:=Lib.hid hP2
    have HB2:=Lib.hid (Below.trans HE.out (Below.mono hB2 hNw))
    clear hP2 hB2
    go_wp2
    go_roundw
    case rel=>exact ⟨i + 1,l2,g2,f2,by omega,by omega,by go_num,HP2.out,HB2.out⟩
    case measure=>simp [intOf]; omega
  · have hT2:=(pow_T i hi25).2
    have HF:=Lib.hid (show PlAt wr N p a m l' (topC x mode) 35184372088832 g f from ⟨hP.tw,hP.ag,hP.st,hP.np,hP.ok,hP.hb,hP.hd.mono hT2,hP.tb,hP.lo,hP.lp⟩)
    have HE:=Lib.hid hE
    clear hP hE hT2
    by_cases hl2:i < os.length
    · have:i = 25:=by omega
      go_wp2
      go_ret
      exact ⟨N,p,a,m,l',g,f,rfl,HF.out,hNw,HE.out⟩
    · go_wp2
      go_ret
      exact ⟨N,p,a,m,l',g,f,rfl,HF.out,hNw,HE.out⟩
end Go.Proofs.YtmalncfcgcebhaaGreatDoor
namespace Go.Proofs.YtmalncfcgcebhaaGreatDoor
set_option linter.unusedVariables false
open Go.Proofs Go.RowKit
def listW:Rep:=.list [(2,0,7),(1,1,5),(0,3,5)]
def FW (S:St) (l:List UInt8):Option (List UInt8) × St :=
 if l = w3 then (some (repT (.number 2)),S) else if l = w4 then (some (repT (.key 3)),S) else if l = w5 then (some (repT listW),S) else if l = w6 then (some (repT (.wide 29)),S) else lineF doA S l
def worksT:ByteArray:=⟨(w0 ++ 10 :: (w1 ++ 10 :: (w2 ++ 10 :: (w3 ++ 10 :: (w4 ++ 10 :: (w5 ++ 10 :: w6)))))).toArray⟩
def LW:List (List UInt8):=[w0,w1,w2,w3,w4,w5,w6]
theorem split_W:splitL worksT.data.toList = LW:=by kernel_rfl
theorem st_W3:(runK FW st0 (LW.take 3)).2 = SW:=by kernel_rfl
theorem st_W4:(runK FW st0 (LW.take 4)).2 = SW:=by kernel_rfl
theorem st_W5:(runK FW st0 (LW.take 5)).2 = SW:=by kernel_rfl
theorem st_W6:(runK FW st0 (LW.take 6)).2 = SW:=by kernel_rfl
theorem st_W0:(runK FW st0 (LW.take 0)).2 = st0:=by kernel_rfl
theorem st_W1:(runK FW st0 (LW.take 1)).2 = (runK (lineF doA) st0 [w0]).2:=by kernel_rfl
theorem st_W2:(runK FW st0 (LW.take 2)).2 = (runK (lineF doA) st0 [w0,w1]).2:=by kernel_rfl
def worksR:List (List UInt8):=[[104,97,110,100,108,101,32,49],[100,111,110,101],[100,111,110,101],[110,117,109,98,101,114,32,50],[107,101,121,32,51],[108,105,115,116,32,50,58,48,58,55,32,49,58,49,58,53,32,48,58,51,58,53],[119,105,100,101,32,50,57]]
theorem works_run:(runK FW st0 LW).1 = worksR:=by kernel_rfl
theorem FW_last (S:St) (l:List UInt8):(FW S l).2.last ≤ S.last + 1:=by
 unfold FW
 repeat' split
 all_goals first | exact Nat.le_succ _ | exact lineF_last doA_last S l
theorem allR (L:List (List UInt8)):AllSt (runK (lineF doA) st0 L).2:=run_P (fun S l hS=>lineF_P (fun S c h=>doA_st S h c) S l hS) all0 L
theorem lastR (L:List (List UInt8)) (h:L.length ≤ 1000):(runK (lineF doA) st0 L).2.last < 1000000:=by
 have h1:=run_last (lineF_last doA_last) st0 L
 have h3:st0.last = 0:=rfl
 omega
theorem okW0:okL w0 = true:=by kernel_rfl
theorem okW1:okL w1 = true:=by kernel_rfl
theorem okW2:okL w2 = true:=by kernel_rfl
theorem ba_of {s:ByteArray} {l:List UInt8} (h:l = s.data.toList):s = ⟨l.toArray⟩:=by
 subst h; cases s; simp
theorem FW_is (k:Nat) (s:ByteArray) (h:LW[k]? = some s.data.toList):LineIs (runK FW st0 (LW.take k)).2 s (FW (runK FW st0 (LW.take k)).2 s.data.toList):=by
 match k,h with
 | 0,h =>
   have e:w0 = s.data.toList:=Option.some.inj h
   rw [st_W0,← e,show FW st0 w0 = lineF doA st0 w0 from by kernel_rfl,e]
   exact okL_is all0 (by decide) (by rw [← e]; exact okW0)
 | 1,h =>
   have e:w1 = s.data.toList:=Option.some.inj h
   rw [st_W1,← e,show FW (runK (lineF doA) st0 [w0]).2 w1 = lineF doA (runK (lineF doA) st0 [w0]).2 w1 from by kernel_rfl,e]
   exact okL_is (allR _) (lastR _ (by decide)) (by rw [← e]; exact okW1)
 | 2,h =>
   have e:w2 = s.data.toList:=Option.some.inj h
   rw [st_W2,← e,show FW (runK (lineF doA) st0 [w0,w1]).2 w2 = lineF doA (runK (lineF doA) st0 [w0,w1]).2 w2 from by kernel_rfl,e]
   exact okL_is (allR _) (lastR _ (by decide)) (by rw [← e]; exact okW2)
 | 3,h =>
   have e:w3 = s.data.toList:=Option.some.inj h
   rw [st_W3,← e,ba_of e]
   exact line3
 | 4,h =>
   have e:w4 = s.data.toList:=Option.some.inj h
   rw [st_W4,← e,ba_of e]
   exact line4
 | 5,h =>
   have e:w5 = s.data.toList:=Option.some.inj h
   rw [st_W5,← e,ba_of e]
   exact line5
 | 6,h =>
   have e:w6 = s.data.toList:=Option.some.inj h
   rw [st_W6,← e,ba_of e]
   exact line6
 | k + 7,h=>cases h
theorem WorksRun_c (w:World) (hT:Tabs w) :
 Calls Tryz.prog 41 #[.string worksT] w fun e w'=>∃ v,e = .returned v ∧ w'.ownsRow w.heap.size 9 1 v 7 (strVs worksR) ∧ Ext w w':=by
 have h:=Run_c FW worksT (by decide) (fun k s hs=>by
  rw [split_W] at hs ⊢
  exact FW_is k s hs) (fun k=>by
  have h1:=run_last FW_last st0 ((splitL worksT.data.toList).take k)
  rw [split_W,List.length_take] at h1
  have h3:st0.last = 0:=rfl
  have h4:LW.length = 7:=rfl
  rw [split_W]
  omega) w hT
 rw [split_W,works_run] at h
 exact h
set_option maxRecDepth 100000 in
set_option maxHeartbeats 8000000 in
theorem works_c (w:World) (hT:Tabs w):Calls Tryz.prog 12 #[] w fun e w'=>e = .returned (.bool true) ∧ Ext w w':=by
 have HR:=Lib.hid (WorksRun_c w hT)
 rw [show worksT = ⟨#[99,114,101,97,116,101,32,50,32,49,32,52,32,49,32,48,10,97,100,100,32,49,32,51,32,53,10,97,100,100,32,49,32,49,32,50,10,114,97,110,103,101,32,49,32,49,32,50,10,113,117,97,110,116,105,108,101,32,49,32,51,10,104,101,97,118,121,32,49,32,53,32,57,10,105,110,110,101,114,32,49,32,49]⟩ from rfl] at HR
 clear hT
 go_enter Tryz.func12,Tryz.ntmps12
 go_wp2_with fail
 refine Calls.mono HR.out ?_
 rintro e w1 ⟨v,rfl,hv,hx1⟩
 obtain ⟨g,cap,rfl⟩:=own_some hv (by decide)
 obtain ⟨hgl,hg⟩:=own_any hv
 have c3:=hg 3 (by decide) _ rfl
 have c4:=hg 4 (by decide) _ rfl
 have c5:=hg 5 (by decide) _ rfl
 have c6:=hg 6 (by decide) _ rfl
 unfold strV at c3 c4 c5 c6
 have HX1:=Lib.hid hx1
 clear hx1 hg hv
 go_wp2
 refine bodyPost_ret (results_tmp rfl _ _ _) rfl ?_
 exact ⟨rfl,HX1.out⟩
end Go.Proofs.YtmalncfcgcebhaaGreatDoor
namespace Go.Proofs.YtmalncfcgcebhaaGreatDoor
set_option linter.unusedVariables false
open Go.RowKit
theorem topKeys {C:Cfg} (hb:C.bits = 6) {n:Nat} (hn:n ≤ 6):keys C n = ((2 ^ (6 - n):Nat):Int):=by
 unfold keys
 rw [hb,show ((6:Int) - (n:Int)).toNat = 6 - n by omega,Int.natCast_pow]
 rfl
end Go.Proofs.YtmalncfcgcebhaaGreatDoor
