/- Part. No condition. -/
import Derived.Test.YtmalncfcgcebhaaGreatDoorDTopQuantile15
import Derived.Test.YtmalncfcgcebhaaGreatDoorDTopQuantile3
import Derived.Test.YtmalncfcgcebhaaGreatDoorDTopQuantile4
import Derived.ProofKit
import Derived.OpenShut
import Derived.ChangeOld
import Derived.Below
import Derived.SizedLaws
import Derived.Deep.Slices
import Derived.Deep.Fields
import Derived.Test.YtmalncfcgcebhaaGreatDoorRows
import Derived.Lib.LaidU8
import Derived.Stop.LaidErr
import Derived.Lay
import Derived.ChangeSame
import Derived.ChangeVars
import Derived.MakeChecks
namespace Go.Proofs.YtmalncfcgcebhaaGreatDoor
set_option linter.unusedVariables false
open Go.Proofs Go.RowKit
theorem and_one {x:Int} (h:I64 x):bits BinOp.and IntKind.i64 x 1 = x % 2:=by
 show IntKind.i64.wrap ((BitVec.ofInt 64 x &&& BitVec.ofInt 64 1).toNat:Int) = _
 rw [BitVec.toNat_and,show (BitVec.ofInt 64 1).toNat = 2 ^ 1 - 1 from rfl,Nat.and_two_pow_sub_one_eq_mod,BitVec.toNat_ofInt,IntKind.wrap_i64]
 omega
theorem and_62 {x:Int} (h:I64 x):bits BinOp.and IntKind.i64 x 4611686018427387903 = x % 4611686018427387904:=by
 show IntKind.i64.wrap ((BitVec.ofInt 64 x &&& BitVec.ofInt 64 4611686018427387903).toNat:Int) = _
 rw [BitVec.toNat_and,show (BitVec.ofInt 64 4611686018427387903).toNat = 2 ^ 62 - 1 from rfl,Nat.and_two_pow_sub_one_eq_mod,BitVec.toNat_ofInt,IntKind.wrap_i64]
 omega
theorem err6_ba:(⟨(errT 6).toArray⟩:ByteArray) = ⟨#[101,114,114,111,114,32,54]⟩:=by kernel_rfl
theorem itoa0:Lib.itoa 0 = [48]:=by kernel_rfl
theorem cat_quan0 (a:Int):(⟨#[113,117,97,110,116,105,108,101,32]⟩ ++ ⟨(Lib.itoa a).toArray⟩ ++ ⟨#[32,48]⟩:ByteArray) = lineB vQuan [a,0]:=by
 rw [show (⟨#[113,117,97,110,116,105,108,101,32]⟩:ByteArray) = ⟨([113,117,97,110,116,105,108,101,32]:List UInt8).toArray⟩ from rfl,show (⟨#[32,48]⟩:ByteArray) = ⟨([32,48]:List UInt8).toArray⟩ from rfl,cat_str,cat_str]
 unfold lineB lineW
 simp [joinW,itoa0]
theorem cat_quan (a b:Int):(⟨#[113,117,97,110,116,105,108,101,32]⟩ ++ ⟨(Lib.itoa a).toArray⟩ ++ ⟨#[32]⟩ ++ ⟨(Lib.itoa b).toArray⟩:ByteArray) = lineB vQuan [a,b]:=cat_two vQuan a b
theorem err6_v:strV (errT 6) = .string ⟨#[101,114,114,111,114,32,54]⟩:=congrArg Value.string err6_ba
theorem itoa_nat (K:Nat):Lib.itoa (K:Int) = Lib.decDigits K:=by
 unfold Lib.itoa
 rw [if_neg (by omega),Int.toNat_natCast]
theorem pow6' {t:Nat} (h:t ≤ 6):1 ≤ 2 ^ (6 - t) ∧ 2 ^ (6 - t) ≤ 64:=by
 match t,h with
 | 0,_=>decide
 | 1,_=>decide
 | 2,_=>decide
 | 3,_=>decide
 | 4,_=>decide
 | 5,_=>decide
 | 6,_=>decide
def modeC (x:Cfg):Int:=if x.mode % 2 = 1 then 2 else 1
theorem modeC_bd (x:Cfg):1 ≤ modeC x ∧ modeC x ≤ 3 ∧ modeC x ≠ 3:=by unfold modeC; split <;> omega
theorem PlAt.mass_bd {w:World} {N p a m:Nat} {l:List (Nat × Th)} {C:Cfg} {g:Nat → Nat → List Int} {f:Nat → Nat → Int} (H:PlAt w N p a m l C 35184372088832 g f) {h:Nat} (hh:h < 3) (lv:Nat) (idx:Int):-35184372088832 ≤ massT (f h) lv idx 64 ∧ massT (f h) lv idx 64 ≤ 35184372088832:=by
 obtain ⟨ps,hp⟩:=H.hd
 obtain ⟨h1,h2⟩:=hp h hh
 rw [mass_pc h2 h1.ky]
 have:=sumIf_abs (fun k=>sh lv k == idx) (ps h)
 have:=h1.ab
 unfold pcS
 omega
theorem low_step (f:Nat → Int) {i:Nat} (hi:i < 64):massT f 6 0 (i + 1) = massT f 6 0 i + f i:=by
 show massT f 6 0 i + (if ((i / 2 ^ 6:Nat):Int) = 0 then f i else 0) = _
 rw [if_pos]
 rw [show 2 ^ 6 = 64 from rfl,Nat.div_eq_of_lt hi]
 rfl
theorem low_bd {f:Nat → Int} {T:Int} (hT:0 ≤ T) (hf:∀ i,i < 64 → -T ≤ f i ∧ f i ≤ T):∀ k:Nat,k ≤ 64 → -(T * k) ≤ massT f 6 0 k ∧ massT f 6 0 k ≤ T * k
 | 0,_=>by simp [massT]
 | k + 1,hk=>by
   have ih:=low_bd hT hf k (by omega)
   have h:=hf k (by omega)
   rw [low_step f (by omega)]
   have e:T * ((k + 1:Nat):Int) = T * k + T:=by rw [Int.natCast_add,Int.mul_add]; simp
   rw [e]
   omega
section
variable {w:World} {N p a m:Nat} {l:List (Nat × Th)} {C:Cfg} {g:Nat → Nat → List Int} {f:Nat → Nat → Int}
theorem PlAt.qno (H:PlAt w N p a m l C 35184372088832 g f) {h:Nat} (hh:h < 3) {k:Int} (hk:I64 k) (h1:k < 1 ∨ massT (f h) 6 0 64 < k):LineIs (topSt C g) (lineB vQuan [((h + 1:Nat):Int),k]) (some (errT 6),topSt C g):=by
 obtain ⟨ps,hp⟩:=H.hd
 obtain ⟨i1,i2⟩:=hp h hh
 have:=top_quan (C:=C) (g:=g) hh hk
 rw [top_qno H.ok H.hb i1 i2 h1] at this
 exact this
theorem PlAt.qyes (H:PlAt w N p a m l C 35184372088832 g f) (hm:C.mode ≠ 3) {h:Nat} (hh:h < 3) {k:Int} (hp:plainT (f h) 64 = true) (h1:1 ≤ k) (h2:k ≤ massT (f h) 6 0 64) :
 ∃ K:Nat,K ≤ 63 ∧ LineIs (topSt C g) (lineB vQuan [((h + 1:Nat):Int),k]) (some (repT (.key (K:Int))),topSt C g) ∧ massT (f h) 6 0 K < k ∧ k ≤ massT (f h) 6 0 (K + 1) + ovN (ptU C (g h)) (fun n i=>massT (f h) n i 64) K 6:=by
 have hk:I64 k:=by have:=(H.mass_bd hh 6 0).2; unfold I64; omega
 obtain ⟨ps,hps⟩:=H.hd
 obtain ⟨i1,i2⟩:=hps h hh
 obtain ⟨K,hK,e,a1,a2⟩:=top_qlaw H.ok H.hb i1 (by decide) hm i2 hp h1 h2
 refine ⟨K,hK, ?_,a1,a2⟩
 have:=top_quan (C:=C) (g:=g) hh hk
 rw [e] at this
 exact this
theorem PlAt.pt_bd (H:PlAt w N p a m l C 35184372088832 g f) (hm:C.mode ≠ 3) {h:Nat} (hh:h < 3) {n:Nat} (hn:n ≤ 6) {i:Int} (h0:0 ≤ i) (h1:i < keys C n):-35184372088832 ≤ ptU C (g h) n i ∧ ptU C (g h) n i ≤ 35184372088832:=by
 obtain ⟨ps,hps⟩:=H.hd
 exact (hps h hh).1.pt_bd H.ok (by decide) hm hn h0 h1
theorem half_in (hb:C.bits = 6) {K t:Nat} (hK:K ≤ 63) (ht:t + 1 ≤ 6):(0:Int) ≤ 2 * sh (t + 1) (K:Int) ∧ 2 * sh (t + 1) (K:Int) < keys C t ∧ 2 * sh (t + 1) (K:Int) < 64:=by
 have hk:=topKeys (C:=C) hb (n:=t) (by omega)
 have hk1:=topKeys (C:=C) hb (n:=t + 1) (by omega)
 have e:2 ^ (6 - t) = 2 * 2 ^ (6 - (t + 1)):=by rw [show 6 - t = (6 - (t + 1)) + 1 by omega,Nat.pow_succ,Nat.mul_comm]
 have e2:2 ^ (6 - t) ≤ 64:=(pow6' (by omega)).2
 have hlt:K / 2 ^ (t + 1) < 2 ^ (6 - (t + 1)):=by
  rw [Nat.div_lt_iff_lt_mul (Nat.pos_of_ne_zero (by have:=Nat.one_le_two_pow (n:=t + 1); omega)),← Nat.pow_add,show 6 - (t + 1) + (t + 1) = 6 by omega]
  omega
 rw [sh_nat,hk]
 generalize K / 2 ^ (t + 1) = q at *
 omega
theorem ov_bd (H:PlAt w N p a m l C 35184372088832 g f) (hm:C.mode ≠ 3) {h:Nat} (hh:h < 3) {K:Nat} (hK:K ≤ 63):∀ n:Nat,n ≤ 6 → -70368744177664 * (n:Int) ≤ ovN (ptU C (g h)) (fun n i=>massT (f h) n i 64) K n ∧ ovN (ptU C (g h)) (fun n i=>massT (f h) n i 64) K n ≤ 70368744177664 * (n:Int)
 | 0,_=>by unfold ovN; omega
 | n + 1,hn=>by
   have ih:=ov_bd H hm hh hK n (by omega)
   have hi:=half_in (C:=C) H.hb hK (t:=n) hn
   have h1:=H.pt_bd hm hh (n:=n) (by omega) hi.1 hi.2.1
   have h2:=H.mass_bd hh n (2 * sh (n + 1) (K:Int))
   unfold ovN
   omega
end
set_option maxRecDepth 20000 in
set_option maxHeartbeats 16000000 in
theorem QuanTop_c (x:Cfg) (hx:x.Raw) (os:List Opn5) (hos:Ops5Ok os) (v:Value) (a0 a1:Int) (ha0:I64 a0) (ha1:I64 a1) (w:World) (hat:Ops5At w v os) (hul:os.length ≤ 140737488355328) (hT:Tabs w) :
 Calls Tryz.prog 11 #[.agg #[.int .i64 x.bits,.int .i64 x.rows,.int .i64 x.width,.int .i64 x.mode,.int .u64 x.seed],v,.agg #[.int .i64 a0,.int .i64 a1]] w fun e w'=>e = .returned (.bool true) ∧ Ext w w':=by
 obtain ⟨vp,vc,rfl⟩:=hat.sl
 have HV:=Lib.hid hat
 have HT:=Lib.hid hT
 have HW:=fun W hT'=>Lib.hid (works_c W hT')
 have an1:=and_one hx.m
 have hmc:Hid (modeC x = if x.mode % 2 = 1 then 2 else 1):=Lib.hid rfl
 have hmb:=modeC_bd x
 have HPL:=fun W (hat':Ops5At W (.slice vp os.length vc) os) (hT':Tabs W)=>Lib.hid (TPlayed_c x hx (modeC x) hmb.1 hmb.2.1 os hos _ W hat' hul hT')
 have hag:Ext w ((w.alloc (.cells #[.int .i64 x.bits,.int .i64 x.rows,.int .i64 x.width,.int .i64 x.mode,.int .u64 x.seed] 24)).alloc (.cells #[.int .i64 a0,.int .i64 a1] 97)):=(Ext.alloc' _ _).allocR _
 have HAG:=Lib.hid hag
 clear hat hT hag
 go_enter Tryz.func11,Tryz.ntmps11
 go_wp2_with fail
 refine Calls.mono (HW _ (HT.out.ext HAG.out)).out ?_
 rintro e w1 ⟨rfl,hx1⟩
 have hE1:=HAG.out.trans' hx1
 have hs1:=hx1.size
 simp only [size_alloc] at hs1
 have k0:w1.heap[w.heap.size]? = some (.cells #[.int .i64 x.bits,.int .i64 x.rows,.int .i64 x.width,.int .i64 x.mode,.int .u64 x.seed] 24 (0,0)):=by
  rw [hx1.block _ (by simp only [size_alloc]; omega),heap_old _ _ (by rw [size_alloc]; omega)]
  exact heap_at _ _ rfl
 have k1:w1.heap[w.heap.size + 1]? = some (.cells #[.int .i64 a0,.int .i64 a1] 97 (0,0)):=by
  rw [hx1.block _ (by simp only [size_alloc]; omega)]
  exact heap_at _ _ (by simp only [size_alloc])
 have HE1:=Lib.hid hE1
 have HX0:=Lib.hid k0
 have HX1:=Lib.hid k1
 have b3:=(cell_of k0 3).trans rfl
 have b0:=(cell_of k0 0).trans rfl
 have b1:=(cell_of k0 1).trans rfl
 have b2:=(cell_of k0 2).trans rfl
 have b4:=(cell_of k0 4).trans rfl
 have bl:=lt_of k0
 have d0:=(cell_of k1 0).trans rfl
 have d1:=(cell_of k1 1).trans rfl
 have dl:=lt_of k1
 clear hx1 hE1 k0 k1
 go_upto_if 35 with (fail)
 go_cut [8] (fun s8 wx=>s8 = .int .i64 (modeC x) ∧ wx = w1)
 case first =>
  by_cases hmo:x.mode % 2 = 1
  · have hob:(x.mode % 2 == 1) = true:=by simpa using hmo
    go_wp2
    go_meet
    exact ⟨by rw [hmc.out,if_pos hmo],rfl⟩
  · have hob:(x.mode % 2 == 1) = false:=by simpa using hmo
    go_wp2
    go_meet
    exact ⟨by rw [hmc.out,if_neg hmo],rfl⟩
 case rest =>
  obtain ⟨rfl,rfl⟩:=hcut
  go_wp2_with fail
  refine Calls.mono (HPL _ (HV.out.ext HE1.out) (HT.out.ext HE1.out)).out ?_
  rintro e w2 ⟨N,p,a,m,l,g,f,rfl,hP,hN,hx2⟩
  have hE2:=HE1.out.trans' hx2
  have hx1':=hx2.block _ dl
  have k1:w2.heap[w.heap.size + 1]? = some (.cells #[.int .i64 a0,.int .i64 a1] 97 (0,0)):=hx1'.trans HX1.out
  have hm3:(topC x (modeC x)).mode ≠ 3:=hmb.2.2
  generalize topC x (modeC x) = C at *
  have HP:=Lib.hid hP
  have HE2:=Lib.hid hE2
  have HK1:=Lib.hid k1
  have hbN:w.heap.size + 1 < N:=by omega
  have HNW:=Lib.hid (show w.heap.size ≤ N by omega)
  obtain ⟨h,hh,hh3⟩:=hand3 (a0 % 65536)
  have an2:=and_FFFF ha0
  have ia0:I64 (a0 % 65536):=by unfold I64; omega
  have HH1:=fun W=>Lib.hid (THandle_c (a0 % 65536) ia0 W)
  rw [← hh] at HH1
  clear hh
  have d0:=(cell_of k1 0).trans rfl
  have dl:=lt_of k1
  clear hx2 hE2 hx1' k1 b0 b1 b2 b3 b4 bl d1 hN hP HPL hmb an1
  go_wp2_with fail
  refine Calls.mono (HH1 _).out ?_
  rintro e w3 ⟨rfl,rfl⟩
  have htot:=HP.out.mass_bd hh3 6 0
  have HMT:=Lib.hid (show Calls Tryz.prog 22 #[.pointer (some ⟨p,0,none⟩),.int .i64 (h:Nat),.agg #[.int .i64 6,.int .u64 0]] w3 (fun e w'=>e = .returned (.int .i64 (massT (f h) 6 0 64)) ∧ Ext w3 w') from TMass_c HP.out.tw h hh3 6 (by decide) 0 (by unfold U64; omega))
  obtain ⟨tt,htt⟩:∃ tt,massT (f h) 6 0 64 = tt:=⟨_,rfl⟩
  rw [htt] at htot HMT
  have HTT:=Lib.hid htt
  clear htt
  go_wp2_with fail
  refine Calls.mono HMT.out ?_
  rintro e w4 ⟨rfl,hx4⟩
  have HHC:=Lib.hid (show (h:Int) + 1 = ((h + 1:Nat):Int) by omega)
  have HTX:=fun W=>Lib.hid (TText_c ((h + 1:Nat):Int) (hI hh3) W)
  have z1:=tb_size (hI hh3)
  have hc0:=cat_quan0 ((h + 1:Nat):Int)
  obtain ⟨t1,e1⟩:∃ t,(⟨(Lib.itoa ((h + 1:Nat):Int)).toArray⟩:ByteArray) = t:=⟨_,rfl⟩
  obtain ⟨s1,e2⟩:∃ t,lineB vQuan [((h + 1:Nat):Int),0] = t:=⟨_,rfl⟩
  have hno0:=HP.out.qno hh3 (k:=0) (by unfold I64; omega) (.inl (by omega))
  rw [e2] at hno0
  have HNO0:=Lib.hid hno0
  unfold strV at HTX
  rw [e1] at HTX z1
  rw [e1,e2] at hc0
  have HT1:=Lib.hid e1
  clear e1 e2 hno0
  have HX4:=Lib.hid hx4
  have hp0:=((HP.out.ext hx4).tw.c0).1
  have hp4:=(HP.out.ext hx4).tw.lt
  clear hx4 d0
  go_wp2_with fail
  rw [HHC.out]
  refine Calls.mono (HTX _).out ?_
  rintro e w5 ⟨rfl,hx5⟩
  have hp0:=(hx5.cell hp4).trans hp0
  have hp5:=Nat.lt_of_lt_of_le hp4 hx5.size
  have HX5:=Lib.hid (HX4.out.trans' hx5)
  clear hx5
  go_wp2_with fail
  refine Calls.mono ((HP.out.ext HX5.out).ask HNO0.out) ?_
  rintro e w6 ⟨rfl,l6,hq6⟩
  rw [err6_v]
  have hP6:=hq6.at_
  have hB6:Below N w3 w6:=Below.trans (HP.out.below_ext HX5.out) ((HP.out.ext HX5.out).ag.below hq6.md)
  have HP6:=Lib.hid hP6
  have HB6:=Lib.hid hB6
  have hp0:=hP6.tw.c0.1
  have hp6:=hP6.tw.lt
  obtain ⟨n1,hn1⟩:∃ n1,max tt 0 + 1 = n1:=⟨_,rfl⟩
  have hn1b:I64 n1:=by unfold I64; omega
  have hwr:wrap64 n1 = n1:=by unfold wrap64; omega
  have hno1:=hP6.qno hh3 hn1b (.inr (by rw [HTT.out]; omega))
  have HTX2:=fun W=>Lib.hid (TText_c n1 hn1b W)
  have z2:=tb_size hn1b
  have hc1:=cat_quan ((h + 1:Nat):Int) n1
  rw [HT1.out] at hc1
  obtain ⟨t2,e1⟩:∃ t,(⟨(Lib.itoa n1).toArray⟩:ByteArray) = t:=⟨_,rfl⟩
  obtain ⟨s2,e2⟩:∃ t,lineB vQuan [((h + 1:Nat):Int),n1] = t:=⟨_,rfl⟩
  rw [e2] at hno1
  have HNO1:=Lib.hid hno1
  unfold strV at HTX2
  rw [e1] at HTX2 z2
  rw [e1,e2] at hc1
  obtain ⟨S,hS⟩:∃ S,AgF a m l6 = S:=⟨_,rfl⟩
  have nS2:¬ S p:=by rw [← hS]; exact hP6.np
  have HSS:=Lib.hid hS
  clear e1 e2 hno1 hS hq6 hP6 hB6 hc0
  go_wp2_with fail
  have hC0:=afs_drew S w6
  refine pi_start (fun w'=>∃ x:AftS S w6,w' = x.w) [] (by kernel_rfl) ?_
  refine pi_t 0 rfl (by kernel_rfl) (by kernel_rfl) (fun _ _ _ _ h=>h) (fun K hK=>?_)
  go_big_quiet_op
  refine hK _ ?_
  clear hK K
  refine pi_t 1 rfl (by kernel_rfl) (by kernel_rfl) (fun _ _ _ _ h=>h) (fun K hK=>?_)
  go_big_quiet_op
  refine hK _ ?_
  clear hK K
  refine pi_t 2 rfl (by kernel_rfl) (by kernel_rfl) (fun _ _ _ _ h=>h) (fun K hK=>?_)
  go_big_quiet_op
  refine hK _ ?_
  clear hK K
  refine pi_t 4 rfl (by kernel_rfl) (by kernel_rfl) (fun _ _ _ _ h=>h) (fun K hK=>?_)
  go_big_quiet_op
  refine hK _ ?_
  clear hK K
  refine pi_t 5 rfl (by kernel_rfl) (by kernel_rfl) (fun _ _ _ _ h=>h) (fun K hK=>?_)
  go_big_quiet_op
  refine hK _ ?_
  clear hK K
  refine pi_t 6 rfl (by kernel_rfl) (by kernel_rfl) (fun _ _ _ _ h=>h) (fun K hK=>?_)
  go_big_quiet_op
  refine hK _ ?_
  clear hK K
  refine pi_t 7 rfl (by kernel_rfl) (by kernel_rfl) (fun _ _ _ _ h=>h) (fun K hK=>?_)
  go_big_quiet_op
  refine hK _ ?_
  clear hK K
  refine pi_t 8 rfl (by kernel_rfl) (by kernel_rfl) (fun _ _ _ _ h=>h) (fun K hK=>?_)
  go_big_quiet_op
  refine hK _ ?_
  clear hK K
  refine pi_t 9 rfl (by kernel_rfl) (by kernel_rfl) (fun _ _ _ _ h=>h) (fun K hK=>?_)
  go_big_quiet_op
  refine hK _ ?_
  clear hK K
  refine pi_c 3 (by assumption) rfl (by kernel_rfl) (by kernel_rfl) (fun _ _ _ _ h=>h) (fun K hK=>?_)
  go_big_quiet_op
  refine hK _ ?_
  clear hK K
  refine pi_l 10 rfl (by kernel_rfl) (fun K hK=>?_)
  go_wp2_with (go_at_call 16; refine (HTX2 _).out.mono ?_; rintro e y1 ⟨rfl,hy1⟩)
  refine hK _ _ (fun _ h=>afs_step h hy1) ?_
  clear hK K
  have HY1:=Lib.hid ((Ext.refl w6).drewR.trans' hy1)
  clear hy1
  refine pi_t 11 rfl (by kernel_rfl) (by kernel_rfl) (fun _ _ _ _ h=>h) (fun K hK=>?_)
  go_big_quiet_op
  refine hK _ ?_
  clear hK K
  refine pi_l 12 rfl (by kernel_rfl) (fun K hK=>?_)
  go_wp2_with (go_at_call 15; refine ((HP6.out.ext HY1.out).ask HNO1.out).mono ?_; rintro e w7 ⟨rfl,l7,hq7⟩; rw [err6_v])
  have hM7:Mod S w6 w7:=by rw [← HSS.out]; exact (HY1.out.mod _).trans hq7.md
  refine hK _ _ (fun _ _=>⟨⟨_,hM7⟩,rfl⟩) ?_
  clear hK K
  refine pi_t 13 rfl (by kernel_rfl) (by kernel_rfl) (fun _ _ _ _ h=>h) (fun K hK=>?_)
  go_big_quiet_op
  refine hK _ ?_
  clear hK K
  refine pi_t 14 rfl (by kernel_rfl) (by kernel_rfl) (fun _ _ _ _ h=>h) (fun K hK=>?_)
  go_big_quiet_op
  refine hK _ ?_
  clear hK K
  refine pi_t 15 rfl (by kernel_rfl) (by kernel_rfl) (fun _ _ _ _ h=>h) (fun K hK=>?_)
  go_big_quiet_op
  refine hK _ ?_
  clear hK K
  refine pi_t 16 rfl (by kernel_rfl) (by kernel_rfl) (fun _ _ _ _ h=>h) (fun K hK=>?_)
  go_big_quiet_op
  refine hK _ ?_
  clear hK K
  refine pi_t 17 rfl (by kernel_rfl) (by kernel_rfl) (fun _ _ _ _ h=>h) (fun K hK=>?_)
  go_big_quiet_op
  refine hK _ ?_
  clear hK K
  refine pi_end (by kernel_rfl) ?_
  have hB7:Below N w3 w7:=Below.trans (Below.trans HB6.out (HP6.out.below_ext HY1.out)) ((HP6.out.ext HY1.out).ag.below hq7.md)
  have HP7:=Lib.hid hq7.at_
  have HB7:=Lib.hid hB7
  have HE7:=Lib.hid (Below.trans HE2.out (Below.mono hB7 HNW.out))
  clear hM7 hB7 hq7 hC0 hp0 hp6 nS2 hwr z2 hc1
  by_cases ht1:tt < 1
  · go_wp2
    go_ret
    exact ⟨rfl,HE7.out⟩
  · have HPN:=Lib.hid (TPlain_c HP7.out.tw h hh3)
    cases hpl:plainT (f h) 64 with
    | false =>
      rw [hpl] at HPN
      go_wp2_with fail
      refine Calls.mono HPN.out ?_
      rintro e w8 ⟨rfl,rfl⟩
      go_wp2
      go_ret
      exact ⟨rfl,HE7.out⟩
    | true =>
      rw [hpl] at HPN
      have k7:=Below.keep HB7.out HK1.out hbN
      have d1:=(cell_of k7 1).trans rfl
      have dl:=lt_of k7
      have an3:=and_62 ha1
      obtain ⟨r,hr⟩:∃ r,a1 % 4611686018427387904 % tt = r:=⟨_,rfl⟩
      have hrb:0 ≤ r ∧ r < tt:=by rw [← hr]; exact ⟨Int.emod_nonneg _ (by omega),Int.emod_lt_of_pos _ (by omega)⟩
      have hr2:(a1 % 4611686018427387904).tmod tt = r:=by rw [← hr]; exact Int.tmod_eq_emod_of_nonneg (by omega)
      have htz:(tt == 0) = false:=by simp; omega
      have HPL7:=Lib.hid hpl
      obtain ⟨kk,hkk⟩:∃ kk,1 + r = kk:=⟨_,rfl⟩
      have hk1:1 ≤ kk ∧ kk ≤ tt:=by omega
      have hkI:I64 kk:=by unfold I64; omega
      obtain ⟨K,hK63,hls,q1,q2⟩:=HP7.out.qyes hm3 hh3 hpl hk1.1 (by rw [HTT.out]; exact hk1.2)
      have HQ:=Lib.hid (And.intro q1 q2)
      have hKI:I64 (K:Int):=by unfold I64; omega
      have HTX3:=fun W=>Lib.hid (TText_c kk hkI W)
      have z3:=tb_size hkI
      have hc3:=cat_quan ((h + 1:Nat):Int) kk
      rw [HT1.out] at hc3
      obtain ⟨t3,e1⟩:∃ t,(⟨(Lib.itoa kk).toArray⟩:ByteArray) = t:=⟨_,rfl⟩
      obtain ⟨s3,e2⟩:∃ t,lineB vQuan [((h + 1:Nat):Int),kk] = t:=⟨_,rfl⟩
      obtain ⟨rb,e3⟩:∃ t,(⟨(repT (.key (K:Int))).toArray⟩:ByteArray) = t:=⟨_,rfl⟩
      have hrb1:rb.data.toList = [107,101,121,32] ++ Lib.itoa (K:Int):=by
       rw [← e3,itoa_nat]
       rfl
      have HNB:=fun W=>Lib.hid (TNumber_c (K:Int) hKI [107,101,121,32] rb ⟨#[107,101,121,32]⟩ rfl hrb1 (by decide) W)
      have HRB:=Lib.hid (show strV (repT (.key (K:Int))) = .string rb from congrArg Value.string e3)
      rw [e2] at hls
      have HLS:=Lib.hid hls
      unfold strV at HTX3
      rw [e1] at HTX3 z3
      rw [e1,e2] at hc3
      have hp0:=HP7.out.tw.c0.1
      have hp7:=HP7.out.tw.lt
      obtain ⟨S2,hS2⟩:∃ S,AgF a m l7 = S:=⟨_,rfl⟩
      have nS3:¬ S2 p:=by rw [← hS2]; exact HP7.out.np
      have HSS2:=Lib.hid hS2
      have n1K:(0:Int) ≤ (K:Int):=by omega
      clear k7 hpl e1 e2 e3 hrb1 hls hS2 q1 q2
      go_wp2_with fail
      refine Calls.mono HPN.out ?_
      rintro e w8 ⟨rfl,rfl⟩
      go_wp2_with fail
      have hC0:=afs_drew S2 w8
      refine pi_start (fun w'=>∃ x:AftS S2 w8,w' = x.w) [] (by kernel_rfl) ?_
      refine pi_t 0 rfl (by kernel_rfl) (by kernel_rfl) (fun _ _ _ _ h=>h) (fun K hK=>?_)
      go_big_quiet_op
      refine hK _ ?_
      clear hK K
      refine pi_t 1 rfl (by kernel_rfl) (by kernel_rfl) (fun _ _ _ _ h=>h) (fun K hK=>?_)
      go_big_quiet_op
      refine hK _ ?_
      clear hK K
      refine pi_t 2 rfl (by kernel_rfl) (by kernel_rfl) (fun _ _ _ _ h=>h) (fun K hK=>?_)
      go_big_quiet_op
      refine hK _ ?_
      clear hK K
      refine pi_t 4 rfl (by kernel_rfl) (by kernel_rfl) (fun _ _ _ _ h=>h) (fun K hK=>?_)
      go_big_quiet_op
      refine hK _ ?_
      clear hK K
      refine pi_t 5 rfl (by kernel_rfl) (by kernel_rfl) (fun _ _ _ _ h=>h) (fun K hK=>?_)
      go_big_quiet_op
      refine hK _ ?_
      clear hK K
      refine pi_t 6 rfl (by kernel_rfl) (by kernel_rfl) (fun _ _ _ _ h=>h) (fun K hK=>?_)
      go_big_quiet_op
      refine hK _ ?_
      clear hK K
      refine pi_t 7 rfl (by kernel_rfl) (by kernel_rfl) (fun _ _ _ _ h=>h) (fun K hK=>?_)
      go_big_quiet_op
      refine hK _ ?_
      clear hK K
      refine pi_c 3 (by assumption) rfl (by kernel_rfl) (by kernel_rfl) (fun _ _ _ _ h=>h) (fun K hK=>?_)
      go_big_quiet_op
      refine hK _ ?_
      clear hK K
      refine pi_l 8 rfl (by kernel_rfl) (fun K hK=>?_)
      go_wp2_with (go_at_call 16; refine (HTX3 _).out.mono ?_; rintro e y2 ⟨rfl,hy2⟩)
      refine hK _ _ (fun _ h=>afs_step h hy2) ?_
      clear hK K
      have HY2:=Lib.hid ((Ext.refl w8).drewR.trans' hy2)
      clear hy2
      refine pi_t 9 rfl (by kernel_rfl) (by kernel_rfl) (fun _ _ _ _ h=>h) (fun K hK=>?_)
      go_big_quiet_op
      refine hK _ ?_
      clear hK K
      refine pi_l 10 rfl (by kernel_rfl) (fun K hK=>?_)
      go_wp2_with (go_at_call 15; refine ((HP7.out.ext HY2.out).ask HLS.out).mono ?_; rintro e w9 ⟨rfl,l9,hq9⟩; rw [HRB.out])
      have hM9:Mod S2 w8 w9:=by rw [← HSS2.out]; exact (HY2.out.mod _).trans hq9.md
      refine hK _ _ (fun _ _=>⟨⟨_,hM9⟩,rfl⟩) ?_
      clear hK K
      refine pi_t 11 rfl (by kernel_rfl) (by kernel_rfl) (fun _ _ _ _ h=>h) (fun K hK=>?_)
      go_big_quiet_op
      refine hK _ ?_
      clear hK K
      refine pi_t 12 rfl (by kernel_rfl) (by kernel_rfl) (fun _ _ _ _ h=>h) (fun K hK=>?_)
      go_big_quiet_op
      refine hK _ ?_
      clear hK K
      refine pi_t 13 rfl (by kernel_rfl) (by kernel_rfl) (fun _ _ _ _ h=>h) (fun K hK=>?_)
      go_big_quiet_op
      refine hK _ ?_
      clear hK K
      refine pi_t 14 rfl (by kernel_rfl) (by kernel_rfl) (fun _ _ _ _ h=>h) (fun K hK=>?_)
      go_big_quiet_op
      refine hK _ ?_
      clear hK K
      refine pi_t 15 rfl (by kernel_rfl) (by kernel_rfl) (fun _ _ _ _ h=>h) (fun K hK=>?_)
      go_big_quiet_op
      refine hK _ ?_
      clear hK K
      refine pi_end (by kernel_rfl) ?_
      have hB9:Below N w3 w9:=Below.trans (Below.trans HB7.out (HP7.out.below_ext HY2.out)) ((HP7.out.ext HY2.out).ag.below hq9.md)
      have HP9:=Lib.hid hq9.at_
      have HB9:=Lib.hid hB9
      clear hM9 hB9 hq9 hC0 hp0 hp7 nS3 hc3 z3
      go_wp2_with fail
      refine Calls.mono (HNB _).out ?_
      rintro e w10 ⟨rfl,rfl⟩
      go_wp2_with fail
      go_loopw [22,23,24,25,26,27,28] (fun u22 u23 _ _ _ _ _ wr=>∃ (t:Nat) (tz ov:Int) (l':List (Nat × Th)),t ≤ 6 ∧ tz = (t:Int) ∧ u23 = .int .i64 tz ∧ u22 = .int .i64 ov ∧ ov = ovN (ptU C (g h)) (fun n i=>massT (f h) n i 64) (K:Int) 6 - ovN (ptU C (g h)) (fun n i=>massT (f h) n i 64) (K:Int) t ∧ PlAt wr N p a m l' C 35184372088832 g f ∧ Below N w3 wr) (fun _ u23 _ _ _ _ _ _=>(intOf u23).toNat)
      case atStart=>exact ⟨6,6,0,l9,by omega,rfl,rfl,rfl,by omega,HP9.out,HB9.out⟩
      case round =>
       obtain ⟨t,tz,ov,l',ht,htz',rfl,rfl,hov,hP,hB⟩:=hrel
       have HP:=Lib.hid hP
       have HB:=Lib.hid hB
       have HEW:=Lib.hid (Below.trans HE2.out (Below.mono hB HNW.out))
       have HOV:=Lib.hid hov
       have hob:=ov_bd hP hm3 hh3 hK63
       have hob6:=hob 6 (by omega)
       have hobt:=hob t ht
       have hpr:=hP.tw.lt
       by_cases ht0:t = 0
       · subst ht0
         have htz0:tz = 0:=htz'
         have hov6:ov = ovN (ptU C (g h)) (fun n i=>massT (f h) n i 64) (K:Int) 6:=by
          rw [hov]
          show _ - 0 = _
          omega
         have hovb:-1000000000000000 ≤ ov ∧ ov ≤ 1000000000000000:=by rw [hov6]; omega
         have hq2:=HQ.out.2
         rw [← hov6] at hq2
         have hlow:=low_bd (f:=f h) (T:=35184372088832) (by decide) (fun i hi=>hP.hd.f_bd hh3 hi)
         have HLOW:=Lib.hid hlow
         have HQ2:=Lib.hid hq2
         subst htz0
         clear hov hov6 hob hob6 hobt hP hB hq2 hlow htz'
         go_wp2_with fail
         go_loopw [29,30] (fun u29 u30 wr'=>∃ i:Nat,i ≤ K ∧ u30 = .int .i64 (i:Nat) ∧ u29 = .int .i64 (massT (f h) 6 0 i) ∧ wr' = wr) (fun _ u30 _=>64 - (intOf u30).toNat)
         case atStart=>exact ⟨0,by omega,rfl,rfl,by first | rfl | trivial⟩
         case round =>
          obtain ⟨i,hi,rfl,rfl,rfl⟩:=hrel
          have hst:=low_step (f h) (i:=i) (by omega)
          have hc:=HP.out.tw.cell hh3 (show i < 64 by omega)
          have hfb:=HP.out.hd.f_bd hh3 (show i < 64 by omega)
          have hlb:=HLOW.out i (by omega)
          have hlb2:=HLOW.out (i + 1) (by omega)
          rw [hst] at hlb2
          by_cases hiK:i < K
          · have HST:=Lib.hid hst
            have hlbb:-9000000000000000 ≤ massT (f h) 6 0 i ∧ massT (f h) 6 0 i ≤ 9000000000000000:=by omega
            generalize f h i = y at *
            generalize massT (f h) 6 0 i = z at *
            clear hst hlb hlb2
            go_wp2_with fail
            go_roundw
            case rel=>exact ⟨i + 1,by omega,by go_num,by rw [HST.out],by first | rfl | trivial⟩
            case measure=>simp [intOf]; omega
          · obtain rfl:i = K:=by omega
            have hq1:=HQ.out.1
            have hq2:=HQ2.out
            rw [hst] at hq2
            have hlbb:-9000000000000000 ≤ massT (f h) 6 0 i ∧ massT (f h) 6 0 i ≤ 9000000000000000:=by omega
            generalize f h i = y at *
            generalize massT (f h) 6 0 i = z at *
            clear hst hlb hlb2
            go_wp2
            go_ret
            exact ⟨rfl,HEW.out⟩
       · obtain ⟨t',rfl⟩:∃ t',t = t' + 1:=⟨t - 1,by omega⟩
         have hin:=half_in (C:=C) hP.hb hK63 (t:=t') ht
         have hob':=hob t' (by omega)
         have hov':ovN (ptU C (g h)) (fun n i=>massT (f h) n i 64) (K:Int) (t' + 1) = ovN (ptU C (g h)) (fun n i=>massT (f h) n i 64) (K:Int) t' + (ptU C (g h) t' (2 * sh (t' + 1) (K:Int)) - massT (f h) t' (2 * sh (t' + 1) (K:Int)) 64):=rfl
         obtain ⟨tm,htm⟩:∃ tm:Int,tz - 1 = tm:=⟨_,rfl⟩
         have htm':tm = (t':Int):=by omega
         have hsh:(K:Int) / 2 ^ tz.toNat = sh (t' + 1) (K:Int):=by rw [htz',Int.toNat_natCast]; rfl
         generalize sh (t' + 1) (K:Int) = q at *
         obtain ⟨ix,hix⟩:∃ ix,q * 2 = ix:=⟨_,rfl⟩
         rw [show 2 * q = ix by omega] at hin hov'
         have hptb:=hP.pt_bd hm3 hh3 (n:=t') (by omega) hin.1 hin.2.1
         have hmsb:=hP.mass_bd hh3 t' ix
         have hlp:=top_point (g:=g) hh3 (lv:=t') (by omega) hin.1 hin.2.1 hin.2.2
         obtain ⟨n,hn⟩:∃ n,ptU C (g h) t' ix = n:=⟨_,rfl⟩
         obtain ⟨ms,hms⟩:∃ ms,massT (f h) t' ix 64 = ms:=⟨_,rfl⟩
         have HMS:=Lib.hid hms
         rw [hn,hms] at hov'
         rw [hn] at hptb hlp
         rw [hms] at hmsb
         rw [← htm'] at hlp
         have HOV':=Lib.hid hov'
         have hovb:-1000000000000000 ≤ ov ∧ ov ≤ 1000000000000000:=by rw [hov]; omega
         have itm:I64 tm:=by unfold I64; omega
         have iix:I64 ix:=by unfold I64; omega
         have inn:I64 n:=by unfold I64; omega
         have HTA:=fun W=>Lib.hid (TText_c tm itm W)
         have HTB:=fun W=>Lib.hid (TText_c ix iix W)
         have za:=tb_size itm
         have zb:=tb_size iix
         have hcp:_ = lineB vPoint [((h + 1:Nat):Int),tm,ix]:=cat_three vPoint ((h + 1:Nat):Int) tm ix
         have hvp:(⟨(vPoint ++ [32]).toArray⟩:ByteArray) = ⟨#[112,111,105,110,116,32]⟩:=rfl
         rw [HT1.out,hvp] at hcp
         obtain ⟨ta,e1⟩:∃ t,(⟨(Lib.itoa tm).toArray⟩:ByteArray) = t:=⟨_,rfl⟩
         obtain ⟨tb,e2⟩:∃ t,(⟨(Lib.itoa ix).toArray⟩:ByteArray) = t:=⟨_,rfl⟩
         obtain ⟨sp,e3⟩:∃ t,lineB vPoint [((h + 1:Nat):Int),tm,ix] = t:=⟨_,rfl⟩
         obtain ⟨rp,e4⟩:∃ t,(⟨(repT (.number n)).toArray⟩:ByteArray) = t:=⟨_,rfl⟩
         have hrp:rp.data.toList = [110,117,109,98,101,114,32] ++ Lib.itoa n:=by rw [← e4]; rfl
         have HNP:=fun W=>Lib.hid (TNumber_c n inn [110,117,109,98,101,114,32] rp ⟨#[110,117,109,98,101,114,32]⟩ rfl hrp (by decide) W)
         have HRP:=Lib.hid (show strV (repT (.number n)) = .string rp from congrArg Value.string e4)
         rw [e3] at hlp
         have HLP:=Lib.hid hlp
         unfold strV at HTA HTB
         rw [e1] at HTA za
         rw [e2] at HTB zb
         rw [e1,e2,e3] at hcp
         have hp0:=hP.tw.c0.1
         obtain ⟨W1,hW1⟩:∃ W1,wr.alloc (.cells #[.int .i64 tm,.int .u64 ix] 52) = W1:=⟨_,rfl⟩
         have hb1:=heap_at wr (.cells #[.int .i64 tm,.int .u64 ix] 52) rfl
         have hx1:=Ext.alloc' wr (.cells #[.int .i64 tm,.int .u64 ix] 52)
         rw [hW1] at hb1 hx1
         have o0:=(cell_of hb1 0).trans rfl
         have o1:=(cell_of hb1 1).trans rfl
         have ol:=lt_of hb1
         have hp1:=(hx1.cell hpr).trans hp0
         have hpr1:=Nat.lt_of_lt_of_le hpr hx1.size
         obtain ⟨S3,hS3⟩:∃ S,AgF a m l' = S:=⟨_,rfl⟩
         have nS4:¬ S3 p:=by rw [← hS3]; exact hP.np
         have nS5:¬ S3 wr.heap.size:=by
          rw [← hS3]
          intro hh
          have:=hP.ag.flt hh
          omega
         have HSS3:=Lib.hid hS3
         have HX1:=Lib.hid hx1
         have HB1:=Lib.hid hb1
         have HTMT:=Lib.hid htm'
         have htzb:1 ≤ tz ∧ tz ≤ 6:=by omega
         have hqb:0 ≤ q ∧ q < 32:=by omega
         have hixb:0 ≤ ix ∧ ix < 64:=by omega
         have htmb:0 ≤ tm ∧ tm ≤ 5:=by omega
         clear htz' hov hob hob6 hobt hob' hP hB hov' hin hn hms e1 e2 e3 e4 hrp hlp hS3 hx1 hb1 hp0 htm'
         go_wp2_with fail
         have hC0:=afs_drew S3 W1
         refine pi_start (fun w'=>∃ x:AftS S3 W1,w' = x.w) [] (by kernel_rfl) ?_
         refine pi_t 0 rfl (by kernel_rfl) (by kernel_rfl) (fun _ _ _ _ h=>h) (fun K hK=>?_)
         go_big_quiet_op
         refine hK _ ?_
         clear hK K
         refine pi_t 1 rfl (by kernel_rfl) (by kernel_rfl) (fun _ _ _ _ h=>h) (fun K hK=>?_)
         go_big_quiet_op
         refine hK _ ?_
         clear hK K
         refine pi_t 2 rfl (by kernel_rfl) (by kernel_rfl) (fun _ _ _ _ h=>h) (fun K hK=>?_)
         go_big_quiet_op
         refine hK _ ?_
         clear hK K
         refine pi_t 4 rfl (by kernel_rfl) (by kernel_rfl) (fun _ _ _ _ h=>h) (fun K hK=>?_)
         go_big_quiet_op
         refine hK _ ?_
         clear hK K
         refine pi_t 5 rfl (by kernel_rfl) (by kernel_rfl) (fun _ _ _ _ h=>h) (fun K hK=>?_)
         go_big_quiet_op
         refine hK _ ?_
         clear hK K
         refine pi_t 6 rfl (by kernel_rfl) (by kernel_rfl) (fun _ _ _ _ h=>h) (fun K hK=>?_)
         go_big_quiet_op
         refine hK _ ?_
         clear hK K
         refine pi_t 7 rfl (by kernel_rfl) (by kernel_rfl) (fun _ _ _ _ h=>h) (fun K hK=>?_)
         go_big_quiet_op
         refine hK _ ?_
         clear hK K
         refine pi_t 12 rfl (by kernel_rfl) (by kernel_rfl) (fun _ _ _ _ h=>h) (fun K hK=>?_)
         go_big_quiet_op
         refine hK _ ?_
         clear hK K
         refine pi_c 3 (by assumption) rfl (by kernel_rfl) (by kernel_rfl) (fun _ _ _ _ h=>h) (fun K hK=>?_)
         go_big_quiet_op
         refine hK _ ?_
         clear hK K
         refine pi_c 8 (by assumption) rfl (by kernel_rfl) (by kernel_rfl) (fun _ _ _ _ h=>h) (fun K hK=>?_)
         go_big_quiet_op
         refine hK _ ?_
         clear hK K
         refine pi_c 13 (by assumption) rfl (by kernel_rfl) (by kernel_rfl) (fun _ _ _ _ h=>h) (fun K hK=>?_)
         go_big_quiet_op
         refine hK _ ?_
         clear hK K
         refine pi_t 14 rfl (by kernel_rfl) (by kernel_rfl) (fun _ _ _ _ h=>h) (fun K hK=>?_)
         go_big_quiet_op
         refine hK _ ?_
         clear hK K
         refine pi_l 9 rfl (by kernel_rfl) (fun K hK=>?_)
         go_wp2_with (go_at_call 16; refine (HTA _).out.mono ?_; rintro e y3 ⟨rfl,hy3⟩)
         refine hK _ _ (fun _ h=>afs_step h hy3) ?_
         clear hK K
         refine pi_t 10 rfl (by kernel_rfl) (by kernel_rfl) (fun _ _ _ _ h=>h) (fun K hK=>?_)
         go_big_quiet_op
         refine hK _ ?_
         clear hK K
         refine pi_t 11 rfl (by kernel_rfl) (by kernel_rfl) (fun _ _ _ _ h=>h) (fun K hK=>?_)
         go_big_quiet_op
         refine hK _ ?_
         clear hK K
         refine pi_l 15 rfl (by kernel_rfl) (fun K hK=>?_)
         go_wp2_with (go_at_call 16; refine (HTB _).out.mono ?_; rintro e y4 ⟨rfl,hy4⟩)
         refine hK _ _ (fun _ h=>afs_step h hy4) ?_
         clear hK K
         have HY4:=Lib.hid (((Ext.refl W1).drewR.trans' hy3).trans' hy4)
         clear hy3 hy4
         refine pi_t 16 rfl (by kernel_rfl) (by kernel_rfl) (fun _ _ _ _ h=>h) (fun K hK=>?_)
         go_big_quiet_op
         refine hK _ ?_
         clear hK K
         refine pi_l 17 rfl (by kernel_rfl) (fun K hK=>?_)
         go_wp2_with (go_at_call 15; refine ((HP.out.ext (HX1.out.trans' HY4.out)).ask HLP.out).mono ?_; rintro e w11 ⟨rfl,l11,hq11⟩; rw [HRP.out])
         have hM11:Mod S3 W1 w11:=by rw [← HSS3.out]; exact (HY4.out.mod _).trans hq11.md
         refine hK _ _ (fun _ _=>⟨⟨_,hM11⟩,rfl⟩) ?_
         clear hK K
         refine pi_t 18 rfl (by kernel_rfl) (by kernel_rfl) (fun _ _ _ _ h=>h) (fun K hK=>?_)
         go_big_quiet_op
         refine hK _ ?_
         clear hK K
         refine pi_t 19 rfl (by kernel_rfl) (by kernel_rfl) (fun _ _ _ _ h=>h) (fun K hK=>?_)
         go_big_quiet_op
         refine hK _ ?_
         clear hK K
         refine pi_t 20 rfl (by kernel_rfl) (by kernel_rfl) (fun _ _ _ _ h=>h) (fun K hK=>?_)
         go_big_quiet_op
         refine hK _ ?_
         clear hK K
         refine pi_t 21 rfl (by kernel_rfl) (by kernel_rfl) (fun _ _ _ _ h=>h) (fun K hK=>?_)
         go_big_quiet_op
         refine hK _ ?_
         clear hK K
         refine pi_t 22 rfl (by kernel_rfl) (by kernel_rfl) (fun _ _ _ _ h=>h) (fun K hK=>?_)
         go_big_quiet_op
         refine hK _ ?_
         clear hK K
         refine pi_end (by kernel_rfl) ?_
         have hxy:=HX1.out.trans' HY4.out
         have HB11:=Lib.hid (Below.trans (Below.trans HB.out (HP.out.below_ext hxy)) ((HP.out.ext hxy).ag.below hq11.md))
         have HP11:=Lib.hid hq11.at_
         have ob:=(hM11.block _ ol nS5).trans HB1.out
         have o0:=(cell_of ob 0).trans rfl
         have o1:=(cell_of ob 1).trans rfl
         have ol:=lt_of ob
         have HMM:=fun W (hx:Ext w11 W)=>Lib.hid (TMass_c (HP11.out.ext hx).tw h hh3 t' (by omega) ix (by unfold U64; omega))
         rw [HMS.out,← HTMT.out] at HMM
         clear hM11 hq11 hC0 hp1 nS4 nS5 hcp za zb hxy ob
         go_wp2_with fail
         refine Calls.mono (HNP _).out ?_
         rintro e w12 ⟨rfl,rfl⟩
         go_wp2_with fail
         refine Calls.mono (HMM _ (Ext.refl _)).out ?_
         rintro e w13 ⟨rfl,hx13⟩
         have HP13:=Lib.hid (HP11.out.ext hx13)
         have HB13:=Lib.hid (Below.trans HB11.out (HP11.out.below_ext hx13))
         clear hx13
         go_wp2
         go_roundw
         case rel=>exact ⟨t',tm,ov + n - ms,l11,by omega,HTMT.out,rfl,by rfl,by rw [HOV.out,HOV'.out]; omega,HP13.out,HB13.out⟩
         case measure=>simp [intOf]; omega
end Go.Proofs.YtmalncfcgcebhaaGreatDoor
namespace Go.Proofs.YtmalncfcgcebhaaGreatDoor
set_option linter.unusedVariables false
open Go.ChangeShapes Go.WideShapes Go.ChangeAt Go.RowKit Go.Deep
theorem wf_u64 {x:Int} (h:(Lit.int IntKind.u64 x).wf = true):U64 x:=by
 have:=bounds_u64 h
 exact ⟨this.1,by omega⟩
theorem wf_i64 {x:Int} (h:(Lit.int IntKind.i64 x).wf = true):I64 x:=by
 have:=bounds_i64 h
 exact ⟨this.1,by omega⟩
section
variable {H:Type} {enc:TypeId × Value → H} {w:World} {base:Nat} {spare:Nat → Bool} {held:Bool}
set_option maxRecDepth 100000 in
theorem cfg_of {n:Nat} {cs:List Value} {y:DataW H × List MemPlace} (h:DataW.trod enc Tryz.prog w base spare held n 24 cs = some y) :
 ∃ C:Cfg,C.Raw ∧ cs = [.int .i64 C.bits,.int .i64 C.rows,.int .i64 C.width,.int .i64 C.mode,.int .u64 C.seed]:=by
 obtain ⟨xs,n,_,_,hl,hx,hg⟩:=DataW.trod_struct Tryz.underlying24 h
 have hl':cs.length = 5:=hl.trans (by kernel_rfl)
 match cs,hl' with
 | [c0,c1,c2,c3,c4],_ =>
   have hx':xs.length = 5:=hx.trans (by kernel_rfl)
   match xs,hx' with
   | [x0,x1,x2,x3,x4],_ =>
     have e0:DataW.trod enc Tryz.prog w base spare held n 3 [c0] = some x0:=hg 0 _ rfl
     have e1:DataW.trod enc Tryz.prog w base spare held n 3 [c1] = some x1:=hg 1 _ rfl
     have e2:DataW.trod enc Tryz.prog w base spare held n 3 [c2] = some x2:=hg 2 _ rfl
     have e3:DataW.trod enc Tryz.prog w base spare held n 3 [c3] = some x3:=hg 3 _ rfl
     have e4:DataW.trod enc Tryz.prog w base spare held n 22 [c4] = some x4:=hg 4 _ rfl
     obtain ⟨a0,h0,_,w0⟩:=DataW.trod_int Tryz.underlying3 e0
     obtain ⟨a1,h1,_,w1⟩:=DataW.trod_int Tryz.underlying3 e1
     obtain ⟨a2,h2,_,w2⟩:=DataW.trod_int Tryz.underlying3 e2
     obtain ⟨a3,h3,_,w3⟩:=DataW.trod_int Tryz.underlying3 e3
     obtain ⟨a4,h4,_,w4⟩:=DataW.trod_int Tryz.underlying22 e4
     simp only [List.cons.injEq,and_true] at h0 h1 h2 h3 h4
     exact ⟨⟨a0,a1,a2,a3,a4⟩,⟨wf_i64 w0,wf_i64 w1,wf_i64 w2,wf_i64 w3,wf_u64 w4⟩,by rw [h0,h1,h2,h3,h4]⟩
theorem add_plain0 (b off i:Nat):(Addr.add ⟨b,off,none⟩ i) = ⟨b,off + i,none⟩:=by
 unfold Addr.add
 by_cases h:i = 0
 · subst h; simp
 · simp [h]
theorem choose_list {α:Type} (P:Nat → α → Prop):∀ n,(∀ i,i < n → ∃ x,P i x) → ∃ l:List α,l.length = n ∧ ∀ i (h:i < l.length),P i l[i]:=by
 intro n
 induction n with
 | zero=>intro _; exact ⟨[],rfl,fun i h=>by simp at h⟩
 | succ n ih =>
   intro h
   obtain ⟨l,hl,hP⟩:=ih (fun i hi=>h i (by omega))
   obtain ⟨x,hx⟩:=h n (by omega)
   refine ⟨l ++ [x],by simp [hl],fun i hi=>?_⟩
   by_cases e:i < l.length
   · rw [List.getElem_append_left e]; exact hP i e
   · have:i = n:=by simp at hi; omega
     subst this
     rw [List.getElem_append_right (by omega)]
     simp [hl,hx]
theorem reach_of {ts:List TypeId} {ds:List (DataW H)} {j:Nat} {t:TypeId} {d:DataW H} (hsz:(DataW.weightsEach Tryz.prog ts ds).all (· ≤ reachBytes) = true) (ht:ts[j]? = some t) (hd:ds[j]? = some d) {n:Nat} (hn:n ∈ d.weights Tryz.prog t):n ≤ reachBytes:=by
 have:=List.all_eq_true.1 hsz _ (DataW.weights_mem_each ht hd n hn)
 simpa using this
end
end Go.Proofs.YtmalncfcgcebhaaGreatDoor
namespace Go.Proofs.YtmalncfcgcebhaaGreatDoor
set_option linter.unusedVariables false
open Go.ChangeShapes Go.WideShapes Go.ChangeAt Go.RowKit Go.Deep
theorem own:ownKnob Tryz.prog.godebug = none:=by kernel_rfl
theorem laidOut:laidOutB Tryz.prog = true:=by kernel_rfl
section
variable {H:Type} {enc:TypeId × Value → H} {w:World} {held:Bool}
set_option maxRecDepth 100000 in
theorem cfgarg_of {r:Reach} {b0:Nat} {v:Value} {d:DataW H} {p:List MemPlace} (hv:Value.okWide Tryz.prog w r b0 24 v) (h:DataW.Trod enc Tryz.prog w 0 (fun _=>true) held 24 v d p) :
 ∃ (x:Cfg),x.Raw ∧ v = .agg #[.int .i64 x.bits,.int .i64 x.rows,.int .i64 x.width,.int .i64 x.mode,.int .u64 x.seed]:=by
 obtain ⟨cs,rfl,hsz⟩:=okWide_struct Tryz.underlying24 hv
 obtain ⟨fuel,hf⟩:=h
 obtain ⟨l⟩:=cs
 obtain ⟨x,hxr,hc⟩:=cfg_of hf
 have hc':l = _:=hc
 subst hc'
 exact ⟨x,hxr,rfl⟩
end
end Go.Proofs.YtmalncfcgcebhaaGreatDoor
namespace Go.Proofs.YtmalncfcgcebhaaGreatDoor
set_option linter.unusedVariables false
open Go.ChangeShapes Go.WideShapes Go.ChangeAt Go.RowKit Go.Deep
section
variable {H:Type} {enc:TypeId × Value → H} {w:World} {held:Bool}
set_option maxRecDepth 100000 in
theorem opT5_of {spare:Nat → Bool} {base n:Nat} {cs:List Value} {y:DataW H × List MemPlace} (h:DataW.trod enc Tryz.prog w base spare held n 102 cs = some y) :
 ∃ u:Opn5,(I64 u.1 ∧ I64 u.2.1 ∧ I64 u.2.2.1 ∧ U64 u.2.2.2.1 ∧ I64 u.2.2.2.2) ∧ cs = [.int .i64 u.1,.int .i64 u.2.1,.int .i64 u.2.2.1,.int .u64 u.2.2.2.1,.int .i64 u.2.2.2.2]:=by
 obtain ⟨xs,n,_,_,hl,hx,hg⟩:=DataW.trod_struct Tryz.underlying102 h
 have hl':cs.length = 5:=hl.trans (by kernel_rfl)
 match cs,hl' with
 | [c0,c1,c2,c3,c4],_ =>
   have hx':xs.length = 5:=hx.trans (by kernel_rfl)
   match xs,hx' with
   | [x0,x1,x2,x3,x4],_ =>
     have e0:DataW.trod enc Tryz.prog w base spare held n 3 [c0] = some x0:=hg 0 _ rfl
     have e1:DataW.trod enc Tryz.prog w base spare held n 3 [c1] = some x1:=hg 1 _ rfl
     have e2:DataW.trod enc Tryz.prog w base spare held n 3 [c2] = some x2:=hg 2 _ rfl
     have e3:DataW.trod enc Tryz.prog w base spare held n 22 [c3] = some x3:=hg 3 _ rfl
     have e4:DataW.trod enc Tryz.prog w base spare held n 2 [c4] = some x4:=hg 4 _ rfl
     obtain ⟨a0,h0,_,w0⟩:=DataW.trod_int Tryz.underlying3 e0
     obtain ⟨a1,h1,_,w1⟩:=DataW.trod_int Tryz.underlying3 e1
     obtain ⟨a2,h2,_,w2⟩:=DataW.trod_int Tryz.underlying3 e2
     obtain ⟨a3,h3,_,w3⟩:=DataW.trod_int Tryz.underlying22 e3
     obtain ⟨a4,h4,_,w4⟩:=DataW.trod_int Tryz.underlying2 e4
     simp only [List.cons.injEq,and_true] at h0 h1 h2 h3 h4
     exact ⟨(a0,a1,a2,a3,a4),⟨wf_i64 w0,wf_i64 w1,wf_i64 w2,wf_u64 w3,wf_i64 w4⟩,by rw [h0,h1,h2,h3,h4]⟩
set_option maxRecDepth 100000 in
theorem opsT5arg_of {r:Reach} {b0:Nat} {v:Value} {d:DataW H} {p:List MemPlace} (hv:Value.okWide Tryz.prog w r b0 25 v) (h:DataW.Trod enc Tryz.prog w 0 (fun _=>true) held 25 v d p) :
 ∃ (os:List Opn5),Ops5Ok os ∧ Ops5At w v os ∧
   ∀ (ts:List TypeId) (ds:List (DataW H)) (j:Nat),(DataW.weightsEach Tryz.prog ts ds).all (· ≤ reachBytes) = true → ts[j]? = some 25 → ds[j]? = some d → os.length ≤ 140737488355328:=by
 obtain ⟨q,n,cap,rfl⟩:=okWide_slice Tryz.underlying25 hv
 obtain ⟨fuel,hf⟩:=h
 rcases open_slice Tryz.underlying25 hf with ⟨hcs,_⟩ | ⟨a,len,cap',m,n',D,Pl,hcs,_,hlc,hcm,hm,hx,hi⟩
 · have hcs':[Value.slice q n cap] = [Value.slice none 0 0]:=hcs
   simp only [List.cons.injEq,and_true,Value.slice.injEq] at hcs'
   obtain ⟨rfl,rfl,rfl⟩:=hcs'
   exact ⟨[],(by intro u hu; cases hu),.inl ⟨⟨_,rfl⟩,rfl⟩,fun _ _ _ _ _ _=>Nat.zero_le _⟩
 · have hcs':[Value.slice q n cap] = [Value.slice (some a) len cap']:=hcs
   simp only [List.cons.injEq,and_true,Value.slice.injEq] at hcs'
   obtain ⟨rfl,rfl,rfl⟩:=hcs'
   simp only [if_true] at hm
   rw [hm] at hi hx
   clear hm
   have hC:Tryz.prog.cellsOf 102 = 5:=by kernel_rfl
   rw [hC] at hi
   have key:∀ i,i < n → ∃ u:Opn5,(I64 u.1 ∧ I64 u.2.1 ∧ I64 u.2.2.1 ∧ U64 u.2.2.2.1 ∧ I64 u.2.2.2.2) ∧ w.cell? (a.add (i * 5)) = some (.int .i64 u.1) ∧ w.cell? (a.add (i * 5 + 1)) = some (.int .i64 u.2.1) ∧ w.cell? (a.add (i * 5 + 2)) = some (.int .i64 u.2.2.1) ∧ w.cell? (a.add (i * 5 + 3)) = some (.int .u64 u.2.2.2.1) ∧ w.cell? (a.add (i * 5 + 4)) = some (.int .i64 u.2.2.2.2):=by
    intro i hil
    obtain ⟨cs',hc,ht⟩:=hi i (by omega)
    obtain ⟨u,hu,rfl⟩:=opT5_of ht
    obtain ⟨_,_,hat⟩:=World.cells?_some hc
    refine ⟨u,hu, ?_, ?_, ?_, ?_, ?_⟩
    · have:=hat 0 (by omega); rw [add_add,Nat.add_zero] at this; exact this
    · have:=hat 1 (by omega); rw [add_add] at this; exact this
    · have:=hat 2 (by omega); rw [add_add] at this; exact this
    · have:=hat 3 (by omega); rw [add_add] at this; exact this
    · have:=hat 4 (by omega); rw [add_add] at this; exact this
   obtain ⟨us,hul,hus⟩:=choose_list _ n key
   by_cases h0:cap = 0
   · have hl0:n = 0:=by omega
     subst hl0 h0
     obtain rfl:us = []:=List.length_eq_zero_iff.1 hul
     exact ⟨[],(by intro u hu; cases hu),.inl ⟨⟨_,rfl⟩,rfl⟩,fun _ _ _ _ _ _=>Nat.zero_le _⟩
   · obtain ⟨cs',hc,ht⟩:=hi 0 (by omega)
     obtain ⟨u,_,rfl⟩:=opT5_of ht
     obtain ⟨_,_,hat⟩:=World.cells?_some hc
     have h1:=hat 0 (by omega)
     obtain ⟨b,off,spot⟩:=a
     have hspot:spot = none:=by simpa [Addr.add] using World.cell?_spot h1
     subst hspot
     have hb:b < w.heap.size:=by
      rcases Nat.lt_or_ge b w.heap.size with h' | h'
      · exact h'
      · simp [World.cell?,Addr.add,Array.getElem?_eq_none h'] at h1
     refine ⟨us, ?_,.inr ⟨b,off,cap,by rw [hul],hb,fun k hk=>?_⟩,fun ts ds j hs ht hj=>?_⟩
     · intro u hu
       obtain ⟨i,hi',rfl⟩:=List.getElem_of_mem hu
       exact (hus i hi').1
     · have:=(hus k hk).2
       have hg:us.getD k (0,0,0,0,0) = us[k]:=by simp [hk]
       rw [hg]
       rw [add_plain0,add_plain0,add_plain0,add_plain0,add_plain0] at this
       simpa only [Nat.add_assoc] using this
     · have hb:Tryz.prog.bytesOf 102 = 40:=by kernel_rfl
       simp only [Prod.mk.injEq] at hx
       have h2:=hx.1
       subst h2
       have:=reach_of hs ht hj (by
        simp [DataW.weights,DataW.weightsEach,Tryz.underlying25]
        exact .inl rfl)
       rw [hb] at this
       simp only [reachBytes,List.length_map,List.length_take,List.length_drop,List.length_range] at this
       omega
set_option maxRecDepth 100000 in
theorem t2i64_of {r:Reach} {b0:Nat} {v:Value} {d:DataW H} {p:List MemPlace} (hv:Value.okWide Tryz.prog w r b0 97 v) (h:DataW.Trod enc Tryz.prog w 0 (fun _=>true) held 97 v d p) :
 ∃ (a0 a1:Int),I64 a0 ∧ I64 a1 ∧ v = .agg #[.int .i64 a0,.int .i64 a1]:=by
 have hv':∃ cs,v = .agg cs ∧ cs.size = 2:=by
  simp only [Value.okWide,Tryz.underlying97] at hv
  obtain ⟨cs,h1,h2,_⟩:=hv
  exact ⟨cs,h1,h2.trans (by kernel_rfl)⟩
 obtain ⟨cs,rfl,hsz⟩:=hv'
 obtain ⟨fuel,hf⟩:=h
 obtain ⟨l⟩:=cs
 obtain ⟨xs,m,_,_,_,hl,hel⟩:=DataW.trod_array Tryz.underlying97 hf
 match l,hsz with
 | [c0,c1],_ =>
   match xs,hl with
   | [x0,x1],_ =>
     have hC:Tryz.prog.cellsOf 2 = 1:=by kernel_rfl
     have e0:DataW.trod enc Tryz.prog w 0 (fun _=>true) held m 2 [c0] = some x0:=by have:=hel 0 (by decide); rw [hC] at this; exact this
     have e1:DataW.trod enc Tryz.prog w 0 (fun _=>true) held m 2 [c1] = some x1:=by have:=hel 1 (by decide); rw [hC] at this; exact this
     obtain ⟨b0,h0,_,w0⟩:=DataW.trod_int Tryz.underlying2 e0
     obtain ⟨b1,h1,_,w1⟩:=DataW.trod_int Tryz.underlying2 e1
     simp only [List.cons.injEq,and_true] at h0 h1
     subst h0 h1
     exact ⟨b0,b1,wf_i64 w0,wf_i64 w1,rfl⟩
end
end Go.Proofs.YtmalncfcgcebhaaGreatDoor
namespace Go.Proofs.YtmalncfcgcebhaaGreatDoor
set_option linter.unusedVariables false
open Go.Proofs Go.RowKit
set_option maxRecDepth 100000
def laid7 : List (String × DataW Unit) := [("math/bits.deBruijn32tab", Rows.laid_math_bits_deBruijn32tab), ("math/bits.deBruijn64tab", Rows.laid_math_bits_deBruijn64tab), ("internal/strconv.uint64pow10", Rows.laid_internal_strconv_uint64pow10), ("unicode/utf8.acceptRanges", Rows.laid_unicode_utf8_acceptRanges), ("strconv.ErrRange", Rows.laid_strconv_ErrRange), ("strconv.ErrSyntax", Rows.laid_strconv_ErrSyntax), ("unicode/utf8.first", Rows.laid_unicode_utf8_first)]
theorem first_is:Rows.laid_unicode_utf8_first = Lib.firstData:=by kernel_rfl
theorem accept_is:(Rows.laid_unicode_utf8_acceptRanges:DataW Unit) = Lib.acceptData:=by kernel_rfl
theorem pow_is:(Rows.laid_internal_strconv_uint64pow10:DataW Unit) = Lib.tabData .u64 Lib.pow10Tab:=by kernel_rfl
theorem g_pow : Tryz.prog.globalNamed "internal/strconv.uint64pow10" = some 4 := by kernel_rfl
theorem t_pow:(Tryz.prog.globals[4]?).map (·.type) = some 364:=by kernel_rfl
theorem g_first : Tryz.prog.globalNamed "unicode/utf8.first" = some 2 := by kernel_rfl
theorem t_first:(Tryz.prog.globals[2]?).map (·.type) = some 329:=by kernel_rfl
theorem g_acc : Tryz.prog.globalNamed "unicode/utf8.acceptRanges" = some 3 := by kernel_rfl
theorem t_acc:(Tryz.prog.globals[3]?).map (·.type) = some 332:=by kernel_rfl
theorem g_syn : Tryz.prog.globalNamed "strconv.ErrSyntax" = some 8 := by kernel_rfl
theorem t_syn:(Tryz.prog.globals[8]?).map (·.type) = some 199:=by kernel_rfl
theorem g_rng : Tryz.prog.globalNamed "strconv.ErrRange" = some 9 := by kernel_rfl
theorem t_rng:(Tryz.prog.globals[9]?).map (·.type) = some 199:=by kernel_rfl
theorem star : "*errors.errorString" = "*" ++ "errors.errorString" := rfl
theorem es_row : ∀ u, Tryz.prog.typeName? 3 u = some "*errors.errorString" → u = 410 := fun u h =>
 typeName_ptr_named (nm := "errors.errorString") (by rw [← star]; kernel_rfl) (by kernel_rfl) (by decide) u (by rw [← star]; exact h)
theorem sent_cell {n : String} {text : List UInt8} {r : List (String × DataW Unit)} {W : World} {g : Nat} (h : laidMet Tryz.prog ((n, .iface "*errors.errorString" (.ptr (.agg [.lit (.string text)]))) :: r) W)
 (hg:Tryz.prog.globalNamed n = some g) (ht:(Tryz.prog.globals[g]?).map (·.type) = some 199):∃ te pe,W.cell? ⟨g,0,none⟩ = some (.iface te pe):=by
 obtain ⟨a,s,hv,_⟩:=laid_sentinel h hg ht Tryz.underlying199 es_row Tryz.underlying410 Tryz.underlying412 rfl rfl Tryz.underlying9 (by kernel_rfl) (by kernel_rfl)
 exact ⟨_,_,(World.var?_cell hg hv 0).trans rfl⟩
theorem tabs_laid {W:World} (h:laidMet Tryz.prog laid7 W):Tabs W:=by
 refine ⟨?_,⟨fun c hc=>?_,fun i hi=>?_⟩, ?_, ?_⟩
 · have hr : Lib.VarReads Tryz.prog W "internal/strconv.uint64pow10" (Lib.tabData .u64 Lib.pow10Tab) := by
    rw [← pow_is]; exact Lib.laidMet.reads h (by unfold laid7; simp)
   obtain ⟨g,t,cs,fuel,p,hg,hty,hvar,hd⟩:=hr
   obtain rfl:=Option.some.inj (g_pow.symm.trans hg)
   obtain rfl:=Option.some.inj (t_pow.symm.trans hty)
   unfold Lib.TabIs
   rw [hvar,← Lib.cells_of_tab Tryz.underlying364 Tryz.underlying22 (by kernel_rfl) (by kernel_rfl) hd]
 · have hr : Lib.VarReads Tryz.prog W "unicode/utf8.first" Lib.firstData := by
    rw [← first_is]; exact Lib.laidMet.reads h (by unfold laid7; simp)
   obtain ⟨g,t,cs,fuel,p,hg,hty,hvar,hd⟩:=hr
   obtain rfl:=Option.some.inj (g_first.symm.trans hg)
   obtain rfl:=Option.some.inj (t_first.symm.trans hty)
   have hcs:=Lib.cells_of_tab Tryz.underlying329 Tryz.underlying5 (by kernel_rfl) (by kernel_rfl) hd
   have:=World.var?_cell hg hvar c
   rw [this,← Array.getElem?_toList,hcs]
   simp [Lib.firstTab,hc]
 · have hr : Lib.VarReads Tryz.prog W "unicode/utf8.acceptRanges" Lib.acceptData := by
    rw [← accept_is]; exact Lib.laidMet.reads h (by unfold laid7; simp)
   obtain ⟨g,t,cs,fuel,p,hg,hty,hvar,hd⟩:=hr
   obtain rfl:=Option.some.inj (g_acc.symm.trans hg)
   obtain rfl:=Option.some.inj (t_acc.symm.trans hty)
   obtain ⟨fuel',d,q,hdi,he⟩:=Lib.array_elem Tryz.underlying332 hd i hi
   simp only [List.getElem?_map,List.getElem?_range hi,Option.map_some,Option.some.injEq] at hdi
   subst hdi
   have c2:Tryz.prog.cellsOf 331 = 2:=by kernel_rfl
   have c1:Tryz.prog.cellsOf 5 = 1:=by kernel_rfl
   rw [c2] at he
   have hcs:=Lib.ints_of_struct Tryz.underlying331 (fun j f hj=>by
    match j,hj with
    | 0,hj=>simp at hj; subst hj; exact ⟨Tryz.underlying5,rfl,c1⟩
    | 1,hj=>simp at hj; subst hj; exact ⟨Tryz.underlying5,rfl,c1⟩
    | j + 2,hj=>simp at hj) (by rw [c2]; rfl) he
   have e0:=congrArg (·[0]?) hcs
   have e1:=congrArg (·[1]?) hcs
   simp only [List.getElem?_take,List.getElem?_drop] at e0 e1
   constructor
   · rw [World.var?_cell hg hvar (2 * i),← Array.getElem?_toList]
     simpa [Nat.mul_comm] using e0
   · rw [World.var?_cell hg hvar (2 * i + 1),← Array.getElem?_toList]
     simpa [Nat.mul_comm] using e1
 · exact sent_cell (laidMet.tail (laidMet.tail (laidMet.tail (laidMet.tail (laidMet.tail h))))) g_syn t_syn
 · exact sent_cell (laidMet.tail (laidMet.tail (laidMet.tail (laidMet.tail h)))) g_rng t_rng
end Go.Proofs.YtmalncfcgcebhaaGreatDoor
namespace Go.Proofs.YtmalncfcgcebhaaGreatDoor
set_option linter.unusedVariables false
open Go.ChangeShapes Go.WideShapes Go.ChangeAt Go.RowKit
theorem topQuantile_laid:Rows.topQuantileRow.laid = laid7:=rfl
theorem topQuantile_met (os:Os) (args:Array Value):laidMetH Tryz.prog Rows.topQuantileRow.laid ((World.laidAll Tryz.prog os Rows.topQuantileRow.laid).forCall (fun _ _=>0) ⟨#[],args,[]⟩).memory:=by
 rw [MakeChecks.laidMetH_plain _ _ _ (by kernel_rfl)]
 exact laidMet_laidAll _ (by kernel_rfl) (by kernel_rfl)
set_option maxRecDepth 100000 in
theorem topQuantile_lifted (os:Os) (started:os.Started) (H:Type) (enc:TypeId × Value → H) :
 ReturnsInHanded {} Tryz.checked os 11 .any (fun w args=>(Rows.topQuantileSpec.pre enc Tryz.prog Tryz.f11 [] false w args ∧ laidMetH Tryz.prog Rows.topQuantileRow.laid w) ∧ sizedMet enc Tryz.prog Tryz.f11 (OpenSpec.ofChange Rows.topQuantileSpec) false w args)
  (Rows.topQuantileSpec.post enc Tryz.prog Tryz.f11 false true false false):=by
 refine returnsInHanded_of_change_and (C:=Tryz.checked) (X:=fun w _=>laidMetH Tryz.prog Rows.topQuantileRow.laid w) (fun _ _ _ hh h=>h.of_heap hh) own started (by kernel_rfl) Tryz.func11
  (ChangeSpec.witness_shaped (enc:=enc) (C:=Tryz.checked) (os:=os) (X:=fun w _=>laidMetH Tryz.prog Rows.topQuantileRow.laid w) false (World.laidAll Tryz.prog os Rows.topQuantileRow.laid) #[.agg #[.int .i64 0,.int .i64 0,.int .i64 0,.int .i64 0,.int .u64 0],.slice none 0 0,.agg #[.int .i64 0,.int .i64 0]] 8 (World.laidAll_os _ _ _)
   (World.shaped_of_ZipB (by kernel_rfl) (by kernel_rfl)) (by kernel_rfl) (by kernel_rfl) (by kernel_rfl) (topQuantile_met os _)) ?_
 intro W base args ds gs before hval0 hW _ hsz0 hL _
 have hval:∀ (j:Nat) t v,Tryz.f11.params[j]? = some t → args[j]? = some v → Value.okWide Tryz.prog W .any base t v:=hval0
 have hW':=hW
 obtain ⟨p,q,hA0,hV,rfl,hfz,hnd⟩:=hW
 have hA:DataW.TrodAll enc Tryz.prog W 0 (fun _=>true) true Tryz.f11.params.toList args.toList ds p:=hA0
 have hsz:(DataW.weightsEach Tryz.prog (Tryz.f11.params.toList ++ Rows.topQuantileSpec.plain.varTypes Tryz.prog) (ds ++ gs)).all (· ≤ reachBytes) = true:=hsz0
 rw [Tryz.params11] at hA hval hsz
 obtain ⟨v0,vs0,d0,ds0,p0,q0,hargs,rfl,rfl,h0,r0⟩:=trodAll_cons hA
 obtain ⟨v1,vs1,d1,ds1,p1,q1,rfl,rfl,rfl,h1,r1⟩:=trodAll_cons r0
 obtain ⟨v2,vs2,d2,ds2,p2,q2,rfl,rfl,rfl,h2,r2⟩:=trodAll_cons r1
 obtain ⟨rfl,rfl,rfl⟩:=trodAll_nil r2
 obtain rfl:args = #[v0,v1,v2]:=by cases args; simp_all
 obtain ⟨rfl,rfl⟩:=trodVars_none hV
 have k0:=h0
 have k1:=h1
 have k2:=h2
 have lt0:∀ x ∈ p0,x.block < W.heap.size:=by obtain ⟨m,hm⟩:=k0; exact DataW.trod_lt m _ _ _ hm
 have lt1:∀ x ∈ p1,x.block < W.heap.size:=by obtain ⟨m,hm⟩:=k1; exact DataW.trod_lt m _ _ _ hm
 have lt2:∀ x ∈ p2,x.block < W.heap.size:=by obtain ⟨m,hm⟩:=k2; exact DataW.trod_lt m _ _ _ hm
 obtain ⟨x0,hx0,rfl⟩:=cfgarg_of (hval 0 _ v0 rfl rfl) h0
 obtain ⟨os1,hos1,hat1,hr1⟩:=opsT5arg_of (hval 1 _ v1 rfl rfl) h1
 have hul1:=hr1 _ _ 1 hsz rfl rfl
 obtain ⟨a2x0,a2x1,ha2x0,ha2x1,rfl⟩:=t2i64_of (hval 2 _ v2 rfl rfl) h2
 rw [MakeChecks.laidMetH_plain _ _ _ (by kernel_rfl),topQuantile_laid] at hL
 have hT:=tabs_laid hL
 clear hA0 hval0
 refine (QuanTop_c x0 hx0 os1 hos1 v1 a2x0 a2x1 ha2x0 ha2x1 W hat1 hul1 hT).mono fun e W' ⟨he,bel⟩=>?_
 subst he
 exact ⟨_,rfl,_,_,_,[],_,[],hW',trodAll_mk1 (shut_bool Tryz.underlying4 _),(trodAll_cons_mk (Below.trod laidOut (by kernel_rfl) (of_decide_eq_true (by kernel_rfl)) k0 bel lt0) (trodAll_cons_mk (Below.trod laidOut (by kernel_rfl) (of_decide_eq_true (by kernel_rfl)) k1 bel lt1) (trodAll_cons_mk (Below.trod laidOut (by kernel_rfl) (of_decide_eq_true (by kernel_rfl)) k2 bel lt2) trodAll_mk0))),rfl,bel.frame _,fun h=>by cases h⟩
end Go.Proofs.YtmalncfcgcebhaaGreatDoor
