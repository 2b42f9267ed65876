/- Part. No condition. -/
import Derived.Test.YtmalncfcgcebhaaGreatDoorDTopHeavy5
import Derived.Test.YtmalncfcgcebhaaGreatDoorDTopHeavy1
import Derived.Test.YtmalncfcgcebhaaGreatDoorDTopHeavy2
import Derived.Test.YtmalncfcgcebhaaGreatDoorDTopHeavy3
import Derived.Test.YtmalncfcgcebhaaGreatDoorDTopHeavy4
import Derived.Maps.OwnSet
import Derived.Maps.OwnOps
import Derived.Maps.RangeWalk
import Derived.Laws.EntriesVeiled
import Derived.WalkMore
namespace Go.Proofs.YtmalncfcgcebhaaGreatDoor
set_option linter.unusedVariables false
open Go.Proofs Go.RowKit
def cmdR (W:List (ByteArray × Nat)) (E:Nat):Option Cmd × Nat × Option Nat :=
 let v:=(nextT W 0 none).toList
 if v=[99,114,101,97,116,101] then (some (.create (numsF W E 1 none 0) (numsF W E 1 none 1) (numsF W E 1 none 2) (numsF W E 1 none 3) ((numsF W E 1 none 4) % 18446744073709551616)),(numsS W E 1 none 5).1,(numsS W E 1 none 5).2) else
 if v=[119,105,110,100,111,119] then (some (.window (numsF W E 1 none 0) (numsF W E 1 none 1) (numsF W E 1 none 2) ((numsF W E 1 none 3) % 18446744073709551616) (numsF W E 1 none 4)),(numsS W E 1 none 5).1,(numsS W E 1 none 5).2) else
 if v=[97,100,100] then (some (.add (addR W E 1 none).1.1 (addR W E 1 none).1.2.1 (addR W E 1 none).1.2.2.1 (addR W E 1 none).1.2.2.2.1 (addR W E 1 none).1.2.2.2.2),(addR W E 1 none).2.1,(addR W E 1 none).2.2) else
 if v=[116,105,99,107] then (some .tick,1,none) else
 if v=[116,111,116,97,108] then (some (.query ⟨#[116,111,116,97,108]⟩ (numR W E 1 none).1 []),(numR W E 1 none).2.1,(numR W E 1 none).2.2) else
 if v=[101,120,112,111,114,116] then (some (.query ⟨#[101,120,112,111,114,116]⟩ (numR W E 1 none).1 []),(numR W E 1 none).2.1,(numR W E 1 none).2.2) else
 if v=[100,114,111,112] then (some (.query ⟨#[100,114,111,112]⟩ (numR W E 1 none).1 []),(numR W E 1 none).2.1,(numR W E 1 none).2.2) else
 if v=[113,117,97,110,116,105,108,101] then (some (.query ⟨#[113,117,97,110,116,105,108,101]⟩ (numsF W E 1 none 0) [numsF W E 1 none 1]),(numsS W E 1 none 2).1,(numsS W E 1 none 2).2) else
 if v=[112,111,105,110,116] then (some (.query ⟨#[112,111,105,110,116]⟩ (numsF W E 1 none 0) [numsF W E 1 none 1,numsF W E 1 none 2]),(numsS W E 1 none 3).1,(numsS W E 1 none 3).2) else
 if v=[114,97,110,103,101] then (some (.query ⟨#[114,97,110,103,101]⟩ (numsF W E 1 none 0) [numsF W E 1 none 1,numsF W E 1 none 2]),(numsS W E 1 none 3).1,(numsS W E 1 none 3).2) else
 if v=[104,101,97,118,121] then (some (.query ⟨#[104,101,97,118,121]⟩ (numsF W E 1 none 0) [numsF W E 1 none 1,numsF W E 1 none 2]),(numsS W E 1 none 3).1,(numsS W E 1 none 3).2) else
 if v=[105,110,110,101,114] then (some (.pair ⟨#[105,110,110,101,114]⟩ (numsF W E 1 none 0) (numsF W E 1 none 1)),(numsS W E 1 none 2).1,(numsS W E 1 none 2).2) else
 if v=[109,101,114,103,101] then (some (.pair ⟨#[109,101,114,103,101]⟩ (numsF W E 1 none 0) (numsF W E 1 none 1)),(numsS W E 1 none 2).1,(numsS W E 1 none 2).2) else
 if v=[115,117,98,116,114,97,99,116] then (some (.pair ⟨#[115,117,98,116,114,97,99,116]⟩ (numsF W E 1 none 0) (numsF W E 1 none 1)),(numsS W E 1 none 2).1,(numsS W E 1 none 2).2) else
 if v=[105,109,112,111,114,116] then (some (impR W E).1,(impR W E).2.1,(impR W E).2.2) else
 (none,0,failR W E 0 none)
def CmdOAt (base:Nat) (w:World) (v:Value):Option Cmd→Prop
 | none=>v=.nilIface
 | some c=>CmdAt base w v c
set_option maxHeartbeats 1000000 in
theorem RCmd_c (base r:Nat) (W:List (ByteArray × Nat)) (E:Nat) (w:World) (hT:Tabs w) (h:RdAt base w r W E 0 none) (hW:∀ p∈W,p.1.size≤100000000) (hl:W.length≤100000000) (hl0:0 < W.length) (hE:E≤100000000) :
 Calls Tryz.prog 80 #[.pointer (some ⟨r,0,none⟩)] w fun e w'=>(∃ v,e=.returned v∧CmdOAt base w' v (cmdR W E).1∧RdAt base w' r W E (cmdR W E).2.1 (cmdR W E).2.2)∧Mod (fun k=>k=r) w w':=by
 have e1:=(next_yes (E:=E) hl0).1
 unfold cmdR
 rw [e1]
 dsimp only
 by_cases c0:W[0].1.toList=[99,114,101,97,116,101]
 · rw [if_pos c0]
   exact RCmdCreate_c base r W E w hT h hW hl hl0 hE c0
 rw [if_neg c0]
 by_cases c1:W[0].1.toList=[119,105,110,100,111,119]
 · rw [if_pos c1]
   exact RCmdWindow_c base r W E w hT h hW hl hl0 hE c1
 rw [if_neg c1]
 by_cases c2:W[0].1.toList=[97,100,100]
 · rw [if_pos c2]
   exact RCmdAdd_c base r W E w hT h hW hl hl0 hE c2
 rw [if_neg c2]
 by_cases c3:W[0].1.toList=[116,105,99,107]
 · rw [if_pos c3]
   exact RCmdTick_c base r W E w hT h hW hl hl0 hE c3
 rw [if_neg c3]
 by_cases c4:W[0].1.toList=[116,111,116,97,108]
 · rw [if_pos c4]
   exact RCmdTotal_c base r W E w hT h hW hl hl0 hE c4
 rw [if_neg c4]
 by_cases c5:W[0].1.toList=[101,120,112,111,114,116]
 · rw [if_pos c5]
   exact RCmdExport_c base r W E w hT h hW hl hl0 hE c5
 rw [if_neg c5]
 by_cases c6:W[0].1.toList=[100,114,111,112]
 · rw [if_pos c6]
   exact RCmdDrop_c base r W E w hT h hW hl hl0 hE c6
 rw [if_neg c6]
 by_cases c7:W[0].1.toList=[113,117,97,110,116,105,108,101]
 · rw [if_pos c7]
   exact RCmdQuantile_c base r W E w hT h hW hl hl0 hE c7
 rw [if_neg c7]
 by_cases c8:W[0].1.toList=[112,111,105,110,116]
 · rw [if_pos c8]
   exact RCmdPoint_c base r W E w hT h hW hl hl0 hE c8
 rw [if_neg c8]
 by_cases c9:W[0].1.toList=[114,97,110,103,101]
 · rw [if_pos c9]
   exact RCmdRange_c base r W E w hT h hW hl hl0 hE c9
 rw [if_neg c9]
 by_cases c10:W[0].1.toList=[104,101,97,118,121]
 · rw [if_pos c10]
   exact RCmdHeavy_c base r W E w hT h hW hl hl0 hE c10
 rw [if_neg c10]
 by_cases c11:W[0].1.toList=[105,110,110,101,114]
 · rw [if_pos c11]
   exact RCmdInner_c base r W E w hT h hW hl hl0 hE c11
 rw [if_neg c11]
 by_cases c12:W[0].1.toList=[109,101,114,103,101]
 · rw [if_pos c12]
   exact RCmdMerge_c base r W E w hT h hW hl hl0 hE c12
 rw [if_neg c12]
 by_cases c13:W[0].1.toList=[115,117,98,116,114,97,99,116]
 · rw [if_pos c13]
   exact RCmdSubtract_c base r W E w hT h hW hl hl0 hE c13
 rw [if_neg c13]
 by_cases c14:W[0].1.toList=[105,109,112,111,114,116]
 · rw [if_pos c14]
   exact RCmdImport_c base r W E w hT h hW hl hl0 hE c14
 rw [if_neg c14]
 refine (RCmdNo_c base r W E w hT h hW hl hl0 hE ?_).mono ?_
 · unfold verbs
   simp only [List.mem_cons,List.not_mem_nil,or_false,not_or]
   exact ⟨c0,c1,c2,c3,c4,c5,c6,c7,c8,c9,c10,c11,c12,c13,c14⟩
 · rintro e w' ⟨⟨rfl,h1⟩,h2⟩
   exact ⟨⟨_,rfl,rfl,h1⟩,h2⟩
def wds (s:ByteArray):List (ByteArray × Nat):=(wordsS s).map fun p=>(s.extract p.1 p.2,p.1)
theorem wds_wordV (s:ByteArray):∀ l:List (Nat × Nat),wordV s l=wdV (l.map fun p=>(s.extract p.1 p.2,p.1))
 | []=>rfl
 | p :: l=>by
   show [.string (s.extract p.1 p.2),.int .i64 (p.1:Int)]++wordV s l=_
   rw [wds_wordV s l]
   rfl
theorem extract_size_le (s:ByteArray) (a b:Nat):(s.extract a b).size≤s.size:=by
 rw [Lib.size_eq,Lib.extract_data,List.length_take,List.length_drop,← Lib.size_eq]
 omega
theorem wds_size (s:ByteArray):∀ p∈wds s,p.1.size≤s.size:=by
 intro p hp
 obtain ⟨q,_,rfl⟩:=List.mem_map.1 hp
 exact extract_size_le s _ _
theorem wordsFrom_len (s:ByteArray):∀ (f a:Nat),a≤s.size→(wordsFrom s f a).length≤s.size - a
 | 0,_,_=>Nat.zero_le _
 | f+1,a,h=>by
   unfold wordsFrom
   by_cases ha:a < s.size
   · rw [if_pos ha]
     by_cases h32:s.data.toList.getD a 0=32
     · rw [if_pos h32]
       have:=wordsFrom_len s f (a+1) (by omega)
       omega
     · rw [if_neg h32,List.length_cons]
       have h1:=wordEnd_gt s a ha h32
       have h2:=(wordEnd_le s s.size _ (wordSkip_le s a ha).2.1).2
       have:=wordsFrom_len s f (wordEnd s s.size (wordSkip s a)) h2
       omega
   · rw [if_neg ha]; exact Nat.zero_le _
theorem wds_len (s:ByteArray):(wds s).length≤s.size:=by
 unfold wds wordsS
 rw [List.length_map]
 have:=wordsFrom_len s (s.size+1) 0 (Nat.zero_le _)
 omega
def badS (W:List (ByteArray × Nat)) (E:Nat):Option Nat :=
 match (cmdR W E).2.2 with
 | some b=>some b
 | none=>if (cmdR W E).2.1 < W.length then failR W E (cmdR W E).2.1 none else none
def parseS (s:ByteArray):Option Cmd × Int × Int :=
 if 65536 < s.size then (none,0,1)
 else if 0≤tornS s then (none,tornS s,13)
 else if wds s=[] then (none,0,0)
 else match badS (wds s) s.size with
  | some b=>(none,(b:Int),12)
  | none=>((cmdR (wds s) s.size).1,0,0)
theorem Tabs.size {w:World} (h:Tabs w):10≤w.heap.size:=by
 obtain ⟨te,pe,h1⟩:=h.rng
 exact lt_of_cell h1
def ParsePost (w:World) (R:Option Cmd × Int × Int) (e:Ending) (w':World):Prop :=
 (∃ v,e=.returned (.tuple #[v,.int .i64 R.2.1,.int .i64 R.2.2])∧CmdOAt w.heap.size w' v R.1)∧Ext w w'
end Go.Proofs.YtmalncfcgcebhaaGreatDoor
namespace Go.Proofs.YtmalncfcgcebhaaGreatDoor
set_option linter.unusedVariables false
open Go.Proofs Go.RowKit
theorem parse_long {s:ByteArray} (h:65536 < s.size):parseS s=(none,0,1):=by unfold parseS; rw [if_pos h]
theorem parse_torn {s:ByteArray} (h:¬ 65536 < s.size) (ht:0≤tornS s):parseS s=(none,tornS s,13):=by unfold parseS; rw [if_neg h,if_pos ht]
theorem parse_nil {s:ByteArray} (h:¬ 65536 < s.size) (ht:¬ 0≤tornS s) (hn:wds s=[]):parseS s=(none,0,0):=by unfold parseS; rw [if_neg h,if_neg ht,if_pos hn]
theorem parse_some {s:ByteArray} (h:¬ 65536 < s.size) (ht:¬ 0≤tornS s) (hn:wds s≠[]) {b:Nat} (hb:badS (wds s) s.size=some b):parseS s=(none,(b:Int),12):=by unfold parseS; rw [if_neg h,if_neg ht,if_neg hn,hb]
theorem parse_none {s:ByteArray} (h:¬ 65536 < s.size) (ht:¬ 0≤tornS s) (hn:wds s≠[]) (hb:badS (wds s) s.size=none):parseS s=((cmdR (wds s) s.size).1,0,0):=by unfold parseS; rw [if_neg h,if_neg ht,if_neg hn,hb]
theorem CmdOAt.ext {base:Nat} {w w':World} {v:Value} {c:Option Cmd} (h:CmdOAt base w v c) (hx:Ext w w'):CmdOAt base w' v c:=by
 cases c with
 | none=>exact h
 | some c =>
   cases c with
   | create=>exact h
   | window=>exact h
   | add=>exact h
   | tick=>exact h
   | pair=>exact h
   | query what hh l =>
     obtain ⟨s,h1,h2⟩:=h
     refine ⟨s,h1, ?_⟩
     rcases h2 with h2 | ⟨g,f,h3,h4,h5,h6⟩
     · exact .inl h2
     · exact .inr ⟨g,f,h3,h4,hx.keep h5,h6⟩
   | imp bs =>
     obtain ⟨s,h1,h2⟩:=h
     exact ⟨s,h1,own_ext h2 hx⟩
theorem ModN.ext {r B:Nat} {w w':World} (h:ModN r B w w') (hr:w.heap.size≤r) (hB:w.heap.size≤B):Ext w w' :=
 h.m.below (Nat.le_refl _) fun k hk=>by rcases hk with hk | hk <;> omega
set_option maxRecDepth 20000 in
set_option maxHeartbeats 8000000 in
theorem Parse_c (s:ByteArray) (hs:s.size≤100000000) (w:World) (hT:Tabs w) :
 Calls Tryz.prog 42 #[.string s] w (ParsePost w (parseS s)):=by
 by_cases hlg:65536 < s.size
 · rw [parse_long hlg]
   go_enter Tryz.func42,Tryz.ntmps42
   go_wp2
   go_ret3
   exact ⟨⟨_,rfl,rfl⟩,Ext.refl _⟩
 have HTO:=Lib.hid (Torn_c s (by omega) w hT)
 by_cases ht:0≤tornS s
 · rw [parse_torn hlg ht]
   generalize tornS s=tn at *
   go_enter Tryz.func42,Tryz.ntmps42
   go_wp2_with fail
   refine Calls.mono HTO.out ?_
   rintro e w1 ⟨rfl,hx1⟩
   go_wp2
   go_ret3
   exact ⟨⟨_,rfl,rfl⟩,hx1⟩
 have HWD:=fun w' h=>Lib.hid (Words_c s hs w' h)
 have hlen:=wds_len s
 have hwz:=wds_size s
 have hB:=hT.size
 have HPN:Hid (wds s=[]→parseS s=(none,0,0)):=fun h=>parse_nil hlg ht h
 have HPB:Hid (wds s≠[]→∀ b,badS (wds s) s.size=some b→parseS s=(none,(b:Int),12)):=fun h b hb=>parse_some hlg ht h hb
 have HPO:Hid (wds s≠[]→badS (wds s) s.size=none→parseS s=((cmdR (wds s) s.size).1,0,0)):=fun h hb=>parse_none hlg ht h hb
 have hwl:(wds s).length=(wordsS s).length:=by unfold wds; rw [List.length_map]
 have hwv:wordV s (wordsS s)=wdV (wds s):=wds_wordV s _
 rw [hwv,← hwl] at HWD
 clear hwl hwv
 generalize tornS s=tn at *
 generalize parseS s=P at *
 generalize wds s=W at *
 have HSZ:=Lib.hid hwz
 clear hwz
 go_enter Tryz.func42,Tryz.ntmps42
 go_wp2_with fail
 refine Calls.mono HTO.out ?_
 rintro e w1 ⟨rfl,hx1⟩
 have hT1:=hT.ext hx1
 have hs1:=hx1.size
 go_wp2_with fail
 refine Calls.mono (HWD w1 hT1).out ?_
 rintro e w2 ⟨⟨wv,rfl,hwo⟩,hx2⟩
 obtain ⟨po,co,rfl⟩:=own_sl hwo
 have hs2:=hx2.size
 have HX2:=Lib.hid (hx1.trans' hx2)
 have HWO:=Lib.hid (own_bmono hwo (show w.heap.size≤w1.heap.size by omega))
 have HT2:=Lib.hid (hT1.ext hx2)
 clear hx1 hx2 hwo HWD HTO
 by_cases hn:W.length=0
 · have hW0:W=[]:=List.length_eq_zero_iff.1 hn
   have hP:=HPN.out hW0
   subst hP
   clear HPN HPB HPO hW0
   go_wp2_with fail
   go_ret3
   exact ⟨⟨_,rfl,rfl⟩,HX2.out.allocR _⟩
 · have hne:((W.length:Int) == 0)=false:=beq_eq_false_iff_ne.2 (by omega)
   have hW0:W≠[]:=fun e=>hn (by rw [e]; rfl)
   have HPB1:=Lib.hid (HPB.out hW0)
   have HPO1:=Lib.hid (HPO.out hW0)
   clear HPN HPB HPO hW0
   go_wp2_with fail
   have HR3:Hid (RdAt w.heap.size (w2.alloc (.cells #[.slice po W.length co,.int .i64 0,.int .i64 (-1),.int .i64 (s.size:Int)] 164)) w2.heap.size W s.size 0 none):=⟨hB,by omega,_,heap_at _ _ rfl,HWO.out.alloc _⟩
   refine Calls.mono (RCmd_c w.heap.size w2.heap.size W s.size _ (HT2.out.ext (Ext.alloc' _ _)) HR3.out (fun p hp=>by have:=HSZ.out p hp; omega) (by omega) (by omega) hs) ?_
   rintro e w3 ⟨⟨cv,rfl,hcv,h3⟩,m3⟩
   have HM3:Hid (ModN w2.heap.size w2.heap.size w2 w3):=ModN.mod ⟨(Mod.refl _ _).extR (Ext.alloc' _ _)⟩ m3
   have hbs:badS W s.size=(match (cmdR W s.size).2.2 with | some b=>some b | none=>if (cmdR W s.size).2.1 < W.length then failR W s.size (cmdR W s.size).2.1 none else none):=rfl
   have HBS:=Lib.hid hbs
   have HCV:=Lib.hid hcv
   clear hbs hcv m3
   generalize cmdR W s.size=R at *
   obtain ⟨oc,a,ob⟩:=R
   dsimp only at h3
   have hrw:w.heap.size≤w2.heap.size:=by omega
   generalize hrr0:w2.heap.size=r at *
   have hr2:w2.heap.size≤r:=by omega
   clear hrr0 hs1 hs2 hn hne
   have HR4:=Lib.hid h3
   obtain ⟨wv,hrr,hwo⟩:=h3.hr
   obtain ⟨po',co',rfl⟩:=own_sl hwo
   have c0:=(cell_of hrr 0).trans rfl
   have c1:=(cell_of hrr 1).trans rfl
   have c2:=(cell_of hrr 2).trans rfl
   have rl:=lt_of hrr
   clear h3 hrr hwo HR3
   cases ob with
   | some b =>
     have hP:=HPB1.out b HBS.out
     subst hP
     unfold badI at c2
     clear HPB1 HPO1
     go_wp2_with fail
     generalize hx:(b:Int)=x at *
     have hx0:¬ x < 0:=by omega
     have hx1:0≤x:=by omega
     clear hx
     refine wp_region_after (by kernel_rfl) (by kernel_rfl) ?_
     repeat (go_big_quiet_step ((fail)))
     refine wpQuiet_nil ?_
     rintro _ ⟨xx,rfl⟩
     obtain ⟨w4,hb4⟩:=xx
     try dsimp only
     have d2:=((bcell hb4).1 _ 2 rl).trans c2
     have rl4:r < w4.heap.size:=Nat.lt_of_lt_of_le rl hb4.size
     have HX4:=Lib.hid (HM3.out.extN hb4)
     clear c0 c1 c2 hb4
     go_wp2_with fail
     refine wp_region_after (by kernel_rfl) (by kernel_rfl) ?_
     repeat (go_big_quiet_step ((fail)))
     refine wpQuiet_nil ?_
     rintro _ ⟨xx,rfl⟩
     obtain ⟨w5,hb5⟩:=xx
     try dsimp only
     have HX5:=Lib.hid (HX4.out.extN hb5)
     clear d2 hb5
     go_wp2
     go_ret3
     exact ⟨⟨_,rfl,rfl⟩,HX2.out.trans' (HX5.out.ext (by omega) (by omega))⟩
   | none =>
     unfold badI at c2
     have HPB1x:=Lib.hid HPB1.out
     clear HPB1
     by_cases hlt:a < W.length
     · have hfr:failR W s.size a none=some W[a].2:=by unfold failR; rw [dif_pos hlt]
       have hbn:badS W s.size=some W[a].2:=(HBS.out.trans (if_pos hlt)).trans hfr
       have hP:=HPB1x.out _ hbn
       subst hP
       have HFR:=Lib.hid hfr
       clear HPO1 hbn hfr
       generalize W[a].2=b at *
       go_wp2_with fail
       refine wp_region_after (by kernel_rfl) (by kernel_rfl) ?_
       repeat (go_big_quiet_step ((fail)))
       refine wpQuiet_nil ?_
       rintro _ ⟨xx,rfl⟩
       obtain ⟨w4,hb4⟩:=xx
       try dsimp only
       have HR5:=Lib.hid (HR4.out.ext hb4)
       have HX4:=Lib.hid (HM3.out.extN hb4)
       clear c0 c1 c2 hb4
       go_wp2_with fail
       refine Calls.mono (RFail_c w.heap.size r W s.size a none w4 HR5.out (by omega) (by omega) hs) ?_
       rintro e w5 ⟨rfl,h5,m5⟩
       rw [HFR.out] at h5
       have HX5:=Lib.hid (HX4.out.mod m5)
       obtain ⟨wv5,hrr5,_⟩:=h5.hr
       have d2:=(cell_of hrr5 2).trans rfl
       have rl5:=lt_of hrr5
       unfold badI at d2
       clear h5 m5 hrr5
       go_wp2_with fail
       refine wp_region_after (by kernel_rfl) (by kernel_rfl) ?_
       repeat (go_big_quiet_step ((fail)))
       refine wpQuiet_nil ?_
       rintro _ ⟨xx,rfl⟩
       obtain ⟨w6,hb6⟩:=xx
       try dsimp only
       have HX6:=Lib.hid (HX5.out.extN hb6)
       clear d2 hb6
       go_wp2
       go_ret3
       exact ⟨⟨_,rfl,rfl⟩,HX2.out.trans' (HX6.out.ext (by omega) (by omega))⟩
     · have hbn:badS W s.size=none:=HBS.out.trans (if_neg hlt)
       have hP:=HPO1.out hbn
       subst hP
       clear HPO1 hbn
       dsimp only at HCV
       go_wp2_with fail
       refine wp_region_after (by kernel_rfl) (by kernel_rfl) ?_
       repeat (go_big_quiet_step ((fail)))
       refine wpQuiet_nil ?_
       rintro _ ⟨xx,rfl⟩
       obtain ⟨w4,hb4⟩:=xx
       try dsimp only
       have d2:=((bcell hb4).1 _ 2 rl).trans c2
       have rl4:r < w4.heap.size:=Nat.lt_of_lt_of_le rl hb4.size
       have HX4:=Lib.hid (HM3.out.extN hb4)
       have HCV4:=Lib.hid (HCV.out.ext hb4)
       clear c0 c1 c2 hb4
       go_wp2_with fail
       go_ret3
       exact ⟨⟨_,rfl,HCV4.out⟩,HX2.out.trans' (HX4.out.ext (by omega) (by omega))⟩
end Go.Proofs.YtmalncfcgcebhaaGreatDoor
namespace Go.Proofs.YtmalncfcgcebhaaGreatDoor
set_option linter.unusedVariables false
open Go.Proofs Go.RowKit
def Rh (v:Value):Option (DataW Value × List MemPlace):=some (.held v,[])
def hD (l:List (Nat × Value)):DataW Value:=.map (l.map fun p=>(Lit.int .i64 (p.1:Int),DataW.held p.2))
def keyB (k:Int) (x:Nat × Value):Bool:=decide ((x.1:Int)=k)
theorem same_int (a k:Int):(Lit.int .i64 a).sameKey (.int .i64 k)=decide (a=k):=by
 simp [Lit.sameKey]
theorem hD_size (l:List (Nat × Value)):Maps.size (hD l)=l.length:=by simp [hD,Maps.size]
theorem hD_has (l:List (Nat × Value)) (k:Int):Maps.has (hD l) (.int .i64 k)=l.any (keyB k):=by
 unfold hD
 rw [Maps.has_eq,List.any_map]
 congr 1
 funext x
 simp [same_int,keyB]
theorem find_map (l:List (Nat × Value)) (k:Int):(l.map fun p=>(Lit.int .i64 (p.1:Int),DataW.held (H:=Value) p.2)).find? (fun p=>p.1.sameKey (.int .i64 k))=(l.find? (keyB k)).map fun p=>(Lit.int .i64 (p.1:Int),DataW.held p.2):=by
 rw [List.find?_map]
 congr 2
 funext x
 simp [same_int,keyB]
theorem hD_at (l:List (Nat × Value)) (k:Int) (z:DataW Value):(hD l).atKey (.int .i64 k) z=match l.find? (keyB k) with | some p=>.held p.2 | none=>z:=by
 unfold hD DataW.atKey
 simp only [find_map]
 cases l.find? (keyB k) <;> rfl
theorem insert_end (x:Lit × DataW Value):∀ l:List (Lit × DataW Value),(∀ y∈l,x.1.before y.1=false)→DataW.insert x l=l++[x]
 | [],_=>rfl
 | y :: l,h=>by
   unfold DataW.insert
   rw [h y (by simp)]
   simp [insert_end x l (fun z hz=>h z (by simp [hz]))]
theorem hD_put (l:List (Nat × Value)) (k:Nat) (v:Value) (h:∀ x∈l,x.1 < k):(hD l).put (.int .i64 (k:Int)) (.held v)=hD (l++[(k,v)]):=by
 unfold hD DataW.put
 have e:(l.map fun p=>(Lit.int .i64 (p.1:Int),DataW.held (H:=Value) p.2)).filter (fun p=>!p.1.sameKey (.int .i64 (k:Int)))=l.map fun p=>(Lit.int .i64 (p.1:Int),DataW.held p.2):=by
  rw [List.filter_eq_self]
  intro y hy
  obtain ⟨x,hx,rfl⟩:=List.mem_map.1 hy
  have:=h x hx
  simp [same_int]
  omega
 simp only [e]
 rw [insert_end,List.map_append]
 · rfl
 · intro y hy
   obtain ⟨x,hx,rfl⟩:=List.mem_map.1 hy
   have:=h x hx
   simp [Lit.before]
   omega
theorem hD_del (l:List (Nat × Value)) (k:Int):(hD l).del (.int .i64 k)=hD (l.filter fun x=>!keyB k x):=by
 unfold hD DataW.del
 simp only [List.filter_map]
 congr 2
 congr 1
 funext x
 simp [same_int,keyB]
theorem key_int (P:Program) (t:TypeId) (ht:P.underlying t=some (.int .i64)) (n:Int) (h:I64 n):keyOf P t (.int .i64 n)=some (.int .i64 n):=by
 have hw:(Lit.int .i64 n).wf=true:=by
  unfold I64 at h
  have e1:IntKind.i64.min=-9223372036854775808:=by decide
  have e2:IntKind.i64.max=9223372036854775807:=by decide
  simp only [Lit.wf,e1,e2,Bool.and_eq_true,decide_eq_true_eq]
  exact h
 simp [keyOf,ht,mapKey,hw]
section
variable {P:Program} {w:World} {t e kt:TypeId} {b n:Nat} {l:List (Nat × Value)}
theorem Rh_inv {v:Value} {d:DataW Value} {ps:List MemPlace} (h:Rh v=some (d,ps)):d=.held v:=by
 unfold Rh at h
 injection h with h
 exact (Prod.mk.inj h).1.symm
theorem look_yes (h:w.ownsMap P kt Rh b n (hD l)) (hk:P.underlying kt=some (.int .i64)) (ht:P.underlying t=some (.map kt e)) {z:Value} (hz:(zeroValue e).run P w=.ok z w) {k:Int} (hi:I64 k) {x:Nat × Value} (hx:l.find? (keyB k)=some x) :
 (Instr.lookup t (.map (some b)) (.int .i64 k) true).run P w=.ok (.tuple #[x.2,.bool true]) w∧(Instr.lookup t (.map (some b)) (.int .i64 k) false).run P w=.ok x.2 w:=by
 have hh:Maps.has (hD l) (.int .i64 k)=true:=by
  rw [hD_has]
  obtain ⟨h1,h2⟩:=List.find?_some hx,List.mem_of_find?_eq_some hx
  exact List.any_eq_true.2 ⟨x,h2,h1⟩
 obtain ⟨v,ps,hrun,hv⟩:=h.look_ok (Maps.int_keyed hk) ht hz (zd:=.held z) (zp:=[]) rfl (key_int P kt hk k hi)
 obtain ⟨v',ps',hrun',hv'⟩:=h.lookup (Maps.int_keyed hk) ht hz (zd:=.held z) (zp:=[]) rfl (key_int P kt hk k hi)
 have e1:=Rh_inv hv
 have e2:=Rh_inv hv'
 rw [hD_at,hx] at e1 e2
 injection e1 with e1
 injection e2 with e2
 subst e1 e2
 rw [hh] at hrun
 exact ⟨hrun,hrun'⟩
theorem look_no (h:w.ownsMap P kt Rh b n (hD l)) (hk:P.underlying kt=some (.int .i64)) (ht:P.underlying t=some (.map kt e)) {z:Value} (hz:(zeroValue e).run P w=.ok z w) {k:Int} (hi:I64 k) (hx:l.find? (keyB k)=none) :
 (Instr.lookup t (.map (some b)) (.int .i64 k) true).run P w=.ok (.tuple #[z,.bool false]) w:=by
 have hh:Maps.has (hD l) (.int .i64 k)=false:=by
  rw [hD_has]
  rw [List.any_eq_false]
  intro x hx2
  have:=List.find?_eq_none.1 hx x hx2
  simpa using this
 obtain ⟨v,ps,hrun,hv⟩:=h.look_ok (Maps.int_keyed hk) ht hz (zd:=.held z) (zp:=[]) rfl (key_int P kt hk k hi)
 have e1:=Rh_inv hv
 rw [hD_at,hx] at e1
 injection e1 with e1
 subst e1
 rw [hh] at hrun
 exact hrun
end
end Go.Proofs.YtmalncfcgcebhaaGreatDoor
namespace Go.Proofs.YtmalncfcgcebhaaGreatDoor
set_option linter.unusedVariables false
open Go.RowKit
def lvF (C:Cfg) (lv:Int) (x s:Nat):Nat:=bif isX C lv then x else s
theorem lvF_x {C:Cfg} {lv:Int} (h:isX C lv=true) (x s:Nat):lvF C lv x s=x:=by unfold lvF; rw [h]; rfl
theorem lvF_s {C:Cfg} {lv:Int} (h:isX C lv=false) (x s:Nat):lvF C lv x s=s:=by unfold lvF; rw [h]; rfl
theorem lvV_eq (C:Cfg) (lv:Int) (L:Lev):lvV C lv L=.iface (lvT C lv) (.pointer (some ⟨L.s,0,none⟩)):=rfl
theorem lvm_Cells (C : Cfg) (lv : Int) (p : Option Addr) (w : World) : Sem.run Tryz.prog (method 541 (lvT C lv) (.pointer p) "Cells") w = .ok (lvF C lv 226 257, .pointer p) w := by
 unfold lvT lvF
 cases isX C lv with
 | true=>kernel_rfl
 | false=>kernel_rfl
theorem lve_Cells (C:Cfg) (lv:Int) (args:Array Value) (w:World):(callFunc (lvF C lv 226 257) args).run Tryz.prog w=.ok (.enter (lvF C lv 226 257) args) w:=by
 unfold lvF
 cases isX C lv with
 | true=>kernel_rfl
 | false=>kernel_rfl
theorem LCells_c (C:Cfg) (lv:Int) (L:Lev) (l:List Int) (w:World) (h:LvAt w L C lv l) :
 Calls Tryz.prog (lvF C lv 226 257) #[.pointer (some ⟨L.s,0,none⟩)] w fun e w'=>∃ v,e=.returned v∧w'.ownsRow w.heap.size 2 1 v l.length (ints l)∧(v=.slice none 0 0→False)∧Ext w w':=by
 cases hx:isX C lv with
 | true=>rw [lvF_x hx]; exact ECells_c _ _ _ C lv _ l w (h.x hx)
 | false=>rw [lvF_s hx]; exact SCells_c _ _ _ C lv _ _ l w (h.sk hx)
end Go.Proofs.YtmalncfcgcebhaaGreatDoor
namespace Go.Proofs.YtmalncfcgcebhaaGreatDoor
set_option linter.unusedVariables false
open Go.RowKit
def EMergePost (w:World) (s b c:Nat) (C:Cfg) (lv:Int) (N:Nat) (m:List Int) (e:Ending) (w':World):Prop :=
 (allI m∧e=.returned (.int .i64 0)∧EAt w' s b c C lv N m∧Mod (fun k=>k=c) w w')∨(¬ allI m∧e=.returned (.int .i64 4)∧Ext w w')
theorem EAt.putg {w w':World} {s b c:Nat} {C:Cfg} {lv:Int} {N:Nat} {l m:List Int} (h:EAt w s b c C lv N l) (hg:GAt w' b c 1 N m) (hm:Mod (fun k=>k=c) w w') (hi:allI m):EAt w' s b c C lv N m :=
 ⟨by rw [hm.block s h.lts h.nes]; exact h.ex,hg,h.ok,h.lo,h.hi,h.hk,hi⟩
set_option maxRecDepth 20000 in
set_option maxHeartbeats 4000000 in
theorem EJoinPlus_c (s b c s2 b2 c2:Nat) (C:Cfg) (lv:Int) (N:Nat) (l l2:List Int) (w:World) (h:EAt w s b c C lv N l) (h2:EAt w s2 b2 c2 C lv N l2) :
 Calls Tryz.prog 263 #[.pointer (some ⟨s,0,none⟩),.pointer (some ⟨s2,0,none⟩),.func (.func 262) #[] #[],.bool true] w (EMergePost w s b c C lv N (plusL l l2)):=by
 have HH:=Lib.hid h
 have H2:=Lib.hid h2
 have c0:=(cell_of h.ex 0).trans rfl
 have c1:=(cell_of h.ex 1).trans rfl
 have c2':=(cell_of h.ex 2).trans rfl
 have c3:=(cell_of h.ex 3).trans rfl
 have c4:=(cell_of h.ex 4).trans rfl
 have c5:=(cell_of h.ex 5).trans rfl
 have d0:=(cell_of h2.ex 0).trans rfl
 have d1:=(cell_of h2.ex 1).trans rfl
 have d2:=(cell_of h2.ex 2).trans rfl
 have d3:=(cell_of h2.ex 3).trans rfl
 have d4:=(cell_of h2.ex 4).trans rfl
 have d5:=(cell_of h2.ex 5).trans rfl
 have l1:=h.lts
 have l2':=h2.lts
 clear h h2
 go_enter Tryz.func263,Tryz.ntmps263
 go_wp2_with fail
 refine wp_region_after (by kernel_rfl) (by kernel_rfl) ?_
 repeat (go_big_quiet_step (fail))
 refine wpQuiet_nil ?_
 rintro _ ⟨xx,rfl⟩
 obtain ⟨w1,hb1⟩:=xx
 try dsimp only
 clear c0 c1 c2' c3 c4 c5 d0 d1 d2 d3 d4 d5 l1 l2'
 have h':=HH.out.ext hb1
 have h2':=H2.out.ext hb1
 have c6:=(cell_of h'.ex 6).trans rfl
 have d6:=(cell_of h2'.ex 6).trans rfl
 have l1:=h'.lts
 have l2':=h2'.lts
 have hG1:=h'.g.ext (Below.drew (Ext.refl w1))
 have hG2:=h2'.g.ext (Below.drew (Ext.refl w1))
 have hf1:=h'.fit
 have hf2:=h2'.fit
 clear h' h2'
 go_wp2_with fail
 have hC0:=af_drew w1
 refine pi_start (fun w'=>∃ x:After w1,w'=x.w) [9] (by kernel_rfl) ?_
 refine pi_t 0 rfl (by kernel_rfl) (by kernel_rfl) (fun _ _ _ _ h=>h) (fun K hK=>?_)
 go_big_quiet_op
 refine hK _ ?_
 clear hK K
 refine pi_t 1 rfl (by kernel_rfl) (by kernel_rfl) (fun _ _ _ _ h=>h) (fun K hK=>?_)
 go_big_quiet_op
 refine hK _ ?_
 clear hK K
 refine pi_t 2 rfl (by kernel_rfl) (by kernel_rfl) (fun _ _ _ _ h=>h) (fun K hK=>?_)
 go_big_quiet_op
 refine hK _ ?_
 clear hK K
 refine pi_t 3 rfl (by kernel_rfl) (by kernel_rfl) (fun _ _ _ _ h=>h) (fun K hK=>?_)
 go_big_quiet_op
 refine hK _ ?_
 clear hK K
 refine pi_t 5 rfl (by kernel_rfl) (by kernel_rfl) (fun _ _ _ _ h=>h) (fun K hK=>?_)
 go_big_quiet_op
 refine hK _ ?_
 clear hK K
 refine pi_t 6 rfl (by kernel_rfl) (by kernel_rfl) (fun _ _ _ _ h=>h) (fun K hK=>?_)
 go_big_quiet_op
 refine hK _ ?_
 clear hK K
 refine pi_t 7 rfl (by kernel_rfl) (by kernel_rfl) (fun _ _ _ _ h=>h) (fun K hK=>?_)
 go_big_quiet_op
 refine hK _ ?_
 clear hK K
 refine pi_c 4 (by assumption) rfl (by kernel_rfl) (by kernel_rfl) (fun _ _ _ _ h=>h) (fun K hK=>?_)
 go_big_quiet_op
 refine hK _ ?_
 clear hK K
 refine pi_c 8 (by assumption) rfl (by kernel_rfl) (by kernel_rfl) (fun _ _ _ _ h=>h) (fun K hK=>?_)
 go_big_quiet_op
 refine hK _ ?_
 clear hK K
 refine pi_l 9 rfl (by kernel_rfl) (fun K hK=>?_)
 go_wp2_with fail
 refine Calls.mono (GPlus_c b c b2 c2 1 N l l2 _ hG1 hG2 hf1 hf2) ?_
 intro e w2 hr0
 obtain ⟨z,rfl,hr⟩:=join_ret hr0
 clear hr0
 go_wp2
 refine hK _ _ (by simp) ?_
 clear hK K
 refine pi_t 10 rfl (by kernel_rfl) (by kernel_rfl) (fun _ _ _ _ h=>h) (fun K hK=>?_)
 go_big_quiet_op
 refine hK _ ?_
 clear hK K
 refine pi_end (by kernel_rfl) ?_
 go_wp2
 go_ret
 have hx2:Ext w w1.drew:=Below.drew hb1
 rcases hr with ⟨rfl,ha,hg,hm⟩ | ⟨rfl,ha,hx⟩
 · have hm':Mod (fun k=>k=c) w w2:=(hx2.mod _).trans hm
   exact .inl ⟨ha,rfl,HH.out.putg hg hm' ha,hm'⟩
 · exact .inr ⟨ha,rfl,hx2.trans' hx⟩
set_option maxRecDepth 20000 in
set_option maxHeartbeats 4000000 in
theorem EJoinMinus_c (s b c s2 b2 c2:Nat) (C:Cfg) (lv:Int) (N:Nat) (l l2:List Int) (w:World) (h:EAt w s b c C lv N l) (h2:EAt w s2 b2 c2 C lv N l2) :
 Calls Tryz.prog 263 #[.pointer (some ⟨s,0,none⟩),.pointer (some ⟨s2,0,none⟩),.func (.func 264) #[] #[],.bool true] w (EMergePost w s b c C lv N (minusL l l2)):=by
 have HH:=Lib.hid h
 have H2:=Lib.hid h2
 have c0:=(cell_of h.ex 0).trans rfl
 have c1:=(cell_of h.ex 1).trans rfl
 have c2':=(cell_of h.ex 2).trans rfl
 have c3:=(cell_of h.ex 3).trans rfl
 have c4:=(cell_of h.ex 4).trans rfl
 have c5:=(cell_of h.ex 5).trans rfl
 have d0:=(cell_of h2.ex 0).trans rfl
 have d1:=(cell_of h2.ex 1).trans rfl
 have d2:=(cell_of h2.ex 2).trans rfl
 have d3:=(cell_of h2.ex 3).trans rfl
 have d4:=(cell_of h2.ex 4).trans rfl
 have d5:=(cell_of h2.ex 5).trans rfl
 have l1:=h.lts
 have l2':=h2.lts
 clear h h2
 go_enter Tryz.func263,Tryz.ntmps263
 go_wp2_with fail
 refine wp_region_after (by kernel_rfl) (by kernel_rfl) ?_
 repeat (go_big_quiet_step (fail))
 refine wpQuiet_nil ?_
 rintro _ ⟨xx,rfl⟩
 obtain ⟨w1,hb1⟩:=xx
 try dsimp only
 clear c0 c1 c2' c3 c4 c5 d0 d1 d2 d3 d4 d5 l1 l2'
 have h':=HH.out.ext hb1
 have h2':=H2.out.ext hb1
 have c6:=(cell_of h'.ex 6).trans rfl
 have d6:=(cell_of h2'.ex 6).trans rfl
 have l1:=h'.lts
 have l2':=h2'.lts
 have hG1:=h'.g.ext (Below.drew (Ext.refl w1))
 have hG2:=h2'.g.ext (Below.drew (Ext.refl w1))
 have hf1:=h'.fit
 have hf2:=h2'.fit
 clear h' h2'
 go_wp2_with fail
 have hC0:=af_drew w1
 refine pi_start (fun w'=>∃ x:After w1,w'=x.w) [9] (by kernel_rfl) ?_
 refine pi_t 0 rfl (by kernel_rfl) (by kernel_rfl) (fun _ _ _ _ h=>h) (fun K hK=>?_)
 go_big_quiet_op
 refine hK _ ?_
 clear hK K
 refine pi_t 1 rfl (by kernel_rfl) (by kernel_rfl) (fun _ _ _ _ h=>h) (fun K hK=>?_)
 go_big_quiet_op
 refine hK _ ?_
 clear hK K
 refine pi_t 2 rfl (by kernel_rfl) (by kernel_rfl) (fun _ _ _ _ h=>h) (fun K hK=>?_)
 go_big_quiet_op
 refine hK _ ?_
 clear hK K
 refine pi_t 3 rfl (by kernel_rfl) (by kernel_rfl) (fun _ _ _ _ h=>h) (fun K hK=>?_)
 go_big_quiet_op
 refine hK _ ?_
 clear hK K
 refine pi_t 5 rfl (by kernel_rfl) (by kernel_rfl) (fun _ _ _ _ h=>h) (fun K hK=>?_)
 go_big_quiet_op
 refine hK _ ?_
 clear hK K
 refine pi_t 6 rfl (by kernel_rfl) (by kernel_rfl) (fun _ _ _ _ h=>h) (fun K hK=>?_)
 go_big_quiet_op
 refine hK _ ?_
 clear hK K
 refine pi_t 7 rfl (by kernel_rfl) (by kernel_rfl) (fun _ _ _ _ h=>h) (fun K hK=>?_)
 go_big_quiet_op
 refine hK _ ?_
 clear hK K
 refine pi_c 4 (by assumption) rfl (by kernel_rfl) (by kernel_rfl) (fun _ _ _ _ h=>h) (fun K hK=>?_)
 go_big_quiet_op
 refine hK _ ?_
 clear hK K
 refine pi_c 8 (by assumption) rfl (by kernel_rfl) (by kernel_rfl) (fun _ _ _ _ h=>h) (fun K hK=>?_)
 go_big_quiet_op
 refine hK _ ?_
 clear hK K
 refine pi_l 9 rfl (by kernel_rfl) (fun K hK=>?_)
 go_wp2_with fail
 refine Calls.mono (GMinus_c b c b2 c2 1 N l l2 _ hG1 hG2 hf1 hf2) ?_
 intro e w2 hr0
 obtain ⟨z,rfl,hr⟩:=join_ret hr0
 clear hr0
 go_wp2
 refine hK _ _ (by simp) ?_
 clear hK K
 refine pi_t 10 rfl (by kernel_rfl) (by kernel_rfl) (fun _ _ _ _ h=>h) (fun K hK=>?_)
 go_big_quiet_op
 refine hK _ ?_
 clear hK K
 refine pi_end (by kernel_rfl) ?_
 go_wp2
 go_ret
 have hx2:Ext w w1.drew:=Below.drew hb1
 rcases hr with ⟨rfl,ha,hg,hm⟩ | ⟨rfl,ha,hx⟩
 · have hm':Mod (fun k=>k=c) w w2:=(hx2.mod _).trans hm
   exact .inl ⟨ha,rfl,HH.out.putg hg hm' ha,hm'⟩
 · exact .inr ⟨ha,rfl,hx2.trans' hx⟩
set_option maxRecDepth 20000 in
set_option maxHeartbeats 4000000 in
theorem EMerge_c (s b c s2 b2 c2:Nat) (C:Cfg) (lv:Int) (N:Nat) (l l2:List Int) (w:World) (h:EAt w s b c C lv N l) (h2:EAt w s2 b2 c2 C lv N l2) :
 Calls Tryz.prog 228 #[.pointer (some ⟨s,0,none⟩),.pointer (some ⟨s2,0,none⟩)] w (EMergePost w s b c C lv N (plusL l l2)):=by
 go_enter Tryz.func228,Tryz.ntmps228
 go_wp2_with fail
 refine Calls.mono (EJoinPlus_c s b c s2 b2 c2 C lv N l l2 w h h2) ?_
 rintro e w' (⟨ha,rfl,hg,hm⟩ | ⟨ha,rfl,hx⟩)
 · go_wp2
   go_ret
   exact .inl ⟨ha,rfl,hg,hm⟩
 · go_wp2
   go_ret
   exact .inr ⟨ha,rfl,hx⟩
set_option maxRecDepth 20000 in
set_option maxHeartbeats 4000000 in
theorem ESubtract_c (s b c s2 b2 c2:Nat) (C:Cfg) (lv:Int) (N:Nat) (l l2:List Int) (w:World) (h:EAt w s b c C lv N l) (h2:EAt w s2 b2 c2 C lv N l2) (hm:C.mode≠2) :
 Calls Tryz.prog 230 #[.pointer (some ⟨s,0,none⟩),.pointer (some ⟨s2,0,none⟩)] w (EMergePost w s b c C lv N (minusL l l2)):=by
 have hmb:(C.mode == 2)=false:=by simpa using hm
 have hmb2:(C.mode != 2)=true:=by simpa using hm
 have c3:=(cell_of h.ex 3).trans rfl
 have l1:=h.lts
 have HJ:=Lib.hid (EJoinMinus_c s b c s2 b2 c2 C lv N l l2 w h h2)
 clear hm h h2
 go_enter Tryz.func230,Tryz.ntmps230
 go_wp2_with fail
 refine Calls.mono HJ.out ?_
 rintro e w' (⟨ha,rfl,hg,hm⟩ | ⟨ha,rfl,hx⟩)
 · go_wp2
   go_ret
   exact .inl ⟨ha,rfl,hg,hm⟩
 · go_wp2
   go_ret
   exact .inr ⟨ha,rfl,hx⟩
set_option maxRecDepth 20000 in
set_option maxHeartbeats 4000000 in
theorem ESubtract_mode (s b c s2 b2 c2:Nat) (C:Cfg) (lv:Int) (N:Nat) (l l2:List Int) (w:World) (h:EAt w s b c C lv N l) (h2:EAt w s2 b2 c2 C lv N l2) (hm:C.mode=2) :
 Calls Tryz.prog 230 #[.pointer (some ⟨s,0,none⟩),.pointer (some ⟨s2,0,none⟩)] w fun e w'=>e=.returned (.int .i64 3)∧Ext w w':=by
 have hj:Calls Tryz.prog 263 #[.pointer (some ⟨s,0,none⟩),.pointer (some ⟨s2,0,none⟩),.func (.func 264) #[] #[],.bool false] w fun e w'=>e=.returned (.int .i64 3)∧Ext w w':=by
  have c0:=(cell_of h.ex 0).trans rfl
  have c1:=(cell_of h.ex 1).trans rfl
  have c2':=(cell_of h.ex 2).trans rfl
  have c3:=(cell_of h.ex 3).trans rfl
  have c4:=(cell_of h.ex 4).trans rfl
  have c5:=(cell_of h.ex 5).trans rfl
  have d0:=(cell_of h2.ex 0).trans rfl
  have d1:=(cell_of h2.ex 1).trans rfl
  have d2:=(cell_of h2.ex 2).trans rfl
  have d3:=(cell_of h2.ex 3).trans rfl
  have d4:=(cell_of h2.ex 4).trans rfl
  have d5:=(cell_of h2.ex 5).trans rfl
  have l1:=h.lts
  have l2':=h2.lts
  clear h h2 hm
  go_enter Tryz.func263,Tryz.ntmps263
  go_wp2_with fail
  refine wp_region_after (by kernel_rfl) (by kernel_rfl) ?_
  repeat (go_big_quiet_step (fail))
  refine wpQuiet_nil ?_
  rintro _ ⟨xx,rfl⟩
  obtain ⟨w1,hb1⟩:=xx
  try dsimp only
  go_wp2
  go_ret
  exact ⟨rfl,hb1⟩
 have c3:=(cell_of h.ex 3).trans (show _=some (Value.int .i64 2) by rw [← hm]; rfl)
 have l1:=h.lts
 clear hm
 go_enter Tryz.func230,Tryz.ntmps230
 go_wp2_with fail
 refine Calls.mono hj ?_
 rintro e w' ⟨rfl,hx⟩
 go_wp2
 go_ret
 exact ⟨rfl,hx⟩
end Go.Proofs.YtmalncfcgcebhaaGreatDoor
namespace Go.Proofs.YtmalncfcgcebhaaGreatDoor
set_option linter.unusedVariables false
open Go.RowKit
set_option maxRecDepth 20000 in
theorem sk_ss (s s2:Nat) (w:World) :
 Calls Tryz.prog 220 #[.iface 270 (.pointer (some ⟨s,0,none⟩)),.iface 270 (.pointer (some ⟨s2,0,none⟩))] w fun e w'=>e=.returned (.tuple #[.pointer (some ⟨s,0,none⟩),.pointer (some ⟨s2,0,none⟩),.bool true])∧w=w':=by
 go_enter Tryz.func220,Tryz.ntmps220
 go_wp2_with fail
 refine (AsSketch_s s2 w).mono ?_
 rintro e w1 ⟨rfl,rfl⟩
 go_wp2_with fail
 refine (AsSketch_s s w).mono ?_
 rintro e w1 ⟨rfl,rfl⟩
 go_wp2_with fail
 refine (MustSketch_s s2 w).mono ?_
 rintro e w1 ⟨rfl,rfl⟩
 go_wp2
 go_ret3
 exact ⟨rfl,rfl⟩
set_option maxRecDepth 20000 in
theorem sk_ix (t:TypeId) (s s2:Nat) (w:World) :
 Calls Tryz.prog 220 #[.iface t (.pointer (some ⟨s,0,none⟩)),.iface 267 (.pointer (some ⟨s2,0,none⟩))] w fun e w'=>e=.returned (.tuple #[.pointer none,.pointer none,.bool false])∧w=w':=by
 go_enter Tryz.func220,Tryz.ntmps220
 go_wp2_with fail
 refine (AsSketch_x s2 w).mono ?_
 rintro e w1 ⟨rfl,rfl⟩
 go_wp2
 go_ret3
 exact ⟨rfl,rfl⟩
set_option maxRecDepth 20000 in
theorem arr_xx (s s2:Nat) (w:World) :
 Calls Tryz.prog 222 #[.iface 267 (.pointer (some ⟨s,0,none⟩)),.iface 267 (.pointer (some ⟨s2,0,none⟩))] w fun e w'=>e=.returned (.tuple #[.pointer (some ⟨s,0,none⟩),.pointer (some ⟨s2,0,none⟩),.bool true])∧w=w':=by
 go_enter Tryz.func222,Tryz.ntmps222
 go_wp2
 go_ret3
 exact ⟨rfl,rfl⟩
set_option maxRecDepth 20000 in
set_option maxHeartbeats 4000000 in
theorem SSubtract_mode (s b c s2 b2 c2:Nat) (C:Cfg) (lv:Int) (R W:Nat) (l l2:List Int) (w:World) (h:SAt w s b c C lv R W l) (h2:SAt w s2 b2 c2 C lv R W l2) (hm:C.mode=2) :
 Calls Tryz.prog 229 #[.pointer (some ⟨s,0,none⟩),.pointer (some ⟨s2,0,none⟩)] w fun e w'=>e=.returned (.int .i64 3)∧Ext w w':=by
 have HJ:=Lib.hid (alike_yes s b c s2 b2 c2 C lv R W l l2 w h h2)
 have HH:=Lib.hid h
 have HM:=Lib.hid hm
 clear h h2 hm
 go_enter Tryz.func229,Tryz.ntmps229
 go_wp2_with fail
 refine Calls.mono HJ.out ?_
 rintro e w1 ⟨rfl,hx1⟩
 have h':=HH.out.ext hx1
 have c4:=(cell_of h'.ex 4).trans (show _=some (Value.int .i64 2) by rw [← HM.out]; rfl)
 have l1:=h'.lts
 clear h'
 go_wp2
 go_ret
 exact ⟨rfl,hx1⟩
def LMergePost (w:World) (L:Lev) (C:Cfg) (lv:Int) (m:List Int) (e:Ending) (w':World):Prop :=
 (allI m∧e=.returned (.int .i64 0)∧LvAt w' L C lv m∧Mod (fun k=>k=L.c) w w')∨(¬ allI m∧e=.returned (.int .i64 4)∧Ext w w')
set_option maxRecDepth 20000 in
set_option maxHeartbeats 4000000 in
theorem LMerge_c (C:Cfg) (lv:Int) (L L2:Lev) (l l2:List Int) (w:World) (h:LvAt w L C lv l) (h2:LvAt w L2 C lv l2) :
 Calls Tryz.prog 179 #[lvV C lv L,lvV C lv L2] w (LMergePost w L C lv (plusL l l2)):=by
 cases hx:isX C lv with
 | true =>
   have HJ:=Lib.hid (EMerge_c _ _ _ _ _ _ C lv _ l l2 w (h.x hx) (h2.x hx))
   have HX:=Lib.hid hx
   rw [lvV_x hx,lvV_x hx]
   clear hx h h2
   go_enter Tryz.func179,Tryz.ntmps179
   go_wp2_with fail
   refine (sk_ix _ _ _ _).mono ?_
   rintro e w1 ⟨rfl,rfl⟩
   go_wp2_with fail
   refine (arr_xx _ _ _).mono ?_
   rintro e w1 ⟨rfl,rfl⟩
   go_wp2_with fail
   refine Calls.mono HJ.out ?_
   rintro e w' (⟨ha,rfl,hg,hm⟩ | ⟨ha,rfl,hx⟩)
   · go_wp2
     go_ret
     exact .inl ⟨ha,rfl,.inl ⟨HX.out,hg⟩,hm⟩
   · go_wp2
     go_ret
     exact .inr ⟨ha,rfl,hx⟩
 | false =>
   have HJ:=Lib.hid (SMerge_c _ _ _ _ _ _ C lv _ _ l l2 w (h.sk hx) (h2.sk hx))
   have HX:=Lib.hid hx
   rw [lvV_s hx,lvV_s hx]
   clear hx h h2
   go_enter Tryz.func179,Tryz.ntmps179
   go_wp2_with fail
   refine (sk_ss _ _ _).mono ?_
   rintro e w1 ⟨rfl,rfl⟩
   go_wp2_with fail
   refine Calls.mono HJ.out ?_
   rintro e w' (⟨ha,rfl,hg,hm⟩ | ⟨ha,rfl,hx⟩)
   · go_wp2
     go_ret
     exact .inl ⟨ha,rfl,.inr ⟨HX.out,hg⟩,hm⟩
   · go_wp2
     go_ret
     exact .inr ⟨ha,rfl,hx⟩
set_option maxRecDepth 20000 in
set_option maxHeartbeats 4000000 in
theorem LSubtract_c (C:Cfg) (lv:Int) (L L2:Lev) (l l2:List Int) (w:World) (h:LvAt w L C lv l) (h2:LvAt w L2 C lv l2) (hm:C.mode≠2) :
 Calls Tryz.prog 181 #[lvV C lv L,lvV C lv L2] w (LMergePost w L C lv (minusL l l2)):=by
 cases hx:isX C lv with
 | true =>
   have HJ:=Lib.hid (ESubtract_c _ _ _ _ _ _ C lv _ l l2 w (h.x hx) (h2.x hx) hm)
   have HX:=Lib.hid hx
   rw [lvV_x hx,lvV_x hx]
   clear hx h h2 hm
   go_enter Tryz.func181,Tryz.ntmps181
   go_wp2_with fail
   refine (sk_ix _ _ _ _).mono ?_
   rintro e w1 ⟨rfl,rfl⟩
   go_wp2_with fail
   refine (arr_xx _ _ _).mono ?_
   rintro e w1 ⟨rfl,rfl⟩
   go_wp2_with fail
   refine Calls.mono HJ.out ?_
   rintro e w' (⟨ha,rfl,hg,hm⟩ | ⟨ha,rfl,hx⟩)
   · go_wp2
     go_ret
     exact .inl ⟨ha,rfl,.inl ⟨HX.out,hg⟩,hm⟩
   · go_wp2
     go_ret
     exact .inr ⟨ha,rfl,hx⟩
 | false =>
   have HJ:=Lib.hid (SSubtract_c _ _ _ _ _ _ C lv _ _ l l2 w (h.sk hx) (h2.sk hx) hm)
   have HX:=Lib.hid hx
   rw [lvV_s hx,lvV_s hx]
   clear hx h h2 hm
   go_enter Tryz.func181,Tryz.ntmps181
   go_wp2_with fail
   refine (sk_ss _ _ _).mono ?_
   rintro e w1 ⟨rfl,rfl⟩
   go_wp2_with fail
   refine Calls.mono HJ.out ?_
   rintro e w' (⟨ha,rfl,hg,hm⟩ | ⟨ha,rfl,hx⟩)
   · go_wp2
     go_ret
     exact .inl ⟨ha,rfl,.inr ⟨HX.out,hg⟩,hm⟩
   · go_wp2
     go_ret
     exact .inr ⟨ha,rfl,hx⟩
set_option maxRecDepth 20000 in
set_option maxHeartbeats 4000000 in
theorem LSubtract_mode (C:Cfg) (lv:Int) (L L2:Lev) (l l2:List Int) (w:World) (h:LvAt w L C lv l) (h2:LvAt w L2 C lv l2) (hm:C.mode=2) :
 Calls Tryz.prog 181 #[lvV C lv L,lvV C lv L2] w fun e w'=>e=.returned (.int .i64 3)∧Ext w w':=by
 cases hx:isX C lv with
 | true =>
   have HJ:=Lib.hid (ESubtract_mode _ _ _ _ _ _ C lv _ l l2 w (h.x hx) (h2.x hx) hm)
   rw [lvV_x hx,lvV_x hx]
   clear hx h h2 hm
   go_enter Tryz.func181,Tryz.ntmps181
   go_wp2_with fail
   refine (sk_ix _ _ _ _).mono ?_
   rintro e w1 ⟨rfl,rfl⟩
   go_wp2_with fail
   refine (arr_xx _ _ _).mono ?_
   rintro e w1 ⟨rfl,rfl⟩
   go_wp2_with fail
   refine Calls.mono HJ.out ?_
   rintro e w' ⟨rfl,hx⟩
   go_wp2
   go_ret
   exact ⟨rfl,hx⟩
 | false =>
   have HJ:=Lib.hid (SSubtract_mode _ _ _ _ _ _ C lv _ _ l l2 w (h.sk hx) (h2.sk hx) hm)
   rw [lvV_s hx,lvV_s hx]
   clear hx h h2 hm
   go_enter Tryz.func181,Tryz.ntmps181
   go_wp2_with fail
   refine (sk_ss _ _ _).mono ?_
   rintro e w1 ⟨rfl,rfl⟩
   go_wp2_with fail
   refine Calls.mono HJ.out ?_
   rintro e w' ⟨rfl,hx⟩
   go_wp2
   go_ret
   exact ⟨rfl,hx⟩
end Go.Proofs.YtmalncfcgcebhaaGreatDoor
namespace Go.Proofs.YtmalncfcgcebhaaGreatDoor
set_option linter.unusedVariables false
open Go.RowKit
def KCopyPost (w:World) (C:Cfg) (B:Nat) (ls:Nat→List Int) (e:Ending) (w':World):Prop :=
 ∃ (s g:Nat) (L:Nat→Lev),e=.returned (.pointer (some ⟨s,0,none⟩))∧KAt w' s g C B L ls∧w.heap.size≤s∧w.heap.size≤g∧(∀ n,n≤B→w.heap.size≤(L n).s∧w.heap.size≤(L n).b∧w.heap.size≤(L n).c)∧Ext w w'
set_option maxRecDepth 20000 in
set_option maxHeartbeats 4000000 in
theorem KCopy_c (s g:Nat) (C:Cfg) (B:Nat) (L:Nat→Lev) (ls:Nat→List Int) (w:World) (h:KAt w s g C B L ls) :
 Calls Tryz.prog 166 #[.pointer (some ⟨s,0,none⟩)] w (KCopyPost w C B ls):=by
 have hok:=h.ok
 have hB:=h.hB
 have hlt:=h.lts
 obtain ⟨cap,hex,hcap⟩:=h.ex
 have c5:=(cell_of hex 5).trans rfl
 have hb2:B≤59:=by have:=hok.b2; omega
 have HE:=Lib.hid hex
 have HH:=Lib.hid h
 have HB:=Lib.hid hB
 clear h hex hB
 go_enter Tryz.func166,Tryz.ntmps166
 go_wp2
 go_loopw [3,11] (fun u3 u11 wr=>∃ (k:Nat) (L':Nat→Lev),k≤B+1∧u11=.int .i64 k∧Ext w wr∧Made wr w.heap.size C k L' ls u3) (fun _ u11 _=>B+1 - (intOf u11).toNat)
 case atStart =>
  refine ⟨0,fun _=>⟨0,0,0⟩,Nat.zero_le _,rfl,Ext.refl _,⟨⟨rfl,.inl ⟨rfl,rfl⟩⟩, ?_, ?_, ?_⟩⟩ <;> (intros; omega)
 case round =>
  obtain ⟨k,L',hk,rfl,hE,hM⟩:=hrel
  have hkr:=HH.out.ext hE
  have hsz:=hE.size
  have HM:=Lib.hid hM
  clear hM
  by_cases hlt':k < B+1
  · have cn:=hkr.cell (show k≤B by omega)
    have hL0:=hkr.lev k (by omega)
    have hltg:=hkr.ltg
    clear hkr
    go_wp2_with fail
    refine (LCopy_c C k (L k) (ls k) _ hL0).mono ?_
    rintro e w2 ⟨M,rfl,hL,n1,n2,n3,hx2⟩
    have hown:=own_ext HM.out.row hx2
    have hszz:=hx2.size
    obtain ⟨T,hT⟩:∃ T,lvV C k M=.iface T (.pointer (some ⟨M.s,0,none⟩)):=⟨lvT C k,rfl⟩
    rw [hT]
    have HT:=Lib.hid hT
    clear hT
    have hll:=lvVs_len C L' k
    obtain ⟨i0,z0,hi0,hz0,hz1,hz2,hz3⟩:=info_lev
    go_wp2_with (at_builtin; refine wpList_appv w2 (.iface T (.pointer (some ⟨M.s,0,none⟩))) rfl (lvVs C L' k) u3 w.heap.size 120 hown 116 rfl _ _ rfl i0 z0 hi0 hz0 hz1 hz2 hz3 Tryz.underlying116 rfl rfl ?a1 ?a2 ?_)
    case a1=>omega
    case a2=>omega
    intro v' w' hown' hgr
    have hmade:=HM.out.ext hx2
    have hnext:=hmade.next (N:=wr.heap.size) (ls:=ls) hL (fun n hn=>HM.out.ltN n hn) (by omega) n1 n2 n3 rfl (by rw [HT.out,List.length_append,hll]; exact hown') hgr
    have hex:Ext w w':=ext_grown (hE.trans' hx2) hgr (fun i hi=>own_blk hown hi)
    go_wp2
    go_roundw
    case rel=>exact ⟨k+1,_,by omega,by go_num,hex,hnext⟩
    case measure=>simp [intOf]; omega
  · obtain rfl:k=B+1:=by omega
    obtain ⟨p5,k5,c5,rfl⟩:=own_slice HM.out.row
    have hltr:=hkr.lts
    obtain ⟨cap2,hex2,_⟩:=hkr.ex
    have d0:=(cell_of hex2 0).trans rfl
    have d1:=(cell_of hex2 1).trans rfl
    have d2:=(cell_of hex2 2).trans rfl
    have d3:=(cell_of hex2 3).trans rfl
    have d4:=(cell_of hex2 4).trans rfl
    clear hex2 hkr
    go_wp2
    go_ret
    obtain ⟨g',hg,hK⟩:=(HM.out.ext (Ext.alloc' wr (.cells #[.int .i64 C.bits,.int .i64 C.rows,.int .i64 C.width,.int .i64 C.mode,.int .u64 C.seed,.slice p5 k5 c5] 118))).stack hok HB.out (heap_at _ _ rfl)
    exact ⟨wr.heap.size,g',L',rfl,hK,hsz,hg,fun n hn=>HM.out.new n (by omega),hE.allocR _⟩
set_option maxRecDepth 20000 in
theorem KAt_c (s g:Nat) (C:Cfg) (B:Nat) (L:Nat→Lev) (ls:Nat→List Int) (w:World) (h:KAt w s g C B L ls) (n:Nat) (hn:n≤B) :
 Calls Tryz.prog 177 #[.pointer (some ⟨s,0,none⟩),.int .i64 n] w fun e w'=>∃ M:Lev,e=.returned (.tuple #[lvV C n M,.bool true])∧LvAt w' M C n (ls n)∧w.heap.size≤M.s∧w.heap.size≤M.b∧w.heap.size≤M.c∧Ext w w':=by
 go_enter Tryz.func177,Tryz.ntmps177
 go_wp2_with fail
 refine (level_yes s g C B L ls w h n hn).mono ?_
 rintro e w1 ⟨rfl,rfl⟩
 go_wp2_with fail
 refine (LCopy_c C n (L n) (ls n) _ (h.lev n hn)).mono ?_
 rintro e w2 ⟨M,rfl,hL,n1,n2,n3,hx2⟩
 go_wp2
 go_ret2
 exact ⟨M,rfl,hL,n1,n2,n3,hx2⟩
end Go.Proofs.YtmalncfcgcebhaaGreatDoor
namespace Go.Proofs.YtmalncfcgcebhaaGreatDoor
set_option linter.unusedVariables false
open Go.RowKit
theorem Put_e (b c W:Nat) (l:List Int) (w:World) (h:GAt w b c 1 W l) (k:Nat) (hk:k < W) (n:Int) :
 Calls Tryz.prog 321 #[.pointer (some ⟨b,0,none⟩),.int .i64 0,.int .i64 k,.int .i64 n] w fun e w'=>e=.returned (.bool true)∧w.setCell ⟨c,k,none⟩ (.int .i64 n)=w':=by
 have:=Put_c b c 1 W l w h 0 k (by decide) hk n
 rw [Nat.zero_mul,Nat.zero_add] at this
 exact this
set_option maxRecDepth 20000 in
set_option maxHeartbeats 4000000 in
theorem ELoad_yes (s b c:Nat) (C:Cfg) (lv:Int) (N:Nat) (l m:List Int) (v:Value) (w:World) (h:EAt w s b c C lv N l) (hv:IntsAt w v m) (hI:allI m) (hl:m.length=N)
 (hne:∀ g off n cap,v=.slice (some ⟨g,off,none⟩) n cap→g≠c) :
 Calls Tryz.prog 316 #[.pointer (some ⟨s,0,none⟩),v] w fun e w'=>e=.returned (.bool true)∧EAt w' s b c C lv N m∧Mod (fun k=>k=c) w w':=by
 have hN1:1≤N:=h.g.w1
 have hN2:N≤128:=h.g.w2
 obtain ⟨vg,vo,vcap,rfl,hvl,hvc⟩:=hv.slice (by rw [hl]; omega)
 have hgc:vg≠c:=hne _ _ _ _ rfl
 have hLl:=h.len
 rw [hl] at hvc ⊢
 have c6:=(cell_of h.ex 6).trans rfl
 have lts:=h.lts
 have HH:=Lib.hid h
 have HVC:=Lib.hid hvc
 have HL:=Lib.hid hl
 have HLL:=Lib.hid hLl
 clear h hv hl hne hvc hLl
 go_enter Tryz.func316,Tryz.ntmps316
 go_wp2_with fail
 refine Calls.mono (Width_c b c 1 N l _ HH.out.g) ?_
 rintro e w1 ⟨rfl,hx1⟩
 subst hx1
 clear c6
 go_wp2_with fail
 go_loopw [17] (fun u23 wr=>∃ k:Nat,k≤N∧u23=.int .i64 k∧EAt wr s b c C lv N (mixL (fun j=>m.getD j 0) (fun j=>l.getD j 0) k N)∧Mod (fun i=>i=c) w wr) (fun u23 _=>N - (intOf u23).toNat)
 case atStart =>
  refine ⟨0,Nat.zero_le _,rfl, ?_,Mod.refl _ _⟩
  have e:mixL (fun j=>m.getD j 0) (fun j=>l.getD j 0) 0 N=l:=by
   apply list_ext_getD
   · rw [mixL_len,HLL.out]
   · intro i hi
     rw [mixL_len] at hi
     rw [mixL_get _ _ hi,if_neg (by omega)]
  rw [e]; exact HH.out
 case round =>
  obtain ⟨k,hk,rfl,hSr,hM⟩:=hrel
  have hMs:=hM.size
  by_cases hgo:k < N
  · have x0:=(mcell hM (b:=vg) hvl hgc (vo+k)).trans (HVC.out k hgo)
    have c6:=(cell_of hSr.ex 6).trans rfl
    have lr:=hSr.lts
    have hlr:vg < wr.heap.size:=by omega
    have hxi:I64 (m.getD k 0):=getD_i64 hI k
    have hms:=mixL_set (fun j=>m.getD j 0) (fun j=>l.getD j 0) (k:=k) (n:=N)
    have HMS:=Lib.hid hms
    have HSR:=Lib.hid hSr
    clear hms hSr
    generalize hx:m.getD k 0=x at *
    have HX:=Lib.hid hx
    clear hx
    go_wp2_with fail
    refine Calls.mono (Put_e b c N _ _ HSR.out.g k hgo x) ?_
    rintro e w2 ⟨rfl,rfl⟩
    go_wp2
    go_roundw
    case rel =>
     refine ⟨k+1,by omega,by go_num, ?_,mod_put' hM _⟩
     rw [← HMS.out]
     exact HSR.out.setl (by rw [mixL_len]; exact hgo) hxi
    case measure=>simp [intOf]; omega
  · obtain rfl:k=N:=by omega
    have e:mixL (fun j=>m.getD j 0) (fun j=>l.getD j 0) k k=m:=by
     apply list_ext_getD
     · rw [mixL_len,HL.out]
     · intro i hi
       rw [mixL_len] at hi
       rw [mixL_get _ _ hi,if_pos hi]
    rw [e] at hSr
    have HSR:=Lib.hid hSr
    clear hSr e
    go_wp2
    go_ret
    exact ⟨rfl,HSR.out,hM⟩
set_option maxRecDepth 20000 in
set_option maxHeartbeats 2000000 in
theorem KLoad_yes (s g:Nat) (C:Cfg) (B:Nat) (L:Nat→Lev) (ls:Nat→List Int) (w:World) (h:KAt w s g C B L ls) (n:Nat) (hn:n≤B) (m:List Int) (v:Value) (hv:IntsAt w v m) (hI:allI m) (hl:m.length=lvN C n)
 (hne:∀ g off k cap,v=.slice (some ⟨g,off,none⟩) k cap→g≠(L n).c) :
 Calls Tryz.prog 58 #[.pointer (some ⟨s,0,none⟩),.int .i64 n,v] w fun e w'=>e=.returned (.bool true)∧KAt w' s g C B L (fun k=>if k=n then m else ls k)∧Mod (fun k=>k=(L n).c) w w':=by
 cases hx:isX C n with
 | true =>
   have hA:=(h.lev n hn).x hx
   have hl':m.length=kN C n:=by rw [hl]; unfold lvN; rw [hx]; rfl
   have HX:=Lib.hid hx
   clear hx
   go_enter Tryz.func58,Tryz.ntmps58
   go_wp2_with fail
   refine (level_yes s g C B L ls w h n hn).mono ?_
   rintro e w1 ⟨rfl,rfl⟩
   rw [lvV_x HX.out]
   go_wp2_with fail
   refine Calls.mono (ELoad_yes _ _ _ C _ _ _ m v _ hA hv hI hl' hne) ?_
   rintro e w2 ⟨rfl,hA2,hM⟩
   go_wp2
   go_ret
   exact ⟨rfl,h.put hn hM (.inl ⟨HX.out,hA2⟩),hM⟩
 | false =>
   have hA:=(h.lev n hn).sk hx
   have hl':m.length=rN C*wN C:=by rw [hl]; unfold lvN; rw [hx]; rfl
   have HX:=Lib.hid hx
   clear hx
   go_enter Tryz.func58,Tryz.ntmps58
   go_wp2_with fail
   refine (level_yes s g C B L ls w h n hn).mono ?_
   rintro e w1 ⟨rfl,rfl⟩
   rw [lvV_s HX.out]
   go_wp2_with fail
   refine Calls.mono (Load_yes _ _ _ C _ _ _ _ m v _ hA hv hI hl' hne) ?_
   rintro e w2 ⟨rfl,hA2,hM⟩
   go_wp2
   go_ret
   exact ⟨rfl,h.put hn hM (.inr ⟨HX.out,hA2⟩),hM⟩
end Go.Proofs.YtmalncfcgcebhaaGreatDoor
namespace Go.Proofs.YtmalncfcgcebhaaGreatDoor
set_option linter.unusedVariables false
open Go.RowKit
theorem own_row1 {w:World} {N:Nat} {u:Value} {xs:List Int} (h:w.ownsRow N 2 1 u xs.length (ints xs)) (hx:0 < xs.length) :
 ∃ z cap cur,u=.slice (some ⟨z,0,none⟩) xs.length cap∧xs.length≤cap∧N≤z∧w.heap[z]?=some (.cells cur 2 (0,0))∧∀ j,j < xs.length→cur[j]?=some (.int .i64 (xs.getD j 0)):=by
 obtain ⟨z,cap,hv,hz,hc⟩:=CAt.of_row h hx
 obtain ⟨cur,h1,h2,h3⟩:=hc.ex
 exact ⟨z,cap,cur,hv,hc.le,hz,h1,fun j hj=>by rw [← cell_of h1]; exact hc.cell hj⟩
theorem info_row:∃ i z,Tryz.prog.info? 47=some i∧i.zero=some z∧i.size=1∧i.bytes=24∧z.cells.size=1:=by
 have h:(Tryz.prog.info? 47).map (fun i=>(i.zero,i.size,i.bytes))=some (some (.slice none 0 0),1,24):=by kernel_rfl
 match hi:Tryz.prog.info? 47,h with
 | some i,h =>
   simp only [Option.map_some,Option.some.injEq,Prod.mk.injEq] at h
   exact ⟨i,.slice none 0 0,rfl,h.1,h.2.1,h.2.2,rfl⟩
section
variable {P:Program}
theorem wpList_appB (W:World) {ops:Array Oper} {rest:List Oper} {o:Oper} {a:Act} {Q:Exit→Act→World→Prop} (by_:Nat) (hby:by_≤64) (x:Value) (hx1:x.oneCell'=true) (xs:List Value) (v:Value) (base:Nat) (e:TypeId) (hown:W.ownsRow base e 1 v xs.length xs) (t:TypeId)
 (hgd:o.guard=none) (s y:Operand) (ho:o.op=.call { callee:=.builtin .append,args:=#[s,y],argTypes:=#[t,t] })
 (i0:TypeInfo) (z0:Value) (hi:P.info? e=some i0) (hz0:i0.zero=some z0) (hz1:i0.size=1) (hz2:i0.bytes=by_) (hz3:z0.cells.size=1) (ht:P.underlying t=some (.slice e))
 (hs:a.eval s=v) (hx:a.eval y=.slice (some ⟨W.heap.size,0,none⟩) 1 1)
 (hl:xs.length≤1000000) (hbase:base≤W.heap.size)
 (h:∀ v' w',w'.ownsRow base e 1 v' (xs++[x]).length (xs++[x])→(W.alloc (.cells #[x] e)).grownBy w' v.ownBlock→wpList P ops Q rest (a.put o.dst v') w') :
 wpList P ops Q (o :: rest) a (W.alloc (.cells #[x] e)):=by
 refine wpList_append_sep _ hgd s y t ho base e i0 z0 1 by_ ht hi hz0 hz1 hz2 hz3 (by decide) v xs.length xs hs (hown.alloc _) ⟨W.heap.size,0,none⟩ 1 1 [x] hx rfl ?_ ?_ (by unfold maxLen; omega) ?_ (by rw [size_alloc]; omega) ?_
 · intro j u hu
   have hj:j=0:=by
    have:=(List.getElem?_eq_some_iff.1 hu).1
    simp at this; exact this
   subst hj
   rw [show (⟨W.heap.size,0,none⟩:Addr).add 0=⟨W.heap.size,0,none⟩ by simp [Addr.add],cell_of (heap_at W _ rfl) 0]
   exact hu
 · intro u hu
   simp at hu
   subst hu
   exact hx1
 · have:(xs.length+1)*by_≤1000001*64:=Nat.mul_le_mul (by omega) hby
   omega
 · intro v' w' h1 h2 h3
   refine h v' w' ?_ h2
   rw [List.length_append]
   exact h1
end
end Go.Proofs.YtmalncfcgcebhaaGreatDoor
namespace Go.Proofs.YtmalncfcgcebhaaGreatDoor
set_option linter.unusedVariables false
open Go.RowKit
def RowIs (w:World) (B0:Nat) (u:Value) (xs:List Int):Prop :=
 ∃ z cap cur,u=.slice (some ⟨z,0,none⟩) xs.length cap∧xs.length≤cap∧B0≤z∧w.heap[z]?=some (.cells cur 2 (0,0))∧∀ j,j < xs.length→cur[j]?=some (.int .i64 (xs.getD j 0))
theorem RowIs.ext {w w':World} {B0:Nat} {u:Value} {xs:List Int} (h:RowIs w B0 u xs) (he:Ext w w'):RowIs w' B0 u xs:=by
 obtain ⟨z,cap,cur,h1,h2,h3,h4,h5⟩:=h
 exact ⟨z,cap,cur,h1,h2,h3,he.keep h4,h5⟩
theorem RowIs.mod {S:Nat→Prop} {w w':World} {B0:Nat} {u:Value} {xs:List Int} (h:RowIs w B0 u xs) (he:Mod S w w') (hS:∀ k,S k→k < B0):RowIs w' B0 u xs:=by
 obtain ⟨z,cap,cur,h1,h2,h3,h4,h5⟩:=h
 exact ⟨z,cap,cur,h1,h2,h3,he.keep h4 (fun hs=>by have:=hS z hs; omega),h5⟩
theorem RowIs.ints {w:World} {B0:Nat} {u:Value} {xs:List Int} (h:RowIs w B0 u xs):IntsAt w u xs:=by
 obtain ⟨z,cap,cur,h1,h2,h3,h4,h5⟩:=h
 exact .inr ⟨z,0,cap,h1,lt_of h4,fun k hk=>by rw [Nat.zero_add,cell_of h4]; exact h5 k hk⟩
structure RowsAt (w:World) (B0 k:Nat) (v:Value) (rv:Nat→Value) (ms:Nat→List Int):Prop where
 row:w.ownsRow B0 47 1 v ((List.range k).map rv).length ((List.range k).map rv)
 is:∀ r,r < k→RowIs w B0 (rv r) (ms r)
theorem RowsAt.zero (w:World) (B0:Nat) (rv:Nat→Value) (ms:Nat→List Int):RowsAt w B0 0 (.slice none 0 0) rv ms:=⟨⟨rfl,.inl ⟨rfl,rfl⟩⟩,by intros; omega⟩
theorem RowsAt.ext {w w':World} {B0 k:Nat} {v:Value} {rv:Nat→Value} {ms:Nat→List Int} (h:RowsAt w B0 k v rv ms) (he:Ext w w'):RowsAt w' B0 k v rv ms:=⟨own_ext h.row he,fun r hr=>(h.is r hr).ext he⟩
theorem RowsAt.next {w w':World} {B0 k:Nat} {v v':Value} {rv:Nat→Value} {ms:Nat→List Int} {u:Value} {o:Obj} (h:RowsAt w B0 k v rv ms) (hu:RowIs w B0 u (ms k))
 (hown:w'.ownsRow B0 47 1 v' ((List.range k).map rv++[u]).length ((List.range k).map rv++[u])) (hg:(w.alloc o).grownBy w' v.ownBlock):RowsAt w' B0 (k+1) v' (fun r=>if r=k then u else rv r) ms:=by
 have hold:∀ u xs,RowIs w B0 u xs→RowIs w' B0 u xs:=by
  rintro u xs ⟨z,cap,cur,h1,h2,h3,h4,h5⟩
  exact ⟨z,cap,cur,h1,h2,h3,(grown_old hg (lt_of h4) (fun e=>own_notB h.row h4 (by decide) e.symm)).trans h4,h5⟩
 refine ⟨?_,fun r hr=>?_⟩
 · have e:(List.range (k+1)).map (fun r=>if r=k then u else rv r)=(List.range k).map rv++[u]:=by
    rw [List.range_succ,List.map_append]
    congr 1
    · apply List.map_congr_left
      intro i hi
      rw [List.mem_range] at hi
      rw [if_neg (by omega)]
    · simp
   rw [e]; exact hown
 · by_cases e:r=k
   · rw [if_pos e,e]; exact hold _ _ hu
   · rw [if_neg e]; exact hold _ _ (h.is r (by omega))
theorem RowsAt.cells {w:World} {B0 k:Nat} {v:Value} {rv:Nat→Value} {ms:Nat→List Int} (h:RowsAt w B0 k v rv ms) (hk:0 < k):∃ m cap,v=.slice (some ⟨m,0,none⟩) k cap∧B0≤m∧m < w.heap.size∧∀ r,r < k→w.cell? ⟨m,r,none⟩=some (rv r):=by
 have hlen:((List.range k).map rv).length=k:=by simp
 rcases h.row.2 with ⟨_,h0⟩ | ⟨m,cap,cur,rfl,hbg,hm,hnc,hcm,hcs,htake⟩
 · rw [hlen] at h0; omega
 · refine ⟨m,cap,by rw [hlen],hbg,lt_of hm,fun r hr=>?_⟩
   have hget:((List.range k).map rv)[r]?=some (rv r):=by rw [List.getElem?_map,List.getElem?_range hr]; rfl
   have h1:=h.row.cells (g:=m) rfl r _ hget
   rw [show ((⟨m,0,none⟩:Addr).add r)=⟨m,r,none⟩ by (simp [Addr.add]; intro e; exact e.symm)] at h1
   exact h1
theorem lvN_pos {C:Cfg} (hok:C.Ok) {lv:Int} (h0:0≤lv):0 < lvN C lv:=by
 unfold lvN
 cases isX C lv with
 | true=>show 0 < kN C lv; have:=kN_eq hok h0; have:=(keys_bd C hok lv h0).1; omega
 | false=>show 0 < rN C*wN C; have:=rN_eq hok; have:=wN_eq hok; have:=hok.r1; have:=hok.w1; exact Nat.mul_pos (by omega) (by omega)
set_option maxRecDepth 20000 in
set_option maxHeartbeats 4000000 in
theorem KAlike_yes (s g s2 g2:Nat) (C:Cfg) (B:Nat) (L L2:Nat→Lev) (ls ls2:Nat→List Int) (w:World) (h:KAt w s g C B L ls) (h2:KAt w s2 g2 C B L2 ls2) :
 Calls Tryz.prog 176 #[.pointer (some ⟨s,0,none⟩),.pointer (some ⟨s2,0,none⟩)] w fun e w'=>e=.returned (.bool true)∧Ext w w':=by
 go_enter Tryz.func176,Tryz.ntmps176
 go_wp2_with fail
 refine Calls.mono (SKConfig_c s g C B L ls _ h) ?_
 rintro e w1 ⟨rfl,hx1⟩
 go_wp2_with fail
 refine Calls.mono (SKConfig_c s2 g2 C B L2 ls2 _ (h2.ext hx1)) ?_
 rintro e w2 ⟨rfl,hx2⟩
 go_wp2
 go_ret
 exact ⟨by first | rfl | simp,hx1.trans' hx2⟩
set_option maxRecDepth 20000 in
set_option maxHeartbeats 4000000 in
theorem KAlike_no (s g s2 g2:Nat) (C C2:Cfg) (B B2:Nat) (L L2:Nat→Lev) (ls ls2:Nat→List Int) (w:World) (h:KAt w s g C B L ls) (h2:KAt w s2 g2 C2 B2 L2 ls2) (hne:C≠C2) :
 Calls Tryz.prog 176 #[.pointer (some ⟨s,0,none⟩),.pointer (some ⟨s2,0,none⟩)] w fun e w'=>e=.returned (.bool false)∧Ext w w':=by
 have hp:PartsAt C 0 C2 0:=(parts_or C 0 C2 0).resolve_left (fun h=>hne h.1)
 rcases hp with h' | ⟨h0,h'⟩ | ⟨h0,h1,h'⟩ | ⟨h0,h1,h3,h'⟩ | ⟨h0,h1,h3,h4,h'⟩ | ⟨h0,h1,h3,h4,h5,h'⟩
 case p5=>simp at h'
 all_goals
  go_enter Tryz.func176,Tryz.ntmps176
  go_wp2_with fail
  refine Calls.mono (SKConfig_c s g C B L ls _ h) ?_
  rintro e w1 ⟨rfl,hx1⟩
  go_wp2_with fail
  refine Calls.mono (SKConfig_c s2 g2 C2 B2 L2 ls2 _ (h2.ext hx1)) ?_
  rintro e w2 ⟨rfl,hx2⟩
  go_wp2
  go_ret
  exact ⟨by first | rfl | simp,hx1.trans' hx2⟩
def KJoinPost (w:World) (s g:Nat) (C:Cfg) (B:Nat) (L:Nat→Lev) (ms:Nat→List Int) (e:Ending) (w':World):Prop :=
 ((∀ n,n≤B→allI (ms n))∧e=.returned (.int .i64 0)∧KAt w' s g C B L ms∧Mod (cellsOf B L) w w')∨((¬ ∀ n,n≤B→allI (ms n))∧e=.returned (.int .i64 4)∧Ext w w')
set_option maxRecDepth 20000 in
set_option maxHeartbeats 8000000 in
theorem KAllMerge_c (s g s2 g2 : Nat) (C : Cfg) (B : Nat) (L L2 : Nat → Lev) (ls ls2 : Nat → List Int) (w : World) (h : KAt w s g C B L ls) (h2 : KAt w s2 g2 C B L2 ls2) (hmd : "Merge" = "Subtract" → C.mode ≠ 2) :
 Calls Tryz.prog 180 #[.agg #[.func (.func 179) #[] #[]],.pointer (some ⟨s,0,none⟩),.pointer (some ⟨s2,0,none⟩)] w (KJoinPost w s g C B L (fun n=>plusL (ls n) (ls2 n))):=by
 have HH:=Lib.hid h
 have HH2:=Lib.hid h2
 have hok:=h.ok
 have hB:=h.hB
 have hb1:=hok.b1
 have hb2:=hok.b2
 have hB59:B≤59:=by omega
 have HB:=Lib.hid hB
 have HMD:=Lib.hid hmd
 have hlen:∀ n,n≤B→(plusL (ls n) (ls2 n)).length=lvN C n:=fun n hn=>by rw [plusL_len]; exact (h.lev n hn).len
 have HLEN:=Lib.hid hlen
 obtain ⟨ms,hms⟩:∃ ms:Nat→List Int,ms=fun n=>plusL (ls n) (ls2 n):=⟨_,rfl⟩
 have HMS:=Lib.hid (show ∀ n,plusL (ls n) (ls2 n)=ms n from fun n=>by rw [hms])
 rw [← hms]
 clear h h2 hB hmd hlen hms
 go_enter Tryz.func180,Tryz.ntmps180
 go_wp2
 go_step3
 go_wp2_with fail
 refine Calls.mono (KAlike_yes s g s2 g2 C B L L2 ls ls2 _ (HH.out.ext (Ext.alloc' _ _)) (HH2.out.ext (Ext.alloc' _ _))) ?_
 rintro e w1 ⟨rfl,hx1⟩
 have hj1:=hx1.keep (heap_at w (.cells #[.func (.func 179) #[] #[]] 298) rfl)
 have hE1:Ext w w1:=(Ext.alloc' _ _).trans' hx1
 clear hx1
 go_wp2
 go_step3
 go_wp2_with fail
 refine Calls.mono (SKConfig_c s g C B L ls _ (HH.out.ext hE1)) ?_
 rintro e w2 ⟨rfl,hx2⟩
 have hj2:=hx2.keep hj1
 have hE2:Ext w w2:=hE1.trans' hx2
 clear hj1 hx2 hE1
 have hfd:∀ w,(Instr.field 24 (.agg #[.int .i64 C.bits,.int .i64 C.rows,.int .i64 C.width,.int .i64 C.mode,.int .u64 C.seed]) 0).run Tryz.prog w=.ok (.int .i64 C.bits) w:=fun _=>by kernel_rfl
 go_wp2
 go_loopw [7,8,24] (fun u7 u8 u24 wr=>∃ (k:Nat) (rv:Nat→Value),k≤B+1∧u24=.int .i64 k∧u8=.int .i64 0∧RowsAt wr w.heap.size k u7 rv ms∧Ext w wr∧wr.heap[w.heap.size]?=some (.cells #[.func (.func 179) #[] #[]] 298 (0,0))∧∀ n,n < k→allI (ms n)) (fun _ _ u24 _=>B+1 - (intOf u24).toNat)
 case atStart=>exact ⟨0,fun _=>undef,Nat.zero_le _,rfl,rfl,RowsAt.zero _ _ _ _,hE2,hj2,fun n hn=>absurd hn (Nat.not_lt_zero _)⟩
 case round =>
  clear hE2 hj2
  obtain ⟨k,rv,hk,rfl,rfl,hR,hE,hj,hall⟩:=hrel
  have HALL:=Lib.hid hall
  have HR:=Lib.hid hR
  have HJ:=Lib.hid hj
  have hsE:=hE.size
  clear hall hR hj
  by_cases hlt:k < B+1
  · have hlt':(k:Int) < C.bits+1:=by have:=HB.out; omega
    go_wp2_with fail
    refine Calls.mono (KAt_c s g C B L ls _ (HH.out.ext hE) k (by omega)) ?_
    rintro e w3 ⟨M,rfl,hL,m1,m2,m3,hx3⟩
    have hE3:=hE.trans' hx3
    have hs3:=hx3.size
    rw [lvV_eq]
    have HL:=Lib.hid hL
    clear hL
    go_wp2_with fail
    refine Calls.mono (KAt_c s2 g2 C B L2 ls2 _ (HH2.out.ext hE3) k (by omega)) ?_
    rintro e w4 ⟨M2,rfl,hL2,n1,n2,n3,hx4⟩
    have hE4:=hE3.trans' hx4
    rw [lvV_eq]
    have HL4:=Lib.hid (HL.out.ext hx4)
    have HL2:=Lib.hid hL2
    have hj4:=(hx3.trans' hx4).keep HJ.out
    have c0:=(cell_of hj4 0).trans rfl
    have l0:=lt_of hj4
    clear hL2 HL
    have hcall:Calls Tryz.prog 179 #[.iface (lvT C k) (.pointer (some ⟨M.s,0,none⟩)),.iface (lvT C k) (.pointer (some ⟨M2.s,0,none⟩))] w4 (LMergePost w4 M C k (ms k)):=by
     rw [← HMS.out k]
     first | exact LMerge_c C k M M2 _ _ w4 HL4.out HL2.out | exact LSubtract_c C k M M2 _ _ w4 HL4.out HL2.out (HMD.out (by first | rfl | trivial))
    have HCALL:=Lib.hid hcall
    clear hcall
    have hs4:=hx4.size
    go_wp2_with fail
    refine Calls.mono HCALL.out ?_
    rintro e w5 (⟨ha,rfl,hL5,hm5⟩ | ⟨ha,rfl,hx5⟩)
    · have hE5:Ext wr w5:=Below.trans (hx3.trans' hx4) (hm5.below (by omega) (fun i hi=>by rw [hi]; exact m3))
      have hj5:=hE5.keep HJ.out
      have HL5:=Lib.hid hL5
      have HA:=Lib.hid ha
      have HJ5:=Lib.hid hj5
      have mC:=lvm_Cells C k (some ⟨M.s,0,none⟩)
      have eC:=lve_Cells C k
      clear hL5 hm5 ha hj5 hj4 c0 l0 hx3 hx4 hE3 hE4
      go_wp2_with fail
      refine Calls.mono (LCells_c C k M _ _ HL5.out) ?_
      rintro e w6 ⟨v,rfl,ho,_,hx6⟩
      have hE6:=hE5.trans' hx6
      have hpos:0 < (ms k).length:=by rw [HL5.out.len]; exact lvN_pos hok (Int.natCast_nonneg k)
      have hu:RowIs w6 w.heap.size v (ms k):=by
       obtain ⟨z,cap,cur,r1,r2,r3,r4,r5⟩:=own_row1 ho hpos
       exact ⟨z,cap,cur,r1,r2,by have:=hE5.size; omega,r4,r5⟩
      have hR6:=HR.out.ext hE6
      have hj6:=hx6.keep HJ5.out
      have HU:=Lib.hid hu
      have HR6:=Lib.hid hR6
      have HJ6:=Lib.hid hj6
      obtain ⟨vp,vc,rfl⟩:∃ p c,v=.slice p (ms k).length c:=by obtain ⟨z,cap,cur,r1,_⟩:=hu; exact ⟨_,_,r1⟩
      have hs6:=hE6.size
      obtain ⟨i0,z0,hi0,hz0,hz1,hz2,hz3⟩:=info_row
      clear mC eC hu hR6 hj6 ho hx6 hE5
      go_wp2_with (at_builtin; refine wpList_appB w6 24 (by decide) (.slice vp (ms k).length vc) rfl ((List.range k).map rv) u7 w.heap.size 47 HR6.out.row 362 rfl _ _ rfl i0 z0 hi0 hz0 hz1 hz2 hz3 Tryz.underlying362 rfl rfl ?b1 ?b2 ?_)
      case b1=>rw [List.length_map,List.length_range]; omega
      case b2=>omega
      intro v' w' g1 g2
      have hown':=g1
      have hnext:=HR6.out.next HU.out (by rw [List.length_append,List.length_map,List.length_range]; exact hown') g2
      have hEw:Ext w w':=ext_grown (hE.trans' hE6) g2 (fun i hi=>own_blk HR6.out.row hi)
      have hjw:=(grown_old g2 (lt_of HJ6.out) (fun e=>own_notB HR6.out.row HJ6.out (by decide) e.symm)).trans HJ6.out
      obtain ⟨pv,nv,cv,rfl⟩:=own_slice g1
      have HN:=Lib.hid hnext
      have HJW:=Lib.hid hjw
      clear g1 g2 hnext hown' hjw
      go_wp2
      go_roundw
      case rel =>
       refine ⟨k+1,_,by omega,by go_num,rfl,HN.out,hEw,HJW.out,fun n hn=>?_⟩
       by_cases e:n=k
       · rw [e]; exact HA.out
       · exact HALL.out n (by omega)
      case measure=>simp [intOf]; omega
    · go_wp2
      try rw [Exit.noGoto_ret]
      go_ret
      exact .inr ⟨fun h=>ha (h k (by omega)),rfl,hE4.trans' hx5⟩
  · obtain rfl:k=B+1:=by omega
    have hlt':¬ (((B+1:Nat):Int) < C.bits+1):=by have:=HB.out; omega
    rename World=>wo
    obtain ⟨m,mc,rfl,hmB,hml,hmc⟩:=HR.out.cells (by omega)
    have HMC:=Lib.hid hmc
    have hlc:∀ i,cellsOf B L i→i < w.heap.size:=fun i hi=>HH.out.ltc hi
    have HLC:=Lib.hid hlc
    have HK0:=Lib.hid (HH.out.ext hE)
    clear hmc hlc
    go_wp2
    go_loopw [57] (fun u57 wr=>∃ j:Nat,j≤B+1∧u57=.int .i64 j∧Mod (cellsOf B L) wo wr∧KAt wr s g C B L (fun n=>if n < j then ms n else ls n)) (fun u57 _=>B+1 - (intOf u57).toNat)
    case atStart=>exact ⟨0,Nat.zero_le _,rfl,Mod.refl _ _,HK0.out.cong (fun n _=>by rw [if_neg (Nat.not_lt_zero _)])⟩
    case round =>
     obtain ⟨j,hj,rfl,hM,hK⟩:=hrel
     have hsM:=hM.size
     by_cases hjl:j < B+1
     · have hRj:=(HR.out.is j hjl).mod hM HLC.out
       have hcj:=(mcell hM hml (fun h=>by have:=HLC.out _ h; omega) _).trans (HMC.out j hjl)
       have lm:m < wr.heap.size:=Nat.lt_of_lt_of_le hml hsM
       have HK:=Lib.hid hK
       have HRJ:=Lib.hid hRj
       obtain ⟨zp,zc,hzz⟩:∃ p c,rv j=.slice p (ms j).length c:=by obtain ⟨z,cap,cur,r1,_⟩:=hRj; exact ⟨_,_,r1⟩
       rw [hzz] at hcj HRJ
       clear hK hRj hzz
       go_wp2_with fail
       refine Calls.mono (KLoad_yes s g C B L _ _ HK.out j (by omega) (ms j) _ HRJ.out.ints (HALL.out j hjl) (by rw [← HMS.out j]; exact HLEN.out j (by omega)) ?_) ?_
       · rintro g' off k' cap' he e
         obtain ⟨z,cap,cur,r1,r2,r3,_⟩:=HRJ.out
         rw [he] at r1
         have:g'=z:=by
          have h1:=(Value.slice.inj r1).1
          simp at h1
          exact h1.1
         have:=HLC.out _ ⟨j,by omega,rfl⟩
         omega
       rintro e w5 ⟨rfl,hK5,hm5⟩
       go_wp2
       go_roundw
       case rel =>
        refine ⟨j+1,by omega,by go_num,hM.trans (hm5.mono (fun i hi _=>⟨j,by omega,hi⟩)),hK5.cong (fun n _=>?_)⟩
        by_cases e:n=j
        · rw [if_pos e,if_pos (by omega),e]
        · rw [if_neg e]
          by_cases h:n < j
          · rw [if_pos h,if_pos (by omega)]
          · rw [if_neg h,if_neg (by omega)]
       case measure=>simp [intOf]; omega
     · obtain rfl:j=B+1:=by omega
       go_wp2
       try rw [Exit.noGoto_ret]
       go_ret
       exact .inl ⟨fun n hn=>HALL.out n (by omega),rfl,hK.cong (fun n hn=>if_pos (by omega)),(hE.mod _).trans hM⟩
set_option maxRecDepth 20000 in
set_option maxHeartbeats 8000000 in
theorem KAllSubtract_c (s g s2 g2 : Nat) (C : Cfg) (B : Nat) (L L2 : Nat → Lev) (ls ls2 : Nat → List Int) (w : World) (h : KAt w s g C B L ls) (h2 : KAt w s2 g2 C B L2 ls2) (hmd : "Subtract" = "Subtract" → C.mode ≠ 2) :
 Calls Tryz.prog 180 #[.agg #[.func (.func 181) #[] #[]],.pointer (some ⟨s,0,none⟩),.pointer (some ⟨s2,0,none⟩)] w (KJoinPost w s g C B L (fun n=>minusL (ls n) (ls2 n))):=by
 have HH:=Lib.hid h
 have HH2:=Lib.hid h2
 have hok:=h.ok
 have hB:=h.hB
 have hb1:=hok.b1
 have hb2:=hok.b2
 have hB59:B≤59:=by omega
 have HB:=Lib.hid hB
 have HMD:=Lib.hid hmd
 have hlen:∀ n,n≤B→(minusL (ls n) (ls2 n)).length=lvN C n:=fun n hn=>by rw [minusL_len]; exact (h.lev n hn).len
 have HLEN:=Lib.hid hlen
 obtain ⟨ms,hms⟩:∃ ms:Nat→List Int,ms=fun n=>minusL (ls n) (ls2 n):=⟨_,rfl⟩
 have HMS:=Lib.hid (show ∀ n,minusL (ls n) (ls2 n)=ms n from fun n=>by rw [hms])
 rw [← hms]
 clear h h2 hB hmd hlen hms
 go_enter Tryz.func180,Tryz.ntmps180
 go_wp2
 go_step3
 go_wp2_with fail
 refine Calls.mono (KAlike_yes s g s2 g2 C B L L2 ls ls2 _ (HH.out.ext (Ext.alloc' _ _)) (HH2.out.ext (Ext.alloc' _ _))) ?_
 rintro e w1 ⟨rfl,hx1⟩
 have hj1:=hx1.keep (heap_at w (.cells #[.func (.func 181) #[] #[]] 298) rfl)
 have hE1:Ext w w1:=(Ext.alloc' _ _).trans' hx1
 clear hx1
 go_wp2
 go_step3
 go_wp2_with fail
 refine Calls.mono (SKConfig_c s g C B L ls _ (HH.out.ext hE1)) ?_
 rintro e w2 ⟨rfl,hx2⟩
 have hj2:=hx2.keep hj1
 have hE2:Ext w w2:=hE1.trans' hx2
 clear hj1 hx2 hE1
 have hfd:∀ w,(Instr.field 24 (.agg #[.int .i64 C.bits,.int .i64 C.rows,.int .i64 C.width,.int .i64 C.mode,.int .u64 C.seed]) 0).run Tryz.prog w=.ok (.int .i64 C.bits) w:=fun _=>by kernel_rfl
 go_wp2
 go_loopw [7,8,24] (fun u7 u8 u24 wr=>∃ (k:Nat) (rv:Nat→Value),k≤B+1∧u24=.int .i64 k∧u8=.int .i64 0∧RowsAt wr w.heap.size k u7 rv ms∧Ext w wr∧wr.heap[w.heap.size]?=some (.cells #[.func (.func 181) #[] #[]] 298 (0,0))∧∀ n,n < k→allI (ms n)) (fun _ _ u24 _=>B+1 - (intOf u24).toNat)
 case atStart=>exact ⟨0,fun _=>undef,Nat.zero_le _,rfl,rfl,RowsAt.zero _ _ _ _,hE2,hj2,fun n hn=>absurd hn (Nat.not_lt_zero _)⟩
 case round =>
  clear hE2 hj2
  obtain ⟨k,rv,hk,rfl,rfl,hR,hE,hj,hall⟩:=hrel
  have HALL:=Lib.hid hall
  have HR:=Lib.hid hR
  have HJ:=Lib.hid hj
  have hsE:=hE.size
  clear hall hR hj
  by_cases hlt:k < B+1
  · have hlt':(k:Int) < C.bits+1:=by have:=HB.out; omega
    go_wp2_with fail
    refine Calls.mono (KAt_c s g C B L ls _ (HH.out.ext hE) k (by omega)) ?_
    rintro e w3 ⟨M,rfl,hL,m1,m2,m3,hx3⟩
    have hE3:=hE.trans' hx3
    have hs3:=hx3.size
    rw [lvV_eq]
    have HL:=Lib.hid hL
    clear hL
    go_wp2_with fail
    refine Calls.mono (KAt_c s2 g2 C B L2 ls2 _ (HH2.out.ext hE3) k (by omega)) ?_
    rintro e w4 ⟨M2,rfl,hL2,n1,n2,n3,hx4⟩
    have hE4:=hE3.trans' hx4
    rw [lvV_eq]
    have HL4:=Lib.hid (HL.out.ext hx4)
    have HL2:=Lib.hid hL2
    have hj4:=(hx3.trans' hx4).keep HJ.out
    have c0:=(cell_of hj4 0).trans rfl
    have l0:=lt_of hj4
    clear hL2 HL
    have hcall:Calls Tryz.prog 181 #[.iface (lvT C k) (.pointer (some ⟨M.s,0,none⟩)),.iface (lvT C k) (.pointer (some ⟨M2.s,0,none⟩))] w4 (LMergePost w4 M C k (ms k)):=by
     rw [← HMS.out k]
     first | exact LMerge_c C k M M2 _ _ w4 HL4.out HL2.out | exact LSubtract_c C k M M2 _ _ w4 HL4.out HL2.out (HMD.out (by first | rfl | trivial))
    have HCALL:=Lib.hid hcall
    clear hcall
    have hs4:=hx4.size
    go_wp2_with fail
    refine Calls.mono HCALL.out ?_
    rintro e w5 (⟨ha,rfl,hL5,hm5⟩ | ⟨ha,rfl,hx5⟩)
    · have hE5:Ext wr w5:=Below.trans (hx3.trans' hx4) (hm5.below (by omega) (fun i hi=>by rw [hi]; exact m3))
      have hj5:=hE5.keep HJ.out
      have HL5:=Lib.hid hL5
      have HA:=Lib.hid ha
      have HJ5:=Lib.hid hj5
      have mC:=lvm_Cells C k (some ⟨M.s,0,none⟩)
      have eC:=lve_Cells C k
      clear hL5 hm5 ha hj5 hj4 c0 l0 hx3 hx4 hE3 hE4
      go_wp2_with fail
      refine Calls.mono (LCells_c C k M _ _ HL5.out) ?_
      rintro e w6 ⟨v,rfl,ho,_,hx6⟩
      have hE6:=hE5.trans' hx6
      have hpos:0 < (ms k).length:=by rw [HL5.out.len]; exact lvN_pos hok (Int.natCast_nonneg k)
      have hu:RowIs w6 w.heap.size v (ms k):=by
       obtain ⟨z,cap,cur,r1,r2,r3,r4,r5⟩:=own_row1 ho hpos
       exact ⟨z,cap,cur,r1,r2,by have:=hE5.size; omega,r4,r5⟩
      have hR6:=HR.out.ext hE6
      have hj6:=hx6.keep HJ5.out
      have HU:=Lib.hid hu
      have HR6:=Lib.hid hR6
      have HJ6:=Lib.hid hj6
      obtain ⟨vp,vc,rfl⟩:∃ p c,v=.slice p (ms k).length c:=by obtain ⟨z,cap,cur,r1,_⟩:=hu; exact ⟨_,_,r1⟩
      have hs6:=hE6.size
      obtain ⟨i0,z0,hi0,hz0,hz1,hz2,hz3⟩:=info_row
      clear mC eC hu hR6 hj6 ho hx6 hE5
      go_wp2_with (at_builtin; refine wpList_appB w6 24 (by decide) (.slice vp (ms k).length vc) rfl ((List.range k).map rv) u7 w.heap.size 47 HR6.out.row 362 rfl _ _ rfl i0 z0 hi0 hz0 hz1 hz2 hz3 Tryz.underlying362 rfl rfl ?b1 ?b2 ?_)
      case b1=>rw [List.length_map,List.length_range]; omega
      case b2=>omega
      intro v' w' g1 g2
      have hown':=g1
      have hnext:=HR6.out.next HU.out (by rw [List.length_append,List.length_map,List.length_range]; exact hown') g2
      have hEw:Ext w w':=ext_grown (hE.trans' hE6) g2 (fun i hi=>own_blk HR6.out.row hi)
      have hjw:=(grown_old g2 (lt_of HJ6.out) (fun e=>own_notB HR6.out.row HJ6.out (by decide) e.symm)).trans HJ6.out
      obtain ⟨pv,nv,cv,rfl⟩:=own_slice g1
      have HN:=Lib.hid hnext
      have HJW:=Lib.hid hjw
      clear g1 g2 hnext hown' hjw
      go_wp2
      go_roundw
      case rel =>
       refine ⟨k+1,_,by omega,by go_num,rfl,HN.out,hEw,HJW.out,fun n hn=>?_⟩
       by_cases e:n=k
       · rw [e]; exact HA.out
       · exact HALL.out n (by omega)
      case measure=>simp [intOf]; omega
    · go_wp2
      try rw [Exit.noGoto_ret]
      go_ret
      exact .inr ⟨fun h=>ha (h k (by omega)),rfl,hE4.trans' hx5⟩
  · obtain rfl:k=B+1:=by omega
    have hlt':¬ (((B+1:Nat):Int) < C.bits+1):=by have:=HB.out; omega
    rename World=>wo
    obtain ⟨m,mc,rfl,hmB,hml,hmc⟩:=HR.out.cells (by omega)
    have HMC:=Lib.hid hmc
    have hlc:∀ i,cellsOf B L i→i < w.heap.size:=fun i hi=>HH.out.ltc hi
    have HLC:=Lib.hid hlc
    have HK0:=Lib.hid (HH.out.ext hE)
    clear hmc hlc
    go_wp2
    go_loopw [57] (fun u57 wr=>∃ j:Nat,j≤B+1∧u57=.int .i64 j∧Mod (cellsOf B L) wo wr∧KAt wr s g C B L (fun n=>if n < j then ms n else ls n)) (fun u57 _=>B+1 - (intOf u57).toNat)
    case atStart=>exact ⟨0,Nat.zero_le _,rfl,Mod.refl _ _,HK0.out.cong (fun n _=>by rw [if_neg (Nat.not_lt_zero _)])⟩
    case round =>
     obtain ⟨j,hj,rfl,hM,hK⟩:=hrel
     have hsM:=hM.size
     by_cases hjl:j < B+1
     · have hRj:=(HR.out.is j hjl).mod hM HLC.out
       have hcj:=(mcell hM hml (fun h=>by have:=HLC.out _ h; omega) _).trans (HMC.out j hjl)
       have lm:m < wr.heap.size:=Nat.lt_of_lt_of_le hml hsM
       have HK:=Lib.hid hK
       have HRJ:=Lib.hid hRj
       obtain ⟨zp,zc,hzz⟩:∃ p c,rv j=.slice p (ms j).length c:=by obtain ⟨z,cap,cur,r1,_⟩:=hRj; exact ⟨_,_,r1⟩
       rw [hzz] at hcj HRJ
       clear hK hRj hzz
       go_wp2_with fail
       refine Calls.mono (KLoad_yes s g C B L _ _ HK.out j (by omega) (ms j) _ HRJ.out.ints (HALL.out j hjl) (by rw [← HMS.out j]; exact HLEN.out j (by omega)) ?_) ?_
       · rintro g' off k' cap' he e
         obtain ⟨z,cap,cur,r1,r2,r3,_⟩:=HRJ.out
         rw [he] at r1
         have:g'=z:=by
          have h1:=(Value.slice.inj r1).1
          simp at h1
          exact h1.1
         have:=HLC.out _ ⟨j,by omega,rfl⟩
         omega
       rintro e w5 ⟨rfl,hK5,hm5⟩
       go_wp2
       go_roundw
       case rel =>
        refine ⟨j+1,by omega,by go_num,hM.trans (hm5.mono (fun i hi _=>⟨j,by omega,hi⟩)),hK5.cong (fun n _=>?_)⟩
        by_cases e:n=j
        · rw [if_pos e,if_pos (by omega),e]
        · rw [if_neg e]
          by_cases h:n < j
          · rw [if_pos h,if_pos (by omega)]
          · rw [if_neg h,if_neg (by omega)]
       case measure=>simp [intOf]; omega
     · obtain rfl:j=B+1:=by omega
       go_wp2
       try rw [Exit.noGoto_ret]
       go_ret
       exact .inl ⟨fun n hn=>HALL.out n (by omega),rfl,hK.cong (fun n hn=>if_pos (by omega)),(hE.mod _).trans hM⟩
end Go.Proofs.YtmalncfcgcebhaaGreatDoor
namespace Go.Proofs.YtmalncfcgcebhaaGreatDoor
set_option linter.unusedVariables false
open Go.RowKit
theorem mul_abs {a b A B:Int} (ha:-A≤a∧a≤A) (hb:-B≤b∧b≤B):-(A*B)≤a*b∧a*b≤A*B:=by
 have h1:0≤(A - a)*(B+b):=Int.mul_nonneg (by omega) (by omega)
 have h2:0≤(A+a)*(B - b):=Int.mul_nonneg (by omega) (by omega)
 have h3:0≤(A - a)*(B - b):=Int.mul_nonneg (by omega) (by omega)
 have h4:0≤(A+a)*(B+b):=Int.mul_nonneg (by omega) (by omega)
 simp only [Int.mul_add,Int.add_mul,Int.sub_mul,Int.mul_sub] at h1 h2 h3 h4
 omega
theorem mul_w {a b:Int} (ha:I64 a) (hb:I64 b):W128 (a*b):=by
 unfold I64 at ha hb
 have:=mul_abs (A:=9223372036854775808) (B:=9223372036854775808) (a:=a) (b:=b) (by omega) (by omega)
 unfold W128; omega
def uu (a:Int):Int:=a % 18446744073709551616
theorem uu_u (a:Int):U64 (uu a):=by unfold uu U64; omega
def tmH (a b:Int) (b1 b2:Bool):Int :=
 let p:=uu a*uu b / 18446744073709551616
 let q:=bif b1 then IntKind.u64.wrap (p - uu b) else p
 wrap64 (bif b2 then IntKind.u64.wrap (q - uu a) else q)
theorem tm_hi {a b:Int} (ha:I64 a) (hb:I64 b) {b1 b2:Bool} (d1:decide (a < 0)=b1) (d2:decide (b < 0)=b2):tmH a b b1 b2=hi (a*b):=by
 have hw:=mul_abs (A:=9223372036854775808) (B:=9223372036854775808) (a:=a) (b:=b) (by unfold I64 at ha; omega) (by unfold I64 at hb; omega)
 have e2:(a+18446744073709551616)*b=a*b+18446744073709551616*b:=Int.add_mul _ _ _
 have e3:a*(b+18446744073709551616)=a*b+a*18446744073709551616:=Int.mul_add _ _ _
 have e4:(a+18446744073709551616)*(b+18446744073709551616)=a*b+a*18446744073709551616+(18446744073709551616*b+18446744073709551616*18446744073709551616):=by
  rw [Int.add_mul,Int.mul_add,Int.mul_add]
 have ua0:¬ a < 0→uu a=a:=fun h=>by unfold uu; unfold I64 at ha; omega
 have ua1:a < 0→uu a=a+18446744073709551616:=fun h=>by unfold uu; unfold I64 at ha; omega
 have ub0:¬ b < 0→uu b=b:=fun h=>by unfold uu; unfold I64 at hb; omega
 have ub1:b < 0→uu b=b+18446744073709551616:=fun h=>by unfold uu; unfold I64 at hb; omega
 subst d1 d2
 unfold tmH hi wrap64
 simp only [IntKind.wrap_u64]
 unfold I64 at ha hb
 by_cases h1:a < 0 <;> by_cases h2:b < 0
 · rw [ua1 h1,ub1 h2,e4]; simp only [h1,h2,decide_true,cond_true]; generalize a*b=t at *; omega
 · rw [ua1 h1,ub0 h2,e2]; simp only [h1,h2,decide_true,decide_false,cond_true,cond_false]; generalize a*b=t at *; omega
 · rw [ua0 h1,ub1 h2,e3]; simp only [h1,h2,decide_true,decide_false,cond_true,cond_false]; generalize a*b=t at *; omega
 · rw [ua0 h1,ub0 h2]; simp only [h1,h2,decide_false,cond_false]; generalize a*b=t at *; omega
theorem tm_lo (a b:Int):uu a*uu b % 18446744073709551616=lo (a*b):=by
 unfold uu lo
 rw [← Int.mul_emod]
theorem u64_wrap (a:Int):IntKind.u64.wrap a=uu a:=by rw [IntKind.wrap_u64]; rfl
set_option maxHeartbeats 1000000 in
theorem Times_core (a b:Int) (b1 b2:Bool) (d1:decide (a < 0)=b1) (d2:decide (b < 0)=b2) (w:World) :
 Calls Tryz.prog 259 #[.int .i64 a,.int .i64 b] w fun e w'=>e=.returned (.agg #[.int .i64 (tmH a b b1 b2),.int .u64 (uu a*uu b % 18446744073709551616)])∧Ext w w':=by
 have e1:=u64_wrap a
 have e2:=u64_wrap b
 cases b1 <;> cases b2
 all_goals
  go_enter Tryz.func259,Tryz.ntmps259
  go_wp2_with (go_at_call 192; refine (mul64 _ _ (uu_u a) (uu_u b) _).mono ?_; rintro e w' ⟨rfl,rfl⟩)
  exact bodyPost_ret (v:=.agg #[.int .i64 (tmH a b _ _),.int .u64 (uu a*uu b % 18446744073709551616)]) (by simp [results,Tryz.results259,go_sem,tmH]) rfl ⟨rfl,by (repeat' (first | exact Ext.refl _ | assumption | apply Ext.allocR | apply Ext.drewR | apply Ext.drewNR | (refine Ext.trans' ?_ (by assumption))))⟩
theorem Times_c (a b:Int) (ha:I64 a) (hb:I64 b) (w:World) :
 Calls Tryz.prog 259 #[.int .i64 a,.int .i64 b] w fun e w'=>e=.returned (.agg #[.int .i64 (hi (a*b)),.int .u64 (lo (a*b))])∧Ext w w':=by
 have:=Times_core a b _ _ rfl rfl w
 rwa [tm_hi ha hb rfl rfl,tm_lo] at this
theorem less_bool (x y:Int):(decide (hi x < hi y) || ((hi x == hi y) && decide (lo x < lo y)))=decide (x < y):=by
 have hx:=hilo x
 have hy:=hilo y
 have lx:=lo_u x
 have ly:=lo_u y
 unfold U64 at lx ly
 rw [Bool.eq_iff_iff]
 simp only [Bool.or_eq_true,Bool.and_eq_true,decide_eq_true_eq,beq_iff_eq]
 omega
set_option maxHeartbeats 1000000 in
theorem Less_core (x y:Int) (b1 b2 b3:Bool) (d1:decide (hi x < hi y)=b1) (d2:(hi x == hi y)=b2) (d3:decide (lo x < lo y)=b3) (w:World) :
 Calls Tryz.prog 258 #[.agg #[.int .i64 (hi x),.int .u64 (lo x)],.agg #[.int .i64 (hi y),.int .u64 (lo y)]] w fun e w'=>e=.returned (.bool (b1 || (b2 && b3)))∧Ext w w':=by
 cases b1 <;> cases b2 <;> cases b3
 all_goals
  go_enter Tryz.func258,Tryz.ntmps258
  go_wp2
  go_ret
  exact ⟨rfl,by (repeat' (first | exact Ext.refl _ | assumption | apply Ext.allocR | apply Ext.drewR | apply Ext.drewNR | (refine Ext.trans' ?_ (by assumption))))⟩
theorem Less_c (x y:Int) (w:World) :
 Calls Tryz.prog 258 #[.agg #[.int .i64 (hi x),.int .u64 (lo x)],.agg #[.int .i64 (hi y),.int .u64 (lo y)]] w fun e w'=>e=.returned (.bool (decide (x < y)))∧Ext w w':=by
 have:=Less_core x y _ _ _ rfl rfl rfl w
 rwa [less_bool] at this
end Go.Proofs.YtmalncfcgcebhaaGreatDoor
namespace Go.Proofs.YtmalncfcgcebhaaGreatDoor
set_option linter.unusedVariables false
open Go.RowKit
theorem IntsAt.sl {w:World} {v:Value} {xs:List Int} (h:IntsAt w v xs):∃ p c,v=.slice p xs.length c:=by
 rcases h with ⟨rfl,rfl⟩ | ⟨g,off,cap,rfl,_⟩
 · exact ⟨none,0,rfl⟩
 · exact ⟨_,_,rfl⟩
theorem IntsAt.one {w:World} {p:Option Addr} {n c:Nat} {xs:List Int} (h:IntsAt w (.slice p n c) xs) {k:Nat} (hk:k < xs.length) :
 ∃ g off,p=some ⟨g,off,none⟩∧g < w.heap.size∧w.cell? ⟨g,off+k,none⟩=some (.int .i64 (xs.getD k 0)):=by
 rcases h with ⟨_,rfl⟩ | ⟨g,off,cap,hv,hg,hc⟩
 · simp at hk
 · cases hv
   exact ⟨g,off,rfl,hg,hc k hk⟩
def fit128 (x:Int):Bool:=decide (-170141183460469231731687303715884105728≤x∧x≤170141183460469231731687303715884105727)
theorem fit128_iff {x:Int}:fit128 x=true ↔ W128 x:=decide_eq_true_iff
def dotF (a b:List Int):Nat→Option Int
 | 0=>some 0
 | k+1=>(dotF a b k).bind fun s=>bif fit128 (s+a.getD k 0*b.getD k 0) then some (s+a.getD k 0*b.getD k 0) else none
theorem dotF_w {a b:List Int}:∀ {k:Nat} {s:Int},dotF a b k=some s→W128 s:=by
 intro k s h
 cases k with
 | zero=>cases h; unfold W128; omega
 | succ k =>
   simp only [dotF] at h
   cases hd:dotF a b k with
   | none=>rw [hd] at h; cases h
   | some t =>
     rw [hd] at h
     simp only [Option.bind_some] at h
     cases hf:fit128 (t+a.getD k 0*b.getD k 0) with
     | false=>rw [hf] at h; cases h
     | true=>rw [hf] at h; cases h; exact fit128_iff.1 hf
theorem dotF_yes {a b:List Int} {k:Nat} {s:Int} (h:dotF a b k=some s) (hw:W128 (s+a.getD k 0*b.getD k 0)):dotF a b (k+1)=some (s+a.getD k 0*b.getD k 0):=by
 simp only [dotF,h,Option.bind_some,fit128_iff.2 hw,cond_true]
theorem dotF_no {a b:List Int} {k:Nat} {s:Int} (h:dotF a b k=some s) (hw:¬ W128 (s+a.getD k 0*b.getD k 0)):dotF a b (k+1)=none:=by
 have:fit128 (s+a.getD k 0*b.getD k 0)=false:=by
  cases hf:fit128 (s+a.getD k 0*b.getD k 0) with
  | false=>rfl
  | true=>exact absurd (fit128_iff.1 hf) hw
 simp only [dotF,h,Option.bind_some,this,cond_false]
theorem dotF_none {a b:List Int} {k:Nat} (h:dotF a b k=none):∀ {n:Nat},k≤n→dotF a b n=none:=by
 intro n hn
 induction n with
 | zero=>obtain rfl:k=0:=by omega
         exact h
 | succ n ih =>
   rcases Nat.lt_or_ge n k with h1 | h1
   · obtain rfl:k=n+1:=by omega
     exact h
   · simp only [dotF,ih h1,Option.bind_none]
def dotV:Option Int→Value
 | some s=>.tuple #[.agg #[.int .i64 (hi s),.int .u64 (lo s)],.bool true]
 | none=>.tuple #[.agg #[.int .i64 0,.int .u64 0],.bool false]
set_option maxRecDepth 20000 in
set_option maxHeartbeats 4000000 in
theorem Dot_c (a b:List Int) (v1 v2:Value) (w:World) (ha:∀ x∈a,I64 x) (hb:∀ x∈b,I64 x) (hl:a.length=b.length) (hn:a.length≤1152921504606846976) (h1:IntsAt w v1 a) (h2:IntsAt w v2 b) :
 Calls Tryz.prog 225 #[v1,v2] w fun e w'=>e=.returned (dotV (dotF a b a.length))∧Ext w w':=by
 obtain ⟨p1,c1,rfl⟩:=h1.sl
 obtain ⟨p2,c2,rfl⟩:=h2.sl
 obtain ⟨n,hN⟩:∃ n,a.length=n:=⟨_,rfl⟩
 have HB:Hid (b.length=n):=Lib.hid (hl.symm.trans hN)
 have HN:=Lib.hid hN
 have H1:=Lib.hid h1
 have H2:=Lib.hid h2
 rw [← hl]
 rw [hN] at hn ⊢
 clear hl hN h1 h2
 go_enter Tryz.func225,Tryz.ntmps225
 go_wp2_with fail
 go_loopw [19] (fun u wr=>∃ (k:Nat) (s:Int),k≤n∧u=.int .i64 k∧dotF a b k=some s∧Ext w wr∧wr.heap[w.heap.size+1]?=some (.cells #[.int .i64 (hi s),.int .u64 (lo s)] 194 (0,0))∧wr.heap[w.heap.size]?=some (.cells #[.int .i64 0,.int .u64 0] 194 (0,0))) (fun u _=>n - (intOf u).toNat)
 case atStart =>
  refine ⟨0,0,Nat.zero_le _,rfl,rfl,(Ext.alloc' _ _).allocR _,heap_at _ _ (size_alloc _ _).symm, ?_⟩
  rw [heap_old _ _ (by rw [size_alloc]; exact Nat.lt_succ_self _)]
  exact heap_at _ _ rfl
 case round =>
  obtain ⟨k,s,hk,rfl,hs,hx,hg1,hg0⟩:=hrel
  have x0:=(cell_of hg1 0).trans rfl
  have x1:=(cell_of hg1 1).trans rfl
  have l1:=lt_of hg1
  by_cases hgo:k < n
  · obtain ⟨ga,oa,rfl,hga,d1⟩:=H1.out.one (k:=k) (by rw [HN.out]; exact hgo)
    obtain ⟨gb,ob,rfl,hgb,d2⟩:=H2.out.one (k:=k) (by rw [HB.out]; exact hgo)
    have e1:=((bcell hx).1 ga _ hga).trans d1
    have e2:=((bcell hx).1 gb _ hgb).trans d2
    have la:ga < wr.heap.size:=Nat.lt_of_lt_of_le hga hx.size
    have lb:gb < wr.heap.size:=Nat.lt_of_lt_of_le hgb hx.size
    have ia:=ha _ (getD_mem (l:=a) (k:=k) (by rw [HN.out]; exact hgo))
    have ib:=hb _ (getD_mem (l:=b) (k:=k) (by rw [HB.out]; exact hgo))
    have hyes:=dotF_yes hs
    have hno:=dotF_no hs
    have hsw:=dotF_w hs
    generalize a.getD k 0=x at *
    generalize b.getD k 0=y at *
    have hpw:=mul_w ia ib
    have HYES:=Lib.hid hyes
    have HNO:=Lib.hid hno
    have HG0:=Lib.hid hg0
    have HG1:=Lib.hid hg1
    clear hyes hno hs hg0 hg1 d1 d2 hga hgb
    obtain ⟨rh,rl,ok,hAdd,hok1,hok0⟩:∃ (rh rl:Int) (ok:Bool),(∀ w0:World,Calls Tryz.prog 214 #[.agg #[.int .i64 (hi s),.int .u64 (lo s)],.agg #[.int .i64 (hi (x*y)),.int .u64 (lo (x*y))]] w0 fun e w'=>e=.returned (.tuple #[.agg #[.int .i64 rh,.int .u64 rl],.bool ok])∧Ext w0 w')∧(ok=true→W128 (s+x*y)∧rh=hi (s+x*y)∧rl=lo (s+x*y))∧(ok=false→¬ W128 (s+x*y)):=by
     by_cases hfit:W128 (s+x*y)
     · exact ⟨_,_,true,fun w0=>Add_yes s (x*y) hsw hpw hfit w0,(fun _=>⟨hfit,rfl,rfl⟩),(fun h=>by cases h)⟩
     · exact ⟨_,_,false,fun w0=>Add_no s (x*y) hsw hpw hfit w0,(fun h=>by cases h),(fun _=>hfit)⟩
    have hAdd:=Lib.hid hAdd
    have HOK1:=Lib.hid hok1
    have HOK0:=Lib.hid hok0
    clear hok1 hok0
    go_upto_region 7 with (fail)
    go_cut [9,10] (fun s9 s10 wx=>∃ z:Nat,s9=.pointer (some ⟨z,0,none⟩)∧s10=.bool ok∧wx.heap[z]?=some (.cells #[.int .i64 rh,.int .u64 rl] 194 (0,0))∧Ext wr wx∧wr.heap.size≤z)
    case first =>
     have hC0:=af_drew wr
     refine pi_start (fun w'=>∃ x:After wr,w'=x.w) [] (by kernel_rfl) ?_
     refine pi_t 1 rfl (by kernel_rfl) (by kernel_rfl) (fun _ _ _ _ h=>h) (fun K hK=>?_)
     go_big_quiet_op
     refine hK _ ?_
     clear hK K
     refine pi_t 2 rfl (by kernel_rfl) (by kernel_rfl) (fun _ _ _ _ h=>h) (fun K hK=>?_)
     go_big_quiet_op
     refine hK _ ?_
     clear hK K
     refine pi_t 3 rfl (by kernel_rfl) (by kernel_rfl) (fun _ _ _ _ h=>h) (fun K hK=>?_)
     go_big_quiet_op
     refine hK _ ?_
     clear hK K
     refine pi_t 4 rfl (by kernel_rfl) (by kernel_rfl) (fun _ _ _ _ h=>h) (fun K hK=>?_)
     go_big_quiet_op
     refine hK _ ?_
     clear hK K
     refine pi_c 0 (by assumption) rfl (by kernel_rfl) (by kernel_rfl) (fun _ _ _ _ h=>h) (fun K hK=>?_)
     go_big_quiet_op
     refine hK _ ?_
     clear hK K
     refine pi_c 5 (by assumption) rfl (by kernel_rfl) (by kernel_rfl) (fun _ _ _ _ h=>h) (fun K hK=>?_)
     go_big_quiet_op
     refine hK _ ?_
     clear hK K
     refine pi_b 6 11 rfl rfl (by kernel_rfl) (fun K hK=>?_) (fun K hK=>?_)
     · go_wp2_with (go_at_call 259; refine (Times_c x y ia ib _).mono ?_; rintro e wt ⟨rfl,hxt⟩)
       refine hK _ _ (fun _ h=>af_step h hxt) ?_
       clear hK K
       have hEt:Ext wr wt:=Ext.trans' (Below.drew (Ext.refl wr)) hxt
       refine pi_b 7 11 rfl rfl (by kernel_rfl) (fun K hK=>?_) (fun K hK=>?_)
       · go_wp2_with (go_at_call 214; refine (hAdd.out _).mono ?_; rintro e wa ⟨rfl,hxa⟩)
         refine hK _ _ (fun _ h=>af_step h hxa) ?_
         clear hK K
         have hEa:=hEt.trans' hxa
         refine pi_t 8 rfl (by kernel_rfl) (by kernel_rfl) (fun _ _ _ _ h=>h) (fun K hK=>?_)
         go_big_quiet_op
         refine hK _ ?_
         clear hK K
         refine pi_t 9 rfl (by kernel_rfl) (by kernel_rfl) (fun _ _ _ _ h=>h) (fun K hK=>?_)
         go_big_quiet_op
         refine hK _ ?_
         clear hK K
         refine pi_t 10 rfl (by kernel_rfl) (by kernel_rfl) (fun _ _ _ _ h=>h) (fun K hK=>?_)
         go_big_quiet_op
         refine hK _ ?_
         clear hK K
         refine pi_l 11 rfl (by kernel_rfl) (fun K hK=>?_)
         go_wp2
         refine hK _ _ (fun _ h=>af_step h (Ext.alloc' _ _)) ?_
         clear hK K
         refine pi_l 12 rfl (by kernel_rfl) (fun K hK=>?_)
         go_wp2
         have hsz:=hEa.size
         refine hK _ _ (fun _ h=>⟨⟨_,hEa.allocR _⟩,rfl⟩) ?_
         clear hK K
         refine pi_t 13 rfl (by kernel_rfl) (by kernel_rfl) (fun _ _ _ _ h=>h) (fun K hK=>?_)
         go_big_quiet_op
         refine hK _ ?_
         clear hK K
         refine pi_end (by kernel_rfl) ?_
         go_wp2_with fail
         go_meet
         exact ⟨_,rfl,rfl,heap_at _ _ rfl,hEa.allocR _,hsz⟩
       · go_wp2
         refine hK _ _ (fun _ h=>af_step h (Ext.alloc' _ _)) ?_
         clear hK K
         refine pi_l 7 rfl (by kernel_rfl) (fun K hK=>?_)
         go_wp2_with (go_at_call 214; refine (hAdd.out _).mono ?_; rintro e wa ⟨rfl,hxa⟩)
         refine hK _ _ (fun _ h=>af_step h hxa) ?_
         clear hK K
         have hEa:=(hEt.allocR _).trans' hxa
         have hbx:=hxa.keep (heap_at wt _ rfl)
         have hsz:=hEt.size
         have p0:=(cell_of hbx 0).trans rfl
         have p1:=(cell_of hbx 1).trans rfl
         have f0:=frozen_of hbx 0
         have f1:=frozen_of hbx 1
         have HBX:=Lib.hid hbx
         clear hbx
         refine pi_t 8 rfl (by kernel_rfl) (by kernel_rfl) (fun _ _ _ _ h=>h) (fun K hK=>?_)
         go_big_quiet_op
         refine hK _ ?_
         clear hK K
         refine pi_t 9 rfl (by kernel_rfl) (by kernel_rfl) (fun _ _ _ _ h=>h) (fun K hK=>?_)
         go_big_quiet_op
         refine hK _ ?_
         clear hK K
         refine pi_t 10 rfl (by kernel_rfl) (by kernel_rfl) (fun _ _ _ _ h=>h) (fun K hK=>?_)
         go_big_quiet_op
         refine hK _ ?_
         clear hK K
         refine pi_l 12 rfl (by kernel_rfl) (fun K hK=>?_)
         go_wp2
         refine hK _ _ (fun _ h=>⟨⟨_,(hEa.setR hsz _).setR hsz _⟩,rfl⟩) ?_
         clear hK K
         refine pi_t 13 rfl (by kernel_rfl) (by kernel_rfl) (fun _ _ _ _ h=>h) (fun K hK=>?_)
         go_big_quiet_op
         refine hK _ ?_
         clear hK K
         refine pi_end (by kernel_rfl) ?_
         go_wp2_with fail
         go_meet
         exact ⟨_,rfl,rfl,set2 HBX.out _ _,(hEa.setR hsz _).setR hsz _,hsz⟩
     · go_wp2
       refine hK _ _ (fun _ h=>af_step h (Ext.alloc' _ _)) ?_
       clear hK K
       refine pi_l 6 rfl (by kernel_rfl) (fun K hK=>?_)
       go_wp2_with (go_at_call 259; refine (Times_c x y ia ib _).mono ?_; rintro e wt ⟨rfl,hxt⟩)
       refine hK _ _ (fun _ h=>af_step h hxt) ?_
       clear hK K
       refine pi_l 7 rfl (by kernel_rfl) (fun K hK=>?_)
       go_wp2_with (go_at_call 214; refine (hAdd.out _).mono ?_; rintro e wa ⟨rfl,hxa⟩)
       refine hK _ _ (fun _ h=>af_step h hxa) ?_
       clear hK K
       have hEa:Ext wr wa:=Ext.trans' (Ext.trans' (Ext.alloc' wr _) (Ext.trans' (Below.drew (Ext.refl _)) hxt)) hxa
       have hbx:wa.heap[wr.heap.size]?=some (.cells #[.int .i64 0,.int .u64 0] 194 (0,0)):=hxa.keep (hxt.keep (heap_at wr.drew _ rfl))
       have p0:=(cell_of hbx 0).trans rfl
       have p1:=(cell_of hbx 1).trans rfl
       have f0:=frozen_of hbx 0
       have f1:=frozen_of hbx 1
       have HBX:=Lib.hid hbx
       clear hbx
       refine pi_t 8 rfl (by kernel_rfl) (by kernel_rfl) (fun _ _ _ _ h=>h) (fun K hK=>?_)
       go_big_quiet_op
       refine hK _ ?_
       clear hK K
       refine pi_t 9 rfl (by kernel_rfl) (by kernel_rfl) (fun _ _ _ _ h=>h) (fun K hK=>?_)
       go_big_quiet_op
       refine hK _ ?_
       clear hK K
       refine pi_t 10 rfl (by kernel_rfl) (by kernel_rfl) (fun _ _ _ _ h=>h) (fun K hK=>?_)
       go_big_quiet_op
       refine hK _ ?_
       clear hK K
       refine pi_l 12 rfl (by kernel_rfl) (fun K hK=>?_)
       go_wp2
       refine hK _ _ (fun _ h=>⟨⟨_,(hEa.setR (p:=⟨wr.heap.size,0,none⟩) (Nat.le_refl _) _).setR (p:=⟨wr.heap.size,1,none⟩) (Nat.le_refl _) _⟩,rfl⟩) ?_
       clear hK K
       refine pi_t 13 rfl (by kernel_rfl) (by kernel_rfl) (fun _ _ _ _ h=>h) (fun K hK=>?_)
       go_big_quiet_op
       refine hK _ ?_
       clear hK K
       refine pi_end (by kernel_rfl) ?_
       go_wp2_with fail
       go_meet
       exact ⟨_,rfl,rfl,set2 HBX.out _ _,(hEa.setR (p:=⟨wr.heap.size,0,none⟩) (Nat.le_refl _) _).setR (p:=⟨wr.heap.size,1,none⟩) (Nat.le_refl _) _,Nat.le_refl _⟩
    case rest =>
     obtain ⟨z,rfl,rfl,hz,hEc,hzz⟩:=hcut
     have hE:=hx.trans' hEc
     have y0:=(cell_of hz 0).trans rfl
     have y1:=(cell_of hz 1).trans rfl
     have zl:=lt_of hz
     have hg0:=hEc.keep HG0.out
     have hg1:=hEc.keep HG1.out
     cases ok
     · have hnn:=HNO.out (HOK0.out rfl)
       have hnil:=dotF_none hnn (n:=n) (by omega)
       have a0:=(cell_of hg0 0).trans rfl
       have a1:=(cell_of hg0 1).trans rfl
       have f0:=frozen_of hg0 0
       have f1:=frozen_of hg0 1
       have HG0':=Lib.hid hg0
       have HNIL:=Lib.hid hnil
       clear hg0 hg1 hnn hnil
       go_wp2_with fail
       refine bodyPost_ret (v:=.tuple #[.agg #[.int .i64 0,.int .u64 0],.bool false]) (by simp [results,Tryz.results225,go_sem, *]) rfl ⟨by rw [HNIL.out]; rfl, ?_⟩
       exact (hE.setR (Nat.le_refl _) _).setR (Nat.le_refl _) _
     · obtain ⟨hfit,rfl,rfl⟩:=HOK1.out rfl
       have hss:=HYES.out hfit
       have a0:=(cell_of hg1 0).trans rfl
       have a1:=(cell_of hg1 1).trans rfl
       have f0:=frozen_of hg1 0
       have f1:=frozen_of hg1 1
       have HG0':=Lib.hid hg0
       have HG1':=Lib.hid hg1
       have HSS:=Lib.hid hss
       clear hg0 hg1 hss x0 x1
       go_wp2_with fail
       go_roundw
       case rel =>
        refine ⟨k+1,s+x*y,by omega,by go_num,HSS.out,(hE.setR (Nat.le_succ _) _).setR (Nat.le_succ _) _,set2 HG1'.out _ _, ?_⟩
        rw [setCell_other _ _ (by omega),setCell_other _ _ (by omega)]
        exact HG0'.out
       case measure=>simp [intOf]; omega
  · obtain rfl:k=n:=by omega
    have HSS:=Lib.hid hs
    have a0:=(cell_of hg0 0).trans rfl
    have a1:=(cell_of hg0 1).trans rfl
    have f0:=frozen_of hg0 0
    have f1:=frozen_of hg0 1
    have HG0:=Lib.hid hg0
    clear hg0 hg1 hs
    go_wp2_with fail
    refine bodyPost_ret (v:=.tuple #[.agg #[.int .i64 (hi s),.int .u64 (lo s)],.bool true]) (by simp [results,Tryz.results225,go_sem, *]) rfl ⟨by rw [HSS.out]; rfl, ?_⟩
    exact (hx.setR (Nat.le_refl _) _).setR (Nat.le_refl _) _
end Go.Proofs.YtmalncfcgcebhaaGreatDoor
