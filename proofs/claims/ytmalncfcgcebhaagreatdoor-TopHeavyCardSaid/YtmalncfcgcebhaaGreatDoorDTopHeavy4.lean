/- Part. No condition. -/
import Derived.Test.YtmalncfcgcebhaaGreatDoorDTopHeavy3
import Derived.Test.YtmalncfcgcebhaaGreatDoorDTopHeavy2
import Derived.Test.YtmalncfcgcebhaaGreatDoorDTopHeavy1
import Derived.RangeFuncNested
import Derived.RangeFuncBound
import Derived.RangeFuncCalls
import Derived.RangeFuncLeaves
import Derived.Shelf.Abstract
import Derived.Shelf.RegionOpen
import Derived.WalkKit
import Derived.OwnWalkIn
import Derived.TacticsInMore
import Derived.LoopNIn
import Derived.LoopIn
import Derived.RangeFuncFrom
import Derived.Shelf.Strings.BuilderK
import Derived.Shelf.Small.Strs
import Derived.Shelf.Strconv.Itoa4
import Derived.Shelf.Unicode.DecodeAny
import Derived.Shelf.Strconv.ErrVarParseInt
import Derived.Lib.RuneCountTail
import Derived.Lib.OthersKept
import Derived.Deep.CutBlock
import Derived.Lib.ParseIntB
import Derived.Lib.ItoaMem
namespace Go.Proofs.YtmalncfcgcebhaaGreatDoor
set_option linter.unusedVariables false
open Go.RowKit
structure KAt (w:World) (s g:Nat) (C:Cfg) (B:Nat) (L:Nat→Lev) (ls:Nat→List Int):Prop where
 ex:∃ cap,w.heap[s]?=some (.cells #[.int .i64 C.bits,.int .i64 C.rows,.int .i64 C.width,.int .i64 C.mode,.int .u64 C.seed,.slice (some ⟨g,0,none⟩) (B+1) cap] 118 (0,0))∧B+1≤cap
 row:∃ cur,w.heap[g]?=some (.cells cur 120 (0,0))∧∀ n,n≤B→cur[n]?=some (lvV C n (L n))
 lev:∀ n,n≤B→LvAt w (L n) C n (ls n)
 sep:∀ m n,m≤B→n≤B→m≠n→(L m).c≠(L n).c
 ok:C.Ok
 hB:C.bits=B
def cellsOf (B:Nat) (L:Nat→Lev) (k:Nat):Prop:=∃ n,n≤B∧k=(L n).c
theorem KAt.lts {w:World} {s g:Nat} {C:Cfg} {B:Nat} {L:Nat→Lev} {ls:Nat→List Int} (h:KAt w s g C B L ls):s < w.heap.size:=by
 obtain ⟨cap,h1,_⟩:=h.ex; exact lt_of h1
theorem KAt.ltg {w:World} {s g:Nat} {C:Cfg} {B:Nat} {L:Nat→Lev} {ls:Nat→List Int} (h:KAt w s g C B L ls):g < w.heap.size:=by
 obtain ⟨cur,h1,_⟩:=h.row; exact lt_of h1
theorem KAt.cell {w:World} {s g:Nat} {C:Cfg} {B:Nat} {L:Nat→Lev} {ls:Nat→List Int} (h:KAt w s g C B L ls) {n:Nat} (hn:n≤B):w.cell? ⟨g,n,none⟩=some (lvV C n (L n)):=by
 obtain ⟨cur,h1,h2⟩:=h.row; rw [cell_of h1]; exact h2 n hn
theorem KAt.isc {w:World} {s g:Nat} {C:Cfg} {B:Nat} {L:Nat→Lev} {ls:Nat→List Int} (h:KAt w s g C B L ls) {k:Nat} (hk:cellsOf B L k):∃ cur,w.heap[k]?=some (.cells cur 2 (0,0)):=by
 obtain ⟨n,hn,rfl⟩:=hk; exact (h.lev n hn).isc
theorem KAt.ltc {w:World} {s g:Nat} {C:Cfg} {B:Nat} {L:Nat→Lev} {ls:Nat→List Int} (h:KAt w s g C B L ls) {k:Nat} (hk:cellsOf B L k):k < w.heap.size:=by
 obtain ⟨n,hn,rfl⟩:=hk; exact (h.lev n hn).ltc
theorem KAt.nots {w:World} {s g:Nat} {C:Cfg} {B:Nat} {L:Nat→Lev} {ls:Nat→List Int} (h:KAt w s g C B L ls):¬ cellsOf B L s:=by
 intro hk
 obtain ⟨cur,h1⟩:=h.isc hk
 obtain ⟨cap,h2,_⟩:=h.ex
 exact blk_ne h1 h2 (by decide) rfl
theorem KAt.notg {w:World} {s g:Nat} {C:Cfg} {B:Nat} {L:Nat→Lev} {ls:Nat→List Int} (h:KAt w s g C B L ls):¬ cellsOf B L g:=by
 intro hk
 obtain ⟨cur,h1⟩:=h.isc hk
 obtain ⟨cur',h2,_⟩:=h.row
 exact blk_ne h1 h2 (by decide) rfl
theorem KAt.ext {w w':World} {s g:Nat} {C:Cfg} {B:Nat} {L:Nat→Lev} {ls:Nat→List Int} (h:KAt w s g C B L ls) (he:Ext w w'):KAt w' s g C B L ls :=
 ⟨by rw [he.block s h.lts]; exact h.ex,by rw [he.block g h.ltg]; exact h.row,fun n hn=>(h.lev n hn).ext he,h.sep,h.ok,h.hB⟩
theorem SKConfig_c (s g:Nat) (C:Cfg) (B:Nat) (L:Nat→Lev) (ls:Nat→List Int) (w:World) (h:KAt w s g C B L ls) :
 Calls Tryz.prog 20 #[.pointer (some ⟨s,0,none⟩)] w fun e w'=>e=.returned (.agg #[.int .i64 C.bits,.int .i64 C.rows,.int .i64 C.width,.int .i64 C.mode,.int .u64 C.seed])∧Ext w w':=by
 have hlt:=h.lts
 obtain ⟨cap,hex,_⟩:=h.ex
 have c0:=(cell_of hex 0).trans rfl
 have c1:=(cell_of hex 1).trans rfl
 have c2:=(cell_of hex 2).trans rfl
 have c3:=(cell_of hex 3).trans rfl
 have c4:=(cell_of hex 4).trans rfl
 clear h hex
 go_enter Tryz.func20,Tryz.ntmps20
 go_wp2
 exact bodyPost_ret (v:=.agg #[.int .i64 C.bits,.int .i64 C.rows,.int .i64 C.width,.int .i64 C.mode,.int .u64 C.seed]) (by simp [results,Tryz.results20,go_sem]) rfl ⟨rfl,by (repeat' (first | exact Ext.refl _ | assumption | apply Ext.allocR | apply Ext.drewR | apply Ext.drewNR | (refine Ext.trans' ?_ (by assumption))))⟩
set_option maxRecDepth 20000 in
theorem level_yes (s g:Nat) (C:Cfg) (B:Nat) (L:Nat→Lev) (ls:Nat→List Int) (w:World) (h:KAt w s g C B L ls) (n:Nat) (hn:n≤B) :
 Calls Tryz.prog 59 #[.pointer (some ⟨s,0,none⟩),.int .i64 n] w fun e w'=>e=.returned (.tuple #[lvV C n (L n),.bool true])∧w=w':=by
 have hlt:=h.lts
 have hlg:=h.ltg
 obtain ⟨cap,hex,hcap⟩:=h.ex
 have c5:=(cell_of hex 5).trans rfl
 have cn:=h.cell hn
 have hbt:=h.ok.b2
 have hB:=h.hB
 generalize lvV C n (L n)=v at *
 clear h hex
 go_enter Tryz.func59,Tryz.ntmps59
 go_wp2
 go_ret2
 exact ⟨rfl,rfl⟩
set_option maxRecDepth 20000 in
theorem level_no (s g:Nat) (C:Cfg) (B:Nat) (L:Nat→Lev) (ls:Nat→List Int) (w:World) (h:KAt w s g C B L ls) (n:Int) (hn:n < 0∨(B:Int) < n) :
 Calls Tryz.prog 59 #[.pointer (some ⟨s,0,none⟩),.int .i64 n] w fun e w'=>e=.returned (.tuple #[.nilIface,.bool false])∧w=w':=by
 have hlt:=h.lts
 have hlg:=h.ltg
 obtain ⟨cap,hex,hcap⟩:=h.ex
 have c5:=(cell_of hex 5).trans rfl
 have hbt:=h.ok.b2
 have hB:=h.hB
 clear h hex
 rcases hn with hn | hn
 · go_enter Tryz.func59,Tryz.ntmps59
   go_wp2
   go_ret2
   exact ⟨rfl,rfl⟩
 · by_cases h0:n < 0
   · go_enter Tryz.func59,Tryz.ntmps59
     go_wp2
     go_ret2
     exact ⟨rfl,rfl⟩
   · have hge:decide ((B:Int)+1≤n)=true:=by simp; omega
     go_enter Tryz.func59,Tryz.ntmps59
     go_wp2
     go_ret2
     exact ⟨rfl,rfl⟩
def lvPt (C:Cfg) (lv:Int) (l:List Int) (key x:Int):Prop :=
 (isX C lv=true∧x=l.getD key.toNat 0)∨(isX C lv=false∧IsKth (readL (wN C) l (cols C lv key)) (if C.mode=3 then (rN C - 1) / 2 else 0) x)
theorem lvPt_unique {C:Cfg} {lv:Int} {l:List Int} {key x y:Int} (h:lvPt C lv l key x) (h':lvPt C lv l key y):x=y:=by
 rcases h with ⟨h1,h2⟩ | ⟨h1,h2⟩ <;> rcases h' with ⟨h3,h4⟩ | ⟨h3,h4⟩
 · rw [h2,h4]
 · rw [h1] at h3; cases h3
 · rw [h1] at h3; cases h3
 · exact kth_unique h2 h4
def KPointPost (w:World) (C:Cfg) (ls:Nat→List Int) (n:Nat) (key:Int) (e:Ending) (w':World):Prop :=
 ∃ x,e=.returned (.tuple #[.int .i64 x,.int .i64 0])∧lvPt C n (ls n) key x∧Ext w w'
set_option maxRecDepth 20000 in
theorem KPoint_c (s g:Nat) (C:Cfg) (B:Nat) (L:Nat→Lev) (ls:Nat→List Int) (w:World) (h:KAt w s g C B L ls) (n:Nat) (hn:n≤B) (key:Int) (hk0:0≤key) (hk1:key < keys C n) :
 Calls Tryz.prog 133 #[.pointer (some ⟨s,0,none⟩),.agg #[.int .i64 n,.int .u64 key]] w (KPointPost w C ls n key):=by
 cases hx:isX C n with
 | true =>
   have HX:=Lib.hid hx
   clear hx
   go_enter Tryz.func133,Tryz.ntmps133
   go_wp2_with fail
   refine (level_yes s g C B L ls _ (h.ext (Ext.alloc' _ _)) n hn).mono ?_
   rintro e w1 ⟨rfl,rfl⟩
   have hA:=((h.ext (Ext.alloc' _ (.cells #[.int .i64 n,.int .u64 key] 52))).lev n hn).x HX.out
   rw [lvV_x HX.out]
   go_wp2_with fail
   refine (EPoint_c _ _ _ C _ _ _ key _ hA hk0 hk1).mono ?_
   rintro e w1 ⟨rfl,rfl⟩
   go_wp2
   go_ret2
   exact ⟨_,rfl,.inl ⟨HX.out,rfl⟩,Ext.alloc' _ _⟩
 | false =>
   have HX:=Lib.hid hx
   clear hx
   go_enter Tryz.func133,Tryz.ntmps133
   go_wp2_with fail
   refine (level_yes s g C B L ls _ (h.ext (Ext.alloc' _ _)) n hn).mono ?_
   rintro e w1 ⟨rfl,rfl⟩
   have hA:=((h.ext (Ext.alloc' _ (.cells #[.int .i64 n,.int .u64 key] 52))).lev n hn).sk HX.out
   rw [lvV_s HX.out]
   go_wp2_with fail
   refine (Point_c _ _ _ C _ _ _ _ key _ hA hk0 hk1).mono ?_
   rintro e w1 ⟨x,rfl,hk,hx1⟩
   go_wp2
   go_ret2
   exact ⟨x,rfl,.inr ⟨HX.out,hk⟩,(Ext.alloc' _ _).trans' hx1⟩
set_option maxRecDepth 20000 in
theorem KPoint_lv (s g:Nat) (C:Cfg) (B:Nat) (L:Nat→Lev) (ls:Nat→List Int) (w:World) (h:KAt w s g C B L ls) (n:Int) (hn:n < 0∨(B:Int) < n) (key:Int) :
 Calls Tryz.prog 133 #[.pointer (some ⟨s,0,none⟩),.agg #[.int .i64 n,.int .u64 key]] w fun e w'=>e=.returned (.tuple #[.int .i64 0,.int .i64 2])∧Ext w w':=by
 go_enter Tryz.func133,Tryz.ntmps133
 go_wp2_with fail
 refine (level_no s g C B L ls _ (h.ext (Ext.alloc' _ _)) n hn).mono ?_
 rintro e w1 ⟨rfl,rfl⟩
 go_wp2
 go_ret2
 exact ⟨rfl,Ext.alloc' _ _⟩
theorem keys_top {C:Cfg} {B:Nat} (hB:C.bits=B):keys C B=1:=by unfold keys; rw [hB]; simp
theorem isX_top {C:Cfg} (h:C.Ok) {B:Nat} (hB:C.bits=B):isX C B=true:=by
 unfold isX; rw [keys_top hB]; have:=h.w1; simpa using this
set_option maxRecDepth 20000 in
theorem KTotal_c (s g:Nat) (C:Cfg) (B:Nat) (L:Nat→Lev) (ls:Nat→List Int) (w:World) (h:KAt w s g C B L ls) :
 Calls Tryz.prog 130 #[.pointer (some ⟨s,0,none⟩)] w fun e w'=>e=.returned (.int .i64 ((ls B).getD 0 0))∧Ext w w':=by
 have hlt:=h.lts
 have hlg:=h.ltg
 obtain ⟨cap,hex,hcap⟩:=h.ex
 have c0:=(cell_of hex 0).trans (show _=some (Value.int .i64 (B:Int)) by rw [← h.hB]; rfl)
 have c5:=(cell_of hex 5).trans rfl
 have cn:=(h.cell (Nat.le_refl B)).trans (by rw [lvV_x (isX_top h.ok h.hB)])
 have hb2:B≤59:=by have:=h.ok.b2; have:=h.hB; omega
 have hA:=((h.lev B (Nat.le_refl B)).x (isX_top h.ok h.hB)).ext (Below.drew (Ext.refl w))
 have hk:=keys_top h.hB
 clear h hex
 go_enter Tryz.func130,Tryz.ntmps130
 go_wp2
 have hC0:=af_drew w
 refine pi_start (fun w'=>∃ x:After w,w'=x.w) [] (by kernel_rfl) ?_
 refine pi_t 0 rfl (by kernel_rfl) (by kernel_rfl) (fun _ _ _ _ h=>h) (fun K hK=>?_)
 go_big_quiet_op
 refine hK _ ?_
 clear hK K
 refine pi_t 1 rfl (by kernel_rfl) (by kernel_rfl) (fun _ _ _ _ h=>h) (fun K hK=>?_)
 go_big_quiet_op
 refine hK _ ?_
 clear hK K
 refine pi_t 2 rfl (by kernel_rfl) (by kernel_rfl) (fun _ _ _ _ h=>h) (fun K hK=>?_)
 go_big_quiet_op
 refine hK _ ?_
 clear hK K
 refine pi_t 4 rfl (by kernel_rfl) (by kernel_rfl) (fun _ _ _ _ h=>h) (fun K hK=>?_)
 go_big_quiet_op
 refine hK _ ?_
 clear hK K
 refine pi_t 5 rfl (by kernel_rfl) (by kernel_rfl) (fun _ _ _ _ h=>h) (fun K hK=>?_)
 go_big_quiet_op
 refine hK _ ?_
 clear hK K
 refine pi_t 6 rfl (by kernel_rfl) (by kernel_rfl) (fun _ _ _ _ h=>h) (fun K hK=>?_)
 go_big_quiet_op
 refine hK _ ?_
 clear hK K
 refine pi_t 7 rfl (by kernel_rfl) (by kernel_rfl) (fun _ _ _ _ h=>h) (fun K hK=>?_)
 go_big_quiet_op
 refine hK _ ?_
 clear hK K
 refine pi_c 3 (by assumption) rfl (by kernel_rfl) (by kernel_rfl) (fun _ _ _ _ h=>h) (fun K hK=>?_)
 go_big_quiet_op
 refine hK _ ?_
 clear hK K
 refine pi_c 8 (by assumption) rfl (by kernel_rfl) (by kernel_rfl) (fun _ _ _ _ h=>h) (fun K hK=>?_)
 go_big_quiet_op
 refine hK _ ?_
 clear hK K
 refine pi_t 9 rfl (by kernel_rfl) (by kernel_rfl) (fun _ _ _ _ h=>h) (fun K hK=>?_)
 go_big_quiet_op
 refine hK _ ?_
 clear hK K
 refine pi_c 10 (by assumption) rfl (by kernel_rfl) (by kernel_rfl) (fun _ _ _ _ h=>h) (fun K hK=>?_)
 go_big_quiet_op
 refine hK _ ?_
 clear hK K
 refine pi_l 11 rfl (by kernel_rfl) (fun K hK=>?_)
 go_wp2_with fail
 refine (EPoint_c _ _ _ C _ _ _ 0 _ hA (by decide) (by rw [hk]; decide)).mono ?_
 rintro e w1 ⟨rfl,rfl⟩
 go_wp2
 refine hK _ _ (fun _ h=>h) ?_
 clear hK K
 refine pi_t 12 rfl (by kernel_rfl) (by kernel_rfl) (fun _ _ _ _ h=>h) (fun K hK=>?_)
 go_big_quiet_op
 refine hK _ ?_
 clear hK K
 refine pi_t 13 rfl (by kernel_rfl) (by kernel_rfl) (fun _ _ _ _ h=>h) (fun K hK=>?_)
 go_big_quiet_op
 refine hK _ ?_
 clear hK K
 refine pi_t 14 rfl (by kernel_rfl) (by kernel_rfl) (fun _ _ _ _ h=>h) (fun K hK=>?_)
 go_big_quiet_op
 refine hK _ ?_
 clear hK K
 refine pi_t 15 rfl (by kernel_rfl) (by kernel_rfl) (fun _ _ _ _ h=>h) (fun K hK=>?_)
 go_big_quiet_op
 refine hK _ ?_
 clear hK K
 refine pi_t 16 rfl (by kernel_rfl) (by kernel_rfl) (fun _ _ _ _ h=>h) (fun K hK=>?_)
 go_big_quiet_op
 refine hK _ ?_
 clear hK K
 refine pi_end (by kernel_rfl) ?_
 go_wp2
 go_ret
 exact ⟨rfl,Below.drew (Ext.refl w)⟩
end Go.Proofs.YtmalncfcgcebhaaGreatDoor
namespace Go.Proofs.YtmalncfcgcebhaaGreatDoor
set_option linter.unusedVariables false
theorem cons_cell {C:Cfg} {lv:Int} {R W:Nat} (hok:C.Ok) (hr:C.rows=R) (hw:C.width=W) (hm:C.mode=2) {l:List Int} (hl:l.length=R*W) (key d:Int) {r a:Nat} (hrr:r < R) (ha:a < W) :
 (updL C lv R W l key d).getD (r*W+a) 0=if (cols C lv key).getD r 0=(a:Int) then max (l.getD (r*W+a) 0) (minL (readL W l (cols C lv key))+d) else l.getD (r*W+a) 0:=by
 have hme:=cols_meets C hok lv key hr hw
 unfold updL
 rw [decide_eq_true hm]
 show (putK W _ _ R _).getD _ 0=_
 rw [putK_get hme hl hrr ha R (Nat.le_refl _)]
 by_cases he:(cols C lv key).getD r 0=(a:Int)
 · rw [if_pos ⟨hrr,he⟩,if_pos he]
   have hat:at_ W (cols C lv key) r=r*W+a:=by unfold at_; omega
   rw [hat]
 · rw [if_neg (fun h=>he h.2),if_neg he]
theorem updL_len' (C:Cfg) (lv:Int) (R W:Nat) (l:List Int) (key d:Int):(updL C lv R W l key d).length=l.length:=by
 unfold updL
 cases decide (C.mode=2) <;> exact putK_len _ _ _ _ _
theorem min_read {C:Cfg} {lv:Int} {R W:Nat} (hok:C.Ok) (hr:C.rows=R) (hw:C.width=W) (l:List Int) (key:Int) :
 (∃ r,r < R∧minL (readL W l (cols C lv key))=l.getD (at_ W (cols C lv key) r) 0)∧∀ r,r < R→minL (readL W l (cols C lv key))≤l.getD (at_ W (cols C lv key) r) 0:=by
 have hme:=cols_meets C hok lv key hr hw
 have hR:0 < R:=by have:=hok.r1; omega
 have hlen:(readL W l (cols C lv key)).length=R:=by rw [readL_len,hme.len]
 have hs:=minL_spec (readL W l (cols C lv key)) (by intro e; rw [e] at hlen; simp at hlen; omega)
 constructor
 · have:=hs.1
   simp only [readL,List.mem_map,List.mem_range] at this
   obtain ⟨j,hj,he⟩:=this
   rw [hme.len] at hj
   exact ⟨j,hj,he.symm⟩
 · intro r hrr
   refine hs.2 _ ?_
   simp only [readL,List.mem_map,List.mem_range]
   exact ⟨r,by rw [hme.len]; exact hrr,rfl⟩
theorem at_col {C:Cfg} {lv:Int} {R W:Nat} (hok:C.Ok) (hr:C.rows=R) (hw:C.width=W) (key:Int) {r:Nat} (hrr:r < R) :
 ∃ a,a < W∧at_ W (cols C lv key) r=r*W+a∧(cols C lv key).getD r 0=(a:Int):=by
 have hme:=cols_meets C hok lv key hr hw
 have h0:=hme.lo r hrr
 have h1:=hme.hi r hrr
 exact ⟨((cols C lv key).getD r 0).toNat,by omega,rfl,by omega⟩
theorem zs_get0 (n i:Nat):(zs n).getD i 0=0:=by
 unfold zs
 rw [List.getD_eq_getElem?_getD]
 rcases Nat.lt_or_ge i n with h | h
 · simp [h]
 · simp [h]
end Go.Proofs.YtmalncfcgcebhaaGreatDoor
namespace Go.Proofs.YtmalncfcgcebhaaGreatDoor
set_option linter.unusedVariables false
open Go.RowKit
def sh (n:Nat) (key:Int):Int:=key / 2 ^ n
def lvE (C:Cfg) (lv:Int) (l:List Int) (key d:Int):Int:=bif isX C lv then errX C lv l key d else errU C lv (rN C) (wN C) l key d
def lvU (C:Cfg) (lv:Int) (l:List Int) (key d:Int):List Int:=bif isX C lv then updX l key d else updL C lv (rN C) (wN C) l key d
theorem lvE_x {C:Cfg} {lv:Int} (h:isX C lv=true) (l:List Int) (key d:Int):lvE C lv l key d=errX C lv l key d:=by unfold lvE; rw [h]; rfl
theorem lvE_s {C:Cfg} {lv:Int} (h:isX C lv=false) (l:List Int) (key d:Int):lvE C lv l key d=errU C lv (rN C) (wN C) l key d:=by unfold lvE; rw [h]; rfl
theorem lvU_x {C:Cfg} {lv:Int} (h:isX C lv=true) (l:List Int) (key d:Int):lvU C lv l key d=updX l key d:=by unfold lvU; rw [h]; rfl
theorem lvU_s {C:Cfg} {lv:Int} (h:isX C lv=false) (l:List Int) (key d:Int):lvU C lv l key d=updL C lv (rN C) (wN C) l key d:=by unfold lvU; rw [h]; rfl
def fst_ (a b:Int):Int:=bif decide (a=0) then b else a
def errs (C:Cfg) (ls:Nat→List Int) (key d:Int):Nat→Int
 | 0=>0
 | n+1=>fst_ (errs C ls key d n) (lvE C n (ls n) (sh n key) d)
def errK (C:Cfg) (B:Nat) (ls:Nat→List Int) (key d:Int):Int:=bif decide (keys C 0≤key) then 2 else errs C ls key d (B+1)
def updK (C:Cfg) (ls:Nat→List Int) (key d:Int) (n:Nat):List Int:=lvU C n (ls n) (sh n key) d
theorem errs_zero {C:Cfg} {ls:Nat→List Int} {key d:Int} {m:Nat}:errs C ls key d m=0 ↔ ∀ n,n < m→lvE C n (ls n) (sh n key) d=0:=by
 induction m with
 | zero=>simp [errs]
 | succ m ih =>
   unfold errs fst_
   by_cases h:errs C ls key d m=0
   · rw [decide_eq_true h]
     constructor
     · intro e n hn
       rcases Nat.lt_or_ge n m with h' | h'
       · exact ih.1 h n h'
       · obtain rfl:n=m:=by omega
         exact e
     · intro e; exact e m (by omega)
   · rw [decide_eq_false h]
     constructor
     · intro e; exact absurd e h
     · intro e; exact absurd (ih.2 fun n hn=>e n (by omega)) h
theorem errK_zero {C:Cfg} {B:Nat} {ls:Nat→List Int} {key d:Int}:errK C B ls key d=0 ↔ key < keys C 0∧∀ n,n≤B→lvE C n (ls n) (sh n key) d=0:=by
 unfold errK
 by_cases h:keys C 0≤key
 · rw [decide_eq_true h]
   constructor
   · intro e; exact absurd (show (2:Int)=0 from e) (by decide)
   · rintro ⟨h1,_⟩; omega
 · rw [decide_eq_false h]
   constructor
   · intro e; exact ⟨by omega,fun n hn=>errs_zero.1 e n (by omega)⟩
   · rintro ⟨_,e⟩; exact errs_zero.2 fun n hn=>e n (by omega)
theorem sh_nn {key:Int} (h:0≤key) (n:Nat):0≤sh n key:=Int.ediv_nonneg h (Int.le_of_lt (Int.pow_pos (by decide)))
theorem sh_u64 {key:Int} (h:U64 key) (n:Nat):U64 (sh n key):=by
 refine ⟨sh_nn h.1 n, ?_⟩
 have h2:=h.2
 refine Int.lt_of_le_of_lt ?_ h2
 exact Int.ediv_le_self _ h.1
theorem cutK_sh {C:Cfg} (hok:C.Ok) {n:Nat} (hn:(n:Int)≤C.bits) {key:Int} (h:0≤key):cutK C n (key / 2 ^ n)=sh n (cutK C 0 key):=by
 have hb:=hok.b1
 unfold cutK sh keys
 obtain ⟨B,hB⟩:∃ B:Nat,C.bits=B:=⟨C.bits.toNat,by omega⟩
 obtain ⟨m,rfl⟩:∃ m,B=n+m:=⟨B - n,by omega⟩
 obtain ⟨k,rfl⟩:∃ k:Nat,key=k:=⟨key.toNat,by omega⟩
 rw [hB,show (((n+m:Nat):Int) - (n:Int)).toNat=m by omega,show (((n+m:Nat):Int) - 0).toNat=n+m by omega]
 have:k / 2 ^ n % 2 ^ m=k % 2 ^ (n+m) / 2 ^ n:=by
  rw [Nat.pow_add,Nat.mod_mul_right_div_self]
 exact_mod_cast this
theorem lvU_len (C:Cfg) (lv:Int) (l:List Int) (key d:Int):(lvU C lv l key d).length=l.length:=by
 unfold lvU
 cases isX C lv
 · exact updL_len' _ _ _ _ _ _ _
 · show (updX l key d).length=_
   simp [updX]
theorem updX_get {l:List Int} {key d:Int} (hk0:0≤key) (hk:key < l.length) (j:Nat):(updX l key d).getD j 0=l.getD j 0+bif key == (j:Int) then d else 0:=by
 unfold updX
 by_cases h:key=(j:Int)
 · subst h
   simp only [beq_self_eq_true,cond_true,Int.toNat_natCast]
   rw [List.getD_eq_getElem?_getD,List.getElem?_set_self (by omega)]
   rfl
 · have hb:(key == (j:Int))=false:=by simpa using h
   rw [hb,List.getD_eq_getElem?_getD,List.getElem?_set_ne (by omega),← List.getD_eq_getElem?_getD]
   simp
theorem sh_lt {C:Cfg} (hok:C.Ok) {n:Nat} (hn:(n:Int)≤C.bits) {key:Int} (h0:0≤key) (h:key < keys C 0):sh n key < keys C n:=by
 have hb:=hok.b1
 unfold sh keys at *
 obtain ⟨B,hB⟩:∃ B:Nat,C.bits=B:=⟨C.bits.toNat,by omega⟩
 obtain ⟨m,rfl⟩:∃ m,B=n+m:=⟨B - n,by omega⟩
 rw [hB] at h ⊢
 rw [show (((n+m:Nat):Int) - (n:Int)).toNat=m by omega]
 rw [show (((n+m:Nat):Int) - 0).toNat=n+m by omega] at h
 apply Int.ediv_lt_of_lt_mul (Int.pow_pos (by decide))
 rw [← Int.pow_add,Nat.add_comm]; exact h
theorem kN_eq' {C:Cfg} (h:C.Ok) (n:Nat):keys C n=(kN C n:Int):=kN_eq h (Int.natCast_nonneg n)
end Go.Proofs.YtmalncfcgcebhaaGreatDoor
namespace Go.Proofs.YtmalncfcgcebhaaGreatDoor
set_option linter.unusedVariables false
open Go.RowKit
section
variable {P:Program} {ops:Array Oper} {md:Region.Mode} {Q:Exit→Act→World→Prop} {l n:Nat}
theorem rowsR {row:String} {args:Array Value} {w:World} {R:Value→World→Prop} (h:Rows P row args w R):RowsIn (Fence.wide.inRound l) n P row args w R :=
 fun c cs _=>let ⟨v,w',r,s⟩:=h c cs; ⟨v,w',r,by rw [fenced_inRound]; exact stepsIn_wide.2 s⟩
theorem callsR {f:FuncId} {args:Array Value} {w:World} {R:Ending→World→Prop} (h:Calls P f args w R):CallsIn (Fence.wide.inRound l) n P f args w R :=
 CallsIn.inRound l (callsIn_wide.2 h)
theorem operR {o:Oper} {a:Act} {w:World} {K:Act→World→Prop} (hd:∀ c,o.op≠.defer c) (h:o.wp P a w K Q):o.wpIn (Fence.wide.inRound l) n P a w K Q:=by
 unfold Oper.wpIn
 refine ⟨fun _ _=>trivial, ?_⟩
 rw [show (Fence.wide.inRound l).round=some l from rfl,Oper.semAt_some l a.eval o hd]
 unfold Oper.wp at h
 generalize (execOp a.eval o).run P w=r at *
 cases r with
 | ok x w' =>
   cases x <;> simp only [Oper.upon,Oper.uponIn] at h ⊢ <;> first
    | exact h
    | exact ⟨fun hh=>(by cases hh),callsR h⟩
    | exact ⟨fun hh=>(by cases hh),rowsR h⟩
    | exact h.elim
 | halt x w'=>cases x <;> simp only [Oper.upon,Oper.uponIn] at h ⊢ <;> exact h
def noDefer (l:List Oper):Bool:=l.all fun o=>match o.op with | .defer _=>false | _=>true
theorem noDefer_spec {l:List Oper} (h:noDefer l=true) {i:Nat} {o:Oper} (ho:l.toArray[i]?=some o):∀ c,o.op≠.defer c:=by
 intro c hc
 unfold noDefer at h
 rw [List.all_eq_true] at h
 have:=h o (List.mem_of_getElem? (by simpa using ho))
 rw [hc] at this
 cases this
theorem listR (hq:¬ LetsOut Q):∀ (ls:List Oper) (hd:noDefer ls=true) (a:Act) (w:World),wpList P ops Q ls a w→wpListIn (Fence.wide.inRound l) n P ops Q ls a w:=by
 intro ls
 induction ls with
 | nil=>intro _ _ _ h; exact h
 | cons o rest ih =>
   intro hd a w h
   have hd2:noDefer rest=true:=by
    unfold noDefer at hd ⊢
    rw [List.all_cons,Bool.and_eq_true] at hd
    exact hd.2
   have ho:∀ c,o.op≠.defer c:=noDefer_spec (l:=o :: rest) hd (i:=0) (by simp)
   unfold wpList at h
   unfold wpListIn
   split
   · rename_i hw
     simp only [hw,if_true] at h
     exact operR ho (Oper.wp_mono (fun a w h=>ih hd2 _ _ h) (h.resolve_right fun hh=>hq hh.2))
   · rename_i hw
     simp only [hw] at h
     exact ⟨fun _ _=>trivial,ih hd2 _ _ h⟩
theorem region_plainR {id:Nat} {ls:List Oper} {a:Act} {w:World} (hq:¬ LetsOut Q) (hd:noDefer ls=true) (h:wpList P ls.toArray Q ls a w):(Code.region id ls.toArray false).wpIn (Fence.wide.inRound l) n P Q a w :=
 wpIn_region_lit (listR hq ls hd a w h)
theorem anyR {ls:List Oper} (hq:¬ LetsOut Q) (hd:noDefer ls=true):∀ (f:Nat) (listed:Array Bool) (a:Act) (w:World),wpAny P md ls.toArray Q f listed a w→wpAnyIn (Fence.wide.inRound l) n P md ls.toArray Q f listed a w:=by
 intro f
 induction f with
 | zero=>intro _ _ _ h; exact h
 | succ f ih =>
   intro listed a w h
   refine ⟨h.1,fun i hi=>?_⟩
   have h2:=h.2 i hi
   unfold wpOp at h2
   unfold wpOpIn
   cases ho:ls.toArray[i]? with
   | none=>simp only [ho] at h2; exact ih _ _ _ h2
   | some o =>
     simp only [ho] at h2 ⊢
     split
     · rename_i hw
       simp only [hw,if_true] at h2
       refine operR (noDefer_spec hd ho) ?_
       exact Oper.wp_mono (fun a w h=>ih _ _ _ h) (h2.resolve_right fun hh=>hq hh.2)
     · rename_i hw
       simp only [hw] at h2
       exact ⟨fun _ _=>trivial,ih _ _ _ h2⟩
theorem pi_startR {id:Nat} {ls:List Oper} {a:Act} {w:World} (C:World→Prop) (ex:List Nat) (hm:P.follows .mixedOrders=true) (hq:¬ LetsOut Q) (hd:noDefer ls=true)
 (h:anyC P .any ls.toArray Q C ex ls.length (Array.replicate ls.length false) a w.drew):(Code.region id ls.toArray true).wpIn (Fence.wide.inRound l) n P Q a w:=by
 refine wpIn_region_any hm ?_
 have:=anyR (l:=l) (n:=n) hq hd _ _ _ _ (any_of_anyC _ _ _ _ h)
 simpa using this
end
end Go.Proofs.YtmalncfcgcebhaaGreatDoor
namespace Go.Proofs.YtmalncfcgcebhaaGreatDoor
set_option linter.unusedVariables false
open Go.RowKit
attribute [local go_sem] Oper.semAt_some
theorem Kat_c (s:Nat) (key:Int) (w:World) :
 Calls Tryz.prog 167 #[.pointer (some ⟨s,0,none⟩),.int .u64 key] w fun e w'=>e=.returned (.func (.func 207) #[] #[.pointer (some ⟨w.heap.size,0,none⟩),.pointer (some ⟨w.heap.size+1,0,none⟩)]) ∧
  w'=(w.alloc (.cells #[.pointer (some ⟨s,0,none⟩)] 40)).alloc (.cells #[.int .u64 key] 22):=by
 have hmf:∀ (fn:Fn) (first cap:Array Value) (w:World),(Instr.makeFunc fn first cap).run Tryz.prog w=.ok (.func fn first cap) w:=fun _ _ _ _=>rfl
 go_enter Tryz.func167,Tryz.ntmps167
 go_wp2
 go_ret
 exact ⟨rfl,rfl⟩
def KpS (n₀:Nat) (S:Nat→Prop) (W W':World):Prop:=∀ b,b < n₀→¬ S b→W'.heap[b]?=W.heap[b]?
theorem KpS.t {n₀:Nat} {S:Nat→Prop} {A B C:World} (h:KpS n₀ S A B) (k:KpS n₀ S B C):KpS n₀ S A C:=fun b hb hs=>(k b hb hs).trans (h b hb hs)
theorem KpS.b {n₀:Nat} {S:Nat→Prop} {w:World} (hn:n₀≤w.heap.size) (W:World) (l:Nat) (o o':Obj) (hl:w.heap.size≤l) (h:W.heap[l]?=some o) (_:o.isCells=false) (_:o.isWalk=false):KpS n₀ S W (W.putObj l o'):=by
 intro b hb _
 exact World.putObj_heap_other (by omega)
theorem KpS.cell {n₀:Nat} {S:Nat→Prop} {W W':World} (h:KpS n₀ S W W') {b o:Nat} (hb:b < n₀) (hs:¬ S b):W'.cell? ⟨b,o,none⟩=W.cell? ⟨b,o,none⟩:=by
 unfold World.cell?; rw [show (⟨b,o,none⟩:Addr).block=b from rfl,h b hb hs]
def lvEnc (C:Cfg) (L:Nat→Lev) (B:Nat) (key:Int) (x:{n:Nat // n≤B}):Array Value:=#[lvV C x.1 (L x.1),.int .u64 (sh x.1 key)]
set_option maxRecDepth 100000 in
set_option maxHeartbeats 2000000 in
theorem kat1_in (n l Bs Bk n₀ s g cap:Nat) (S:Nat→Prop) (C:Cfg) (L:Nat→Lev) (B:Nat) (key:Int) (hkey:U64 key) (hB:B≤59) (J Jx:List {n:Nat // n≤B}→World→Prop)
 (hbs:Bs < n₀) (hbk:Bk < n₀) (hs:s < n₀) (hg:g < n₀) (nbs:¬ S Bs) (nbk:¬ S Bk) (ns:¬ S s) (ng:¬ S g)
 (hY:∀ pre x W,J pre W→pre.length < B+1→YieldAt Fence.wide (n - 1) Tryz.prog l (lvEnc C L B key x) W fun e W' =>
  (e=.returned (.bool true)∧J (pre++[x]) W'∧KpS n₀ S W W')∨(e=.returned (.bool false)∧Jx (pre++[x]) W'))
 (W:World) (hBs:W.cell? ⟨Bs,0,none⟩=some (.pointer (some ⟨s,0,none⟩))) (hBk:W.cell? ⟨Bk,0,none⟩=some (.int .u64 key))
 (h5:W.cell? ⟨s,5,none⟩=some (.slice (some ⟨g,0,none⟩) (B+1) cap)) (hc:∀ n,n≤B→W.cell? ⟨g,n,none⟩=some (lvV C n (L n))) (h0:J [] W) :
 CallsIn Fence.wide n Tryz.prog 207 #[.func (.yield l) #[] #[],.pointer (some ⟨Bs,0,none⟩),.pointer (some ⟨Bk,0,none⟩)] W fun e W'=>(∃ v,e=.returned v) ∧
  ((∃ ys,ys.map (fun x:{n:Nat // n≤B}=>x.1)=List.range (B+1)∧J ys W')∨(∃ pre,True∧Jx pre W')):=by
 refine callsIn_of_wp Tryz.func207 rfl trivial ?_ rfl
 simp only [Tryz.ntmps207,List.size_toArray,List.length_cons,List.length_nil,Nat.reduceAdd,Nat.reduceSub,Array.replicate_succ,Array.replicate_zero,List.push_toArray,List.append_toArray,List.nil_append,List.cons_append]
 gi_wp2
 gi_loopw [11] (fun i wr=>∃ (k:Nat) (pre:List {n:Nat // n≤B}),k≤B+1∧i=.int .i64 k∧pre.map (fun x:{n:Nat // n≤B}=>x.1)=List.range k∧J pre wr∧KpS n₀ S W wr)
  (fun i _=>B+1 - (intOf i).toNat)
 case atStart=>exact ⟨0,[],Nat.zero_le _,rfl,rfl,h0,fun _ _ _=>rfl⟩
 case round =>
  obtain ⟨k,pre,hk,rfl,hpre,hJs,hnx⟩:=hrel
  have hlen:pre.length=k:=by have:=congrArg List.length hpre; simpa using this
  by_cases hlt:k < B+1
  · have hcx:=(hnx.cell (o:=k) hg ng).trans (hc k (by omega))
    have hkx:=(hnx.cell (o:=0) hbk nbk).trans hBk
    obtain ⟨fn,tmps,assign,body,hy,hR⟩:=hY pre ⟨k,by omega⟩ wr hJs (by omega)
    dsimp only [lvEnc,sh] at hy
    gi_wp2
    refine ⟨fun h=>(by cases h),hR.mono ?_⟩
    rintro e W3 (⟨rfl,hJ3,hk3⟩ | ⟨rfl,hJx3⟩)
    · gi_wp2
      go_roundw
      case rel=>exact ⟨k+1,pre++[⟨k,by omega⟩],by omega,by simp,by rw [List.map_append,hpre,List.range_succ]; rfl,hJ3,hnx.t hk3⟩
      case measure=>simp [intOf]; omega
    · gi_wp2
      refine bodyPost_ret (results_none rfl _ _ _) rfl ?_
      exact ⟨⟨_,rfl⟩,.inr ⟨_,trivial,hJx3⟩⟩
  · obtain rfl:k=B+1:=by omega
    gi_wp2
    go_end0
    exact ⟨⟨_,rfl⟩,.inl ⟨pre,hpre,hJs⟩⟩
theorem kat1_stops (n Bs Bk n₀ s g cap:Nat) (S:Nat→Prop) (C:Cfg) (L:Nat→Lev) (B:Nat) (key:Int) (hkey:U64 key) (hB:B≤59)
 (hbs:Bs < n₀) (hbk:Bk < n₀) (hs:s < n₀) (hg:g < n₀) (nbs:¬ S Bs) (nbk:¬ S Bk) (ns:¬ S s) (ng:¬ S g) (w:World) (hn:n₀≤w.heap.size)
 (hBs:w.cell? ⟨Bs,0,none⟩=some (.pointer (some ⟨s,0,none⟩))) (hBk:w.cell? ⟨Bk,0,none⟩=some (.int .u64 key))
 (h5:w.cell? ⟨s,5,none⟩=some (.slice (some ⟨g,0,none⟩) (B+1) cap)) (hc:∀ n,n≤B→w.cell? ⟨g,n,none⟩=some (lvV C n (L n))) :
 SeqStopsK Fence.wide n Tryz.prog 207 #[.pointer (some ⟨Bs,0,none⟩),.pointer (some ⟨Bk,0,none⟩)] (lvEnc C L B key) (KpS n₀ S) (fun ys=>ys.map (fun x:{n:Nat // n≤B}=>x.1)=List.range (B+1)) (fun _=>True) (B+1) w:=by
 intro l J Jx W hW hJ hJx hY h0
 refine kat1_in n l Bs Bk n₀ s g cap S C L B key hkey hB J Jx hbs hbk hs hg nbs nbk ns ng hY W ?_ ?_ ?_ (fun n hn'=>?_) h0
 · exact (hW.cell (p:=⟨Bs,0,none⟩) (Nat.lt_of_lt_of_le hbs hn)).trans hBs
 · exact (hW.cell (p:=⟨Bk,0,none⟩) (Nat.lt_of_lt_of_le hbk hn)).trans hBk
 · exact (hW.cell (p:=⟨s,5,none⟩) (Nat.lt_of_lt_of_le hs hn)).trans h5
 · exact (hW.cell (p:=⟨g,n,none⟩) (Nat.lt_of_lt_of_le hg hn)).trans (hc n hn')
set_option maxRecDepth 20000 in
theorem first_c (g cap:Nat) (a b:Int) (w:World) (h0:w.cell? ⟨g,0,none⟩=some (.int .i64 a)) (h1:w.cell? ⟨g,1,none⟩=some (.int .i64 b)) :
 Calls Tryz.prog 168 #[.slice (some ⟨g,0,none⟩) 2 cap] w fun e w'=>e=.returned (.int .i64 (fst_ a b))∧w=w':=by
 by_cases ha:a=0
 · have e0:fst_ a b=b:=by unfold fst_; rw [decide_eq_true ha]; rfl
   rw [e0]
   subst ha
   by_cases hb:b=0
   · subst hb
     go_enter Tryz.func168,Tryz.ntmps168
     go_wp2
     refine wp_loop_rounds 3 ?_
     iterate 3 (rw [rounds_succ]; go_wp2)
     go_ret
     exact ⟨rfl,rfl⟩
   · go_enter Tryz.func168,Tryz.ntmps168
     go_wp2
     refine wp_loop_rounds 2 ?_
     iterate 2 (rw [rounds_succ]; go_wp2)
     go_ret
     exact ⟨rfl,rfl⟩
 · have e0:fst_ a b=a:=by unfold fst_; rw [decide_eq_false ha]; rfl
   rw [e0]
   go_enter Tryz.func168,Tryz.ntmps168
   go_wp2
   refine wp_loop_rounds 1 ?_
   iterate 1 (rw [rounds_succ]; go_wp2)
   go_ret
   exact ⟨rfl,rfl⟩
end Go.Proofs.YtmalncfcgcebhaaGreatDoor
namespace Go.Proofs.YtmalncfcgcebhaaGreatDoor
set_option linter.unusedVariables false
open Go.RowKit
theorem keepsO_ext {w w':World} (h:Ext w w'):KeepsOthers w w' :=
 ⟨h.size,fun k o hk _=>(h.block k (Array.getElem?_eq_some_iff.1 hk).1).trans hk⟩
theorem keepsO_mod {S:Nat→Prop} {w w':World} (h:Mod S w w') (hS:∀ k,S k→k < w.heap.size→∃ cur t f,w.heap[k]?=some (.cells cur t f)):KeepsOthers w w' :=
 ⟨h.size,fun k o hk ho=>by
  have hlt:=(Array.getElem?_eq_some_iff.1 hk).1
  refine (h.block k hlt fun hs=>?_).trans hk
  obtain ⟨cur,t,f,hc⟩:=hS k hs hlt
  rw [hk] at hc
  injection hc with hc
  subst hc
  cases ho⟩
theorem kps_mod {n₀:Nat} {S:Nat→Prop} {w w':World} (h:Mod S w w') (hn:n₀≤w.heap.size):KpS n₀ S w w':=fun b hb hs=>h.block b (by omega) hs
theorem kps_ext {n₀:Nat} {S:Nat→Prop} {w w':World} (h:Ext w w') (hn:n₀≤w.heap.size):KpS n₀ S w w':=fun b hb _=>h.block b (by omega)
theorem grown_low {W W':World} {row:Option Nat} {B k:Nat} (hg:W.grownBy W' row) (hr:∀ r,row=some r→B≤r) (hk:k < W.heap.size) (hB:k < B):W'.heap[k]?=W.heap[k]? :=
 hg.block k hk (fun e=>by have:=hr k e.symm; omega)
theorem ownFrom_mod {β:Type} {S:Nat→Prop} {B:Nat} {w₀:World} (hB:w₀.heap.size≤B):OwnFrom B (fun (_:β) W=>Mod S w₀ W) :=
 fun _ _ _ _ hs hg hr=>⟨hg.os.trans hs.os,hg.tape.trans hs.tape,hg.output.trans hs.output,Nat.le_trans hs.size hg.size,fun k hk hn=>(grown_low hg (fun r e=>(hr r e).1) (Nat.lt_of_lt_of_le hk hs.size) (by omega)).trans (hs.block k hk hn)⟩
theorem ownFrom_box {β:Type} {B b:Nat} (hb:b < B) (f:β→Obj):OwnFrom B (fun (s:β) W=>W.heap[b]?=some (f s)) :=
 fun s W W' row hs hg hr=>(grown_low hg (fun r e=>(hr r e).1) (lt_of hs) hb).trans hs
structure KLow (N s g B:Nat) (L:Nat→Lev):Prop where
 s:s < N
 g:g < N
 ls:∀ n,n≤B→(L n).s < N
 lb:∀ n,n≤B→(L n).b < N
 lc:∀ n,n≤B→(L n).c < N
theorem KAt.low {w:World} {s g:Nat} {C:Cfg} {B:Nat} {L:Nat→Lev} {ls:Nat→List Int} (h:KAt w s g C B L ls):KLow w.heap.size s g B L :=
 ⟨h.lts,h.ltg,fun n hn=>(h.lev n hn).lts,fun n hn=>(h.lev n hn).ltb,fun n hn=>(h.lev n hn).ltc⟩
theorem KAt.keepN {w w':World} {N s g:Nat} {C:Cfg} {B:Nat} {L:Nat→Lev} {ls:Nat→List Int} (h:KAt w s g C B L ls) (hl:KLow N s g B L) (hk:∀ k,k < w.heap.size→k < N→w'.heap[k]?=w.heap[k]?):KAt w' s g C B L ls :=
 ⟨by rw [hk s h.lts hl.s]; exact h.ex,by rw [hk g h.ltg hl.g]; exact h.row,fun n hn=>(h.lev n hn).keep (hk _ (h.lev n hn).lts (hl.ls n hn)) (hk _ (h.lev n hn).ltb (hl.lb n hn)) (hk _ (h.lev n hn).ltc (hl.lc n hn)),h.sep,h.ok,h.hB⟩
theorem KAt.put {w w':World} {s g:Nat} {C:Cfg} {B:Nat} {L:Nat→Lev} {ls:Nat→List Int} (h:KAt w s g C B L ls) {n:Nat} (hn:n≤B) (hm:Mod (fun k=>k=(L n).c) w w') {l:List Int} (hl:LvAt w' (L n) C n l) :
 KAt w' s g C B L (fun m=>if m=n then l else ls m):=by
 have hcs:∀ k,k=(L n).c→k < w.heap.size→∃ cur,w.heap[k]?=some (.cells cur 2 (0,0)):=by
  rintro k rfl _; exact (h.lev n hn).isc
 refine ⟨?_, ?_,fun m hm'=>?_,h.sep,h.ok,h.hB⟩
 · rw [hm.block s h.lts fun e=>h.nots ⟨n,hn,e⟩]; exact h.ex
 · rw [hm.block g h.ltg fun e=>h.notg ⟨n,hn,e⟩]; exact h.row
 · by_cases e:m=n
   · subst e; rw [if_pos rfl]; exact hl
   · rw [if_neg e]; exact (h.lev m hm').mod hm hcs (h.sep m n hm' hn e)
theorem KAt.mod1 {w w':World} {s g:Nat} {C:Cfg} {B:Nat} {L:Nat→Lev} {ls:Nat→List Int} (h:KAt w s g C B L ls) {n:Nat} (hn:n≤B) (hm:Mod (fun k=>k=(L n).c) w w'):Mod (cellsOf B L) w w' :=
 hm.mono fun k hk _=>⟨n,hn,hk⟩
theorem KAt.cellsT {w:World} {s g:Nat} {C:Cfg} {B:Nat} {L:Nat→Lev} {ls:Nat→List Int} (h:KAt w s g C B L ls) (k:Nat) (hk:cellsOf B L k) (_:k < w.heap.size):∃ cur t f,w.heap[k]?=some (.cells cur t f):=by
 obtain ⟨cur,hc⟩:=h.isc hk; exact ⟨_,_,_,hc⟩
theorem mod_new {w W0 W:World} {b:Nat} (he:Ext w W0) (hm:Mod (fun k=>k=b) W0 W) (hb:w.heap.size≤b):Mod (fun _=>False) w W :=
 ⟨hm.os.trans he.os,hm.tape.trans he.tape,hm.output.trans he.output,Nat.le_trans he.size hm.size,fun k hk _=>(hm.block k (Nat.lt_of_lt_of_le hk he.size) (by omega)).trans (he.block k hk)⟩
theorem mod_putD {S:Nat→Prop} {w W:World} {D:Nat} {o:Obj} (h:Mod S w W) (hD:w.heap.size≤D):Mod S w (W.putObj D o) :=
 ⟨h.os,h.tape,h.output,Nat.le_trans h.size (by simp [World.putObj]),fun k hk hn=>(World.putObj_heap_other (by omega)).trans (h.block k hk hn)⟩
theorem chk_round {W0 W w3:World} {b:Nat} {t:TypeId} {u v:Value} {o:Obj} (hb:W.heap[b]?=some (.cells #[u] t (0,0))) (hx:Ext W w3) (hM:Mod (fun k=>k=b) W0 W) :
 KeepsOthers W ((w3.setCell ⟨b,0,none⟩ v).alloc o)∧KpS W0.heap.size (fun k=>k=b) W ((w3.setCell ⟨b,0,none⟩ v).alloc o)∧((w3.setCell ⟨b,0,none⟩ v).alloc o).heap[b]?=some (.cells #[v] t (0,0))∧Mod (fun k=>k=b) W0 ((w3.setCell ⟨b,0,none⟩ v).alloc o):=by
 have h3:=hx.keep hb
 have hl:=lt_of h3
 have hm:Mod (fun k=>k=b) W ((w3.setCell ⟨b,0,none⟩ v).alloc o):=((hx.mod _).trans (mod_set _ _ _ _)).trans ((Ext.alloc' _ _).mod _)
 refine ⟨keepsO_mod hm ?_,kps_mod hm hM.size, ?_,hM.trans hm⟩
 · rintro k rfl _; exact ⟨_,_,_,hb⟩
 · rw [heap_old _ _ (by rw [size_setCell]; exact hl),setCell_same h3]; rfl
def vals {B:Nat} (pre:List {n:Nat // n≤B}):List Nat:=pre.map fun x=>x.1
theorem vals_snoc {B:Nat} (pre:List {n:Nat // n≤B}) (x:{n:Nat // n≤B}):vals (pre++[x])=vals pre++[x.1]:=by unfold vals; rw [List.map_append]; rfl
def errF (C:Cfg) (ls:Nat→List Int) (key d:Int) (pre:List Nat):Int:=pre.foldl (fun (b:Int) (n:Nat)=>fst_ b (lvE C n (ls n) (sh n key) d)) 0
theorem errF_snoc (C:Cfg) (ls:Nat→List Int) (key d:Int) (pre:List Nat) (n:Nat):errF C ls key d (pre++[n])=fst_ (errF C ls key d pre) (lvE C n (ls n) (sh n key) d):=by
 unfold errF; rw [List.foldl_append]; rfl
theorem errF_range (C:Cfg) (ls:Nat→List Int) (key d:Int) (m:Nat):errF C ls key d (List.range m)=errs C ls key d m:=by
 induction m with
 | zero=>rfl
 | succ m ih=>rw [List.range_succ,errF_snoc,ih]; rfl
def partK (C:Cfg) (ls:Nat→List Int) (key d:Int) (pre:List Nat) (n:Nat):List Int:=if n∈pre then updK C ls key d n else ls n
theorem upd_round {W2 W w3:World} {s g:Nat} {C:Cfg} {B:Nat} {L:Nat→Lev} {ls ls':Nat→List Int} {key d:Int} {pre:List {n:Nat // n≤B}} {x:{n:Nat // n≤B}} {D:Nat}
 (h:KAt W s g C B L ls') (hp:(vals pre).Nodup→∀ n,ls' n=partK C ls key d (vals pre) n) (hM:Mod (cellsOf B L) W2 W) (hD:W.heap[D]?=some (.deferred (some [])))
 (hall:∀ n,n≤B→lvE C n (ls n) (sh n key) d=0)
 (hres:(lvE C x.1 (ls' x.1) (sh x.1 key) d=0∧LvAt w3 (L x.1) C x.1 (lvU C x.1 (ls' x.1) (sh x.1 key) d)∧Mod (fun k=>k=(L x.1).c) W w3)∨(lvE C x.1 (ls' x.1) (sh x.1 key) d≠0∧Ext W w3)) :
 KeepsOthers W w3∧KpS W2.heap.size (cellsOf B L) W w3∧w3.heap[D]?=some (.deferred (some []))∧(∃ ls'',KAt w3 s g C B L ls''∧((vals (pre++[x])).Nodup→∀ n,ls'' n=partK C ls key d (vals (pre++[x])) n))∧Mod (cellsOf B L) W2 w3:=by
 have old:(vals (pre++[x])).Nodup→(vals pre).Nodup∧x.1 ∉ vals pre:=by
  intro hn
  rw [vals_snoc,List.nodup_append] at hn
  exact ⟨hn.1,fun hx=>hn.2.2 _ hx x.1 (by simp) rfl⟩
 rcases hres with ⟨he,hl,hm⟩ | ⟨he,hx⟩
 · have hmm:=h.mod1 x.2 hm
   have hko:=keepsO_mod hmm (fun k hk hlt=>h.cellsT k hk hlt)
   refine ⟨hko,kps_mod hmm hM.size,hko.same _ _ hD rfl,⟨_,h.put x.2 hm hl,fun hn n=>?_⟩,hM.trans hmm⟩
   obtain ⟨h1,h2⟩:=old hn
   by_cases e:n=x.1
   · subst e
     rw [if_pos rfl,hp h1]
     unfold partK
     rw [if_neg h2,if_pos (by rw [vals_snoc]; simp)]
     rfl
   · rw [if_neg e,hp h1]
     unfold partK
     rw [vals_snoc]
     simp only [List.mem_append,List.mem_singleton,e,or_false]
 · have hko:=keepsO_ext hx
   refine ⟨hko,kps_ext hx hM.size,hko.same _ _ hD rfl,⟨ls',h.ext hx,fun hn n=>?_⟩,hM.trans (hx.mod _)⟩
   obtain ⟨h1,h2⟩:=old hn
   exfalso
   apply he
   rw [hp h1]
   unfold partK
   rw [if_neg h2]
   exact hall _ x.2
theorem part_end {C:Cfg} {B:Nat} {ls ls':Nat→List Int} {key d:Int} {xs:List {n:Nat // n≤B}} (hxs:xs.map (fun x=>x.1)=List.range (B+1)) (hp:(vals xs).Nodup→∀ n,ls' n=partK C ls key d (vals xs) n) :
 ∀ n,n≤B→ls' n=updK C ls key d n:=by
 have e:vals xs=List.range (B+1):=hxs
 intro n hn
 rw [hp (by rw [e]; exact List.nodup_range),e]
 unfold partK
 rw [if_pos (by rw [List.mem_range]; omega)]
theorem KAt.cong {w:World} {s g:Nat} {C:Cfg} {B:Nat} {L:Nat→Lev} {ls ls':Nat→List Int} (h:KAt w s g C B L ls) (he:∀ n,n≤B→ls n=ls' n):KAt w s g C B L ls' :=
 ⟨h.ex,h.row,fun n hn=>he n hn ▸ h.lev n hn,h.sep,h.ok,h.hB⟩
end Go.Proofs.YtmalncfcgcebhaaGreatDoor
namespace Go.Proofs.YtmalncfcgcebhaaGreatDoor
set_option linter.unusedVariables false
open Go.RowKit
section
variable {P:Program}
theorem wpList_appv (W:World) {ops:Array Oper} {rest:List Oper} {o:Oper} {a:Act} {Q:Exit→Act→World→Prop} (x:Value) (hx1:x.oneCell'=true) (xs:List Value) (v:Value) (base:Nat) (e:TypeId) (hown:W.ownsRow base e 1 v xs.length xs) (t:TypeId)
 (hgd:o.guard=none) (s y:Operand) (ho:o.op=.call { callee:=.builtin .append,args:=#[s,y],argTypes:=#[t,t] })
 (i0:TypeInfo) (z0:Value) (hi:P.info? e=some i0) (hz0:i0.zero=some z0) (hz1:i0.size=1) (hz2:i0.bytes=16) (hz3:z0.cells.size=1) (ht:P.underlying t=some (.slice e))
 (hs:a.eval s=v) (hx:a.eval y=.slice (some ⟨W.heap.size,0,none⟩) 1 1)
 (hl:xs.length≤1000000) (hbase:base≤W.heap.size)
 (h:∀ v' w',w'.ownsRow base e 1 v' (xs++[x]).length (xs++[x])→(W.alloc (.cells #[x] e)).grownBy w' v.ownBlock→wpList P ops Q rest (a.put o.dst v') w') :
 wpList P ops Q (o :: rest) a (W.alloc (.cells #[x] e)):=by
 refine wpList_append_sep _ hgd s y t ho base e i0 z0 1 16 ht hi hz0 hz1 hz2 hz3 (by decide) v xs.length xs hs (hown.alloc _) ⟨W.heap.size,0,none⟩ 1 1 [x] hx rfl ?_ ?_ (by unfold maxLen; omega) (by omega) (by rw [size_alloc]; omega) ?_
 · intro j u hu
   have hj:j=0:=by
    have:=(List.getElem?_eq_some_iff.1 hu).1
    simp at this; exact this
   subst hj
   rw [show (⟨W.heap.size,0,none⟩:Addr).add 0=⟨W.heap.size,0,none⟩ by simp [Addr.add],cell_of (heap_at W _ rfl) 0]
   exact hu
 · intro u hu
   simp at hu
   subst hu
   exact hx1
 · intro v' w' h1 h2 h3
   refine h v' w' ?_ h2
   rw [List.length_append]
   exact h1
end
theorem own_type {w:World} {base n size:Nat} {e:TypeId} {v:Value} {xs:List Value} (h:w.ownsRow base e size v n xs) {k:Nat} (hk:v.ownBlock=some k):∃ cur,w.heap[k]?=some (.cells cur e (0,0)):=by
 rcases h.2 with ⟨rfl,_⟩ | ⟨g,cap,cur,rfl,_,hg,_⟩
 · cases hk
 · cases hk; exact ⟨cur,hg⟩
theorem info_lev:∃ i z,Tryz.prog.info? 120=some i∧i.zero=some z∧i.size=1∧i.bytes=16∧z.cells.size=1:=by
 have h:(Tryz.prog.info? 120).map (fun i=>(i.zero,i.size,i.bytes))=some (some .nilIface,1,16):=by kernel_rfl
 match hi:Tryz.prog.info? 120,h with
 | some i,h =>
   simp only [Option.map_some,Option.some.injEq,Prod.mk.injEq] at h
   exact ⟨i,.nilIface,rfl,h.1,h.2.1,h.2.2,rfl⟩
def lvVs (C:Cfg) (L:Nat→Lev) (n:Nat):List Value:=(List.range n).map fun (i:Nat)=>lvV C i (L i)
theorem lvVs_len (C:Cfg) (L:Nat→Lev) (n:Nat):(lvVs C L n).length=n:=by simp [lvVs]
theorem lvVs_succ (C:Cfg) (L:Nat→Lev) (n:Nat):lvVs C L (n+1)=lvVs C L n++[lvV C n (L n)]:=by
 unfold lvVs; rw [List.range_succ,List.map_append]; rfl
theorem lvVs_cong (C:Cfg) {L L':Nat→Lev} {n:Nat} (h:∀ i,i < n→L i=L' i):lvVs C L n=lvVs C L' n:=by
 unfold lvVs
 apply List.map_congr_left
 intro i hi
 rw [List.mem_range] at hi
 rw [h i hi]
theorem lvVs_get (C:Cfg) (L:Nat→Lev) {n i:Nat} (h:i < n):(lvVs C L n)[i]?=some (lvV C i (L i)):=by
 unfold lvVs; rw [List.getElem?_map,List.getElem?_range h]; rfl
theorem LvAt.norow {w:World} {L:Lev} {C:Cfg} {lv:Int} {l:List Int} (h:LvAt w L C lv l) {k:Nat} {cur:Array Value} (hk:w.heap[k]?=some (.cells cur 120 (0,0))):k≠L.s∧k≠L.b∧k≠L.c:=by
 refine ⟨?_, ?_, ?_⟩
 · rcases h with ⟨_,h⟩ | ⟨_,h⟩ <;> exact blk_ne hk h.ex (by decide)
 · rcases h with ⟨_,h⟩ | ⟨_,h⟩ <;> (obtain ⟨cap,h1,_⟩:=h.g.ex; exact blk_ne hk h1 (by decide))
 · obtain ⟨cur',h1⟩:=h.isc
   exact blk_ne hk h1 (by decide)
theorem LvAt.grown {w w':World} {o:Obj} {row:Option Nat} {L:Lev} {C:Cfg} {lv:Int} {l:List Int} (h:LvAt w L C lv l) (hg:(w.alloc o).grownBy w' row) (hr:∀ i,row=some i→∃ cur,w.heap[i]?=some (.cells cur 120 (0,0))):LvAt w' L C lv l:=by
 have key:∀ k,k < w.heap.size→(∀ i,row=some i→i≠k)→w'.heap[k]?=w.heap[k]?:=fun k hk hn=>grown_old hg hk (fun e=>hn k e.symm rfl)
 refine h.keep (key _ h.lts fun i hi=>?_) (key _ h.ltb fun i hi=>?_) (key _ h.ltc fun i hi=>?_)
 all_goals
  obtain ⟨cur,hc⟩:=hr i hi
  have:=h.norow hc
 · exact this.1
 · exact this.2.1
 · exact this.2.2
structure Made (w:World) (B0:Nat) (C:Cfg) (k:Nat) (L:Nat→Lev) (ls:Nat→List Int) (v:Value):Prop where
 row:w.ownsRow B0 120 1 v (lvVs C L k).length (lvVs C L k)
 lev:∀ n,n < k→LvAt w (L n) C n (ls n)
 new:∀ n,n < k→B0≤(L n).s∧B0≤(L n).b∧B0≤(L n).c
 sep:∀ m n,m < k→n < k→m≠n→(L m).c≠(L n).c
theorem Made.ext {w w':World} {B0 k:Nat} {C:Cfg} {L:Nat→Lev} {ls:Nat→List Int} {v:Value} (h:Made w B0 C k L ls v) (he:Ext w w'):Made w' B0 C k L ls v :=
 ⟨own_ext h.row he,fun n hn=>(h.lev n hn).ext he,h.new,h.sep⟩
theorem Made.next {w w':World} {B0 k:Nat} {C:Cfg} {L:Nat→Lev} {ls:Nat→List Int} {v v':Value} {M:Lev} {l:List Int} {o:Obj} {N:Nat} (h:Made w B0 C k L ls v) (hM:LvAt w M C k l) (hN:∀ n,n < k→(L n).c < N) (hB:B0≤N) (h1:N≤M.s) (h2:N≤M.b) (h3:N≤M.c)
 (hl:l=ls k) (hown:w'.ownsRow B0 120 1 v' (lvVs C L k++[lvV C k M]).length (lvVs C L k++[lvV C k M])) (hg:(w.alloc o).grownBy w' v.ownBlock):Made w' B0 C (k+1) (fun n=>if n=k then M else L n) ls v':=by
 subst hl
 have hr:∀ i,v.ownBlock=some i→∃ cur,w.heap[i]?=some (.cells cur 120 (0,0)):=fun i hi=>own_type h.row hi
 refine ⟨?_,fun n hn=>?_,fun n hn=>?_,fun m n hm hn hmn=>?_⟩
 · rw [lvVs_succ,if_pos rfl,lvVs_cong C (L':=L) (fun i hi=>if_neg (by omega))]
   exact hown
 · by_cases e:n=k
   · subst e; rw [if_pos rfl]; exact hM.grown hg hr
   · rw [if_neg e]; exact (h.lev n (by omega)).grown hg hr
 · by_cases e:n=k
   · rw [if_pos e]; exact ⟨by omega,by omega,by omega⟩
   · rw [if_neg e]; exact h.new n (by omega)
 · by_cases e:m=k
   · subst e
     rw [if_pos rfl,if_neg (by omega)]
     have:=hN n (by omega)
     omega
   · rw [if_neg e]
     by_cases e':n=k
     · subst e'
       rw [if_pos rfl]
       have:=hN m (by omega)
       omega
     · rw [if_neg e']; exact h.sep m n (by omega) (by omega) hmn
theorem Made.ltN {w:World} {B0 k:Nat} {C:Cfg} {L:Nat→Lev} {ls:Nat→List Int} {v:Value} (h:Made w B0 C k L ls v) (n:Nat) (hn:n < k):(L n).c < w.heap.size:=(h.lev n hn).ltc
theorem Made.stack {w:World} {s B0 B:Nat} {C:Cfg} {L:Nat→Lev} {ls:Nat→List Int} {v:Value} (h:Made w B0 C (B+1) L ls v) (hok:C.Ok) (hB:C.bits=B) (hs:w.heap[s]?=some (.cells #[.int .i64 C.bits,.int .i64 C.rows,.int .i64 C.width,.int .i64 C.mode,.int .u64 C.seed,v] 118 (0,0))) :
 ∃ g,B0≤g∧KAt w s g C B L ls:=by
 have hl:=lvVs_len C L (B+1)
 rcases h.row.2 with ⟨_,h0⟩ | ⟨g,cap,cur,rfl,hbg,hg,hnc,hcm,hcs,htake⟩
 · rw [hl] at h0; omega
 · rw [hl] at hs hnc
   refine ⟨g,hbg,⟨⟨cap,hs,hnc⟩,⟨cur,hg,fun n hn=>?_⟩,fun n hn=>h.lev n (by omega),fun m n hm hn=>h.sep m n (by omega) (by omega),hok,hB⟩⟩
   have h1:=h.row.cells (g:=g) rfl n _ (lvVs_get C L (show n < B+1 by omega))
   rw [show ((⟨g,0,none⟩:Addr).add n)=⟨g,n,none⟩ by (simp [Addr.add]; intro e; exact e.symm),cell_of hg] at h1
   exact h1
theorem Made.setc {w:World} {B0 k:Nat} {C:Cfg} {L:Nat→Lev} {ls:Nat→List Int} {v:Value} (h:Made w B0 C k L ls v) {b:Nat} (hb:b < B0) (o:Nat) (u:Value):Made (w.setCell ⟨b,o,none⟩ u) B0 C k L ls v :=
 ⟨own_setc h.row hb o u,fun n hn=>(h.lev n hn).keep (setCell_other _ _ (by have:=h.new n hn; omega)) (setCell_other _ _ (by have:=h.new n hn; omega)) (setCell_other _ _ (by have:=h.new n hn; omega)),h.new,h.sep⟩
def KNewPost (w:World) (C:Cfg) (e:Ending) (w':World):Prop :=
 ∃ (s g:Nat) (L:Nat→Lev),e=.returned (.tuple #[.pointer (some ⟨s,0,none⟩),.int .i64 0])∧KAt w' s g C C.bits.toNat L (fun n=>zs (lvN C n))∧w.heap.size≤s∧w.heap.size≤g∧(∀ n,n≤C.bits.toNat→w.heap.size≤(L n).s∧w.heap.size≤(L n).b∧w.heap.size≤(L n).c)∧Ext w w'
set_option maxRecDepth 20000 in
set_option maxHeartbeats 4000000 in
theorem KNew_c (C:Cfg) (h:C.Ok) (w:World) :
 Calls Tryz.prog 55 #[.agg #[.int .i64 C.bits,.int .i64 C.rows,.int .i64 C.width,.int .i64 C.mode,.int .u64 C.seed]] w (KNewPost w C):=by
 have hb1:=h.b1
 have hb2:=h.b2
 obtain ⟨B,hB⟩:∃ B:Nat,C.bits=B:=⟨C.bits.toNat,by omega⟩
 have hBt:C.bits.toNat=B:=by omega
 unfold KNewPost
 rw [hBt]
 have HB:=Lib.hid hB
 have HBT:=Lib.hid hBt
 clear hB hBt
 go_enter Tryz.func55,Tryz.ntmps55
 go_wp2_with fail
 refine (Right_c C h _).mono ?_
 rintro e w1 ⟨rfl,hx1⟩
 have hE1:Ext w w1:=(Ext.alloc' w _).trans' hx1
 have hcb:=hx1.keep (heap_at w (.cells #[.int .i64 C.bits,.int .i64 C.rows,.int .i64 C.width,.int .i64 C.mode,.int .u64 C.seed] 24) rfl)
 have hC1:=CfgAt.of hcb
 have c0:=hC1.c0
 have c1:=hC1.c1
 have c2:=hC1.c2
 have c3:=hC1.c3
 have c4:=hC1.c4
 have cl:=hC1.lt
 have hs1:=hE1.size
 have hbits:C.bits+1=(B:Int)+1:=by rw [HB.out]
 go_wp2
 go_loopw [5,18] (fun u5 u18 wr=>∃ (k:Nat) (L:Nat→Lev),k≤B+1∧u18=.int .i64 k∧Ext w wr∧wr.heap[w.heap.size]?=some (.cells #[.int .i64 C.bits,.int .i64 C.rows,.int .i64 C.width,.int .i64 C.mode,.int .u64 C.seed] 24 (0,0)) ∧
  wr.heap[w1.heap.size]?=some (.cells #[.int .i64 C.bits,.int .i64 C.rows,.int .i64 C.width,.int .i64 C.mode,.int .u64 C.seed,.slice none 0 0] 118 (0,0)) ∧
  Made wr (w1.heap.size+1) C k L (fun n=>zs (lvN C n)) u5) (fun _ u18 _=>B+1 - (intOf u18).toNat)
 case atStart =>
  refine ⟨0,fun _=>⟨0,0,0⟩,Nat.zero_le _,rfl,hE1.allocR _,by rw [heap_old _ _ (by omega)]; exact hcb,heap_at _ _ rfl,⟨⟨rfl,.inl ⟨rfl,rfl⟩⟩, ?_, ?_, ?_⟩⟩ <;> (intros; omega)
 case round =>
  obtain ⟨k,L,hk,rfl,hE,hcr,hbox,hM⟩:=hrel
  have hC:=CfgAt.of hcr
  have d0:=hC.c0
  have d1:=hC.c1
  have d2:=hC.c2
  have d3:=hC.c3
  have d4:=hC.c4
  have dl:=hC.lt
  have hbl:=lt_of hbox
  have HC:=Lib.hid hcr
  have HBX:=Lib.hid hbox
  have HM:=Lib.hid hM
  clear hC hcr hbox hM
  by_cases hlt:k < B+1
  · go_wp2_with fail
    refine (LNew_c C h k (by omega) (by have:=HB.out; omega) _).mono ?_
    rintro e w2 ⟨M,rfl,hL,n1,n2,n3,hx2⟩
    have hown:=own_ext HM.out.row hx2
    have hszz:=hx2.size
    obtain ⟨T,hT⟩:∃ T,lvV C k M=.iface T (.pointer (some ⟨M.s,0,none⟩)):=⟨lvT C k,rfl⟩
    rw [hT]
    have HT:=Lib.hid hT
    clear hT
    have hll:=lvVs_len C L k
    obtain ⟨i0,z0,hi0,hz0,hz1,hz2,hz3⟩:=info_lev
    go_wp2_with (at_builtin; refine wpList_appv w2 (.iface T (.pointer (some ⟨M.s,0,none⟩))) rfl (lvVs C L k) u5 (w1.heap.size+1) 120 hown 116 rfl _ _ rfl i0 z0 hi0 hz0 hz1 hz2 hz3 Tryz.underlying116 rfl rfl ?a1 ?a2 ?_)
    case a1=>omega
    case a2=>omega
    intro v' w' hown' hgr
    have hmade:=HM.out.ext hx2
    have hnext:=hmade.next (N:=wr.heap.size) (ls:=fun n=>zs (lvN C n)) hL (fun n hn=>HM.out.ltN n hn) (by omega) n1 n2 n3 rfl (by rw [HT.out,List.length_append,hll]; exact hown') hgr
    have hge:∀ i,u5.ownBlock=some i→w1.heap.size+1≤i:=fun i hi=>own_blk hown hi
    have hex:Ext w w':=ext_grown (hE.trans' hx2) hgr (fun i hi=>by have:=hge i hi; omega)
    have hCx:=(grown_old hgr (show w.heap.size < w2.heap.size by omega) (fun e=>by have:=hge _ e.symm; omega)).trans (hx2.keep HC.out)
    have hbx:=(grown_old hgr (show w1.heap.size < w2.heap.size by omega) (fun e=>by have:=hge _ e.symm; omega)).trans (hx2.keep HBX.out)
    go_wp2
    go_roundw
    case rel=>exact ⟨k+1,_,by omega,by go_num,hex,hCx,hbx,hnext⟩
    case measure=>simp [intOf]; omega
  · obtain rfl:k=B+1:=by omega
    obtain ⟨p5,k5,c5,rfl⟩:=own_slice HM.out.row
    have hfz:=frozen_of HBX.out 5
    have hbc:=(cell_of HBX.out 5).trans rfl
    go_wp2
    go_ret2
    have hm:=HM.out.setc (show w1.heap.size < w1.heap.size+1 by omega) 5 (.slice p5 k5 c5)
    obtain ⟨g,hg,hK⟩:=hm.stack h HB.out ((setCell_same HBX.out 5 (.slice p5 k5 c5)).trans rfl)
    refine ⟨w1.heap.size,g,L,rfl,hK,hs1,by omega,fun n hn=>?_,hE.setR (p:=⟨w1.heap.size,5,none⟩) hs1 _⟩
    have:=HM.out.new n (by omega)
    omega
end Go.Proofs.YtmalncfcgcebhaaGreatDoor
namespace Go.Proofs.YtmalncfcgcebhaaGreatDoor
set_option linter.unusedVariables false
open Go.RowKit
theorem pcV_append (a b:List (Nat × Int)):pcV (a++b)=pcV a++pcV b:=by unfold pcV; rw [List.flatMap_append]
section
variable {P:Program}
theorem wpList_appp (W:World) {ops:Array Oper} {rest:List Oper} {o:Oper} {a:Act} {Q:Exit→Act→World→Prop} (p:Nat × Int) (l:List (Nat × Int)) (v:Value) (base:Nat) (e e':TypeId) (hown:W.ownsRow base e 2 v l.length (pcV l)) (t:TypeId)
 (hgd:o.guard=none) (s y:Operand) (ho:o.op=.call { callee:=.builtin .append,args:=#[s,y],argTypes:=#[t,t] })
 (i0:TypeInfo) (z:Value) (hi:P.info? e=some i0) (hz0:i0.zero=some z) (hz1:i0.size=2) (hz2:i0.bytes=16) (hzs:z.cells.size=2) (ht:P.underlying t=some (.slice e))
 (hs:a.eval s=v) (hx:a.eval y=.slice (some ⟨W.heap.size,0,none⟩) 1 1)
 (hl:l.length≤1000000000) (hbase:base≤W.heap.size)
 (h:∀ v' w',w'.ownsRow base e 2 v' (l++[p]).length (pcV (l++[p]))→(W.alloc (.cells #[.int .i64 (p.1:Int),.int .u64 p.2] e')).grownBy w' v.ownBlock→(v'.ownBlock=v.ownBlock∨v'.ownBlock=some (W.heap.size+1))→wpList P ops Q rest (a.put o.dst v') w') :
 wpList P ops Q (o :: rest) a (W.alloc (.cells #[.int .i64 (p.1:Int),.int .u64 p.2] e')):=by
 refine wpList_append_sep _ hgd s y t ho base e i0 z 2 16 ht hi hz0 hz1 hz2 hzs (by decide) v l.length (pcV l) hs (hown.alloc _) ⟨W.heap.size,0,none⟩ 1 1 [.int .i64 (p.1:Int),.int .u64 p.2] hx rfl ?_ ?_ (by unfold maxLen; omega) (by omega) (by rw [size_alloc]; omega) ?_
 · intro j v hv
   have hj:j=0∨j=1:=by
    have:=(List.getElem?_eq_some_iff.1 hv).1
    simp at this; omega
   rcases hj with rfl | rfl
   · rw [show (⟨W.heap.size,0,none⟩:Addr).add 0=⟨W.heap.size,0,none⟩ by simp [Addr.add],cell_of (heap_at W _ rfl) 0]
     exact hv
   · rw [show (⟨W.heap.size,0,none⟩:Addr).add 1=⟨W.heap.size,1,none⟩ by simp [Addr.add],cell_of (heap_at W _ rfl) 1]
     exact hv
 · intro x hx
   simp at hx
   rcases hx with rfl | rfl <;> rfl
 · intro v' w' h1 h2 h3
   refine h v' w' ?_ h2 ?_
   · rw [List.length_append,pcV_append]
     exact h1
   · rw [size_alloc] at h3; exact h3
theorem wpList_apppz (W:World) {ops:Array Oper} {rest:List Oper} {o:Oper} {a:Act} {Q:Exit→Act→World→Prop} (l xs:List (Nat × Int)) (v:Value) (base:Nat) (e:TypeId) (hown:W.ownsRow base e 2 v xs.length (pcV xs)) (t:TypeId)
 (hgd:o.guard=none) (s y:Operand) (ho:o.op=.call { callee:=.builtin .append,args:=#[s,y],argTypes:=#[t,t] })
 (i0:TypeInfo) (z:Value) (hi:P.info? e=some i0) (hz0:i0.zero=some z) (hz1:i0.size=2) (hz2:i0.bytes=16) (hzs:z.cells.size=2) (ht:P.underlying t=some (.slice e))
 (hs:a.eval s=v) (u:Value) (hx:a.eval y=u) (base':Nat) (hu:W.ownsRow base' e 2 u l.length (pcV l))
 (hl:xs.length+l.length≤1000000000) (hbase:base≤W.heap.size)
 (h:∀ (v':Value) (w':World),w'.ownsRow base e 2 v' (xs++l).length (pcV (xs++l))→(∀ W0:World,Ext W0 W→W0.heap.size≤base→Ext W0 w')→(∀ (k:Nat) (cur:Array Value) (t':TypeId),W.heap[k]?=some (Obj.cells cur t' (0,0))→t'≠e→w'.heap[k]?=some (Obj.cells cur t' (0,0)))→wpList P ops Q rest (a.put o.dst v') w') :
 wpList P ops Q (o :: rest) a W:=by
 rcases hu.2 with ⟨rfl,h0⟩ | ⟨g,cap,cur,rfl,hb,hh,hnc,hcm,hcs,htk⟩
 · have hl0:l=[]:=List.length_eq_zero_iff.1 h0
   subst hl0
   refine wpList_append_zero hgd s y t ho base e i0 2 ht hi v xs.length (pcV xs) hs hown none 0 hx ?_
   exact h v W (by rw [List.append_nil]; exact hown) (fun W0 h _=>h) (fun k cur t' hk _=>hk)
 · refine wpList_append_sep _ hgd s y t ho base e i0 z 2 16 ht hi hz0 hz1 hz2 hzs (by decide) v xs.length (pcV xs) hs hown ⟨g,0,none⟩ l.length cap (pcV l) hx (by rw [pcV_len]) ?_ ?_ (by unfold maxLen; omega) (by omega) hbase ?_
   · intro j u' hu'
     have hj:=(List.getElem?_eq_some_iff.1 hu').1
     rw [pcV_len] at hj
     rw [← htk,List.getElem?_take_of_lt hj,Array.getElem?_toList] at hu'
     rw [show (⟨g,0,none⟩:Addr).add j=⟨g,j,none⟩ by (simp [Addr.add]; try omega),cell_of hh]
     exact hu'
   · intro u' hu'
     obtain ⟨j,hj⟩:=List.getElem?_of_mem hu'
     obtain ⟨k,hk,⟨_,rfl⟩ | ⟨_,rfl⟩⟩:=pcV_get hj <;> rfl
   · intro v' w' h1 h2 h3
     refine h v' w' (by rw [List.length_append,pcV_append]; exact h1) (fun W0 hE hb=>ext_grown0 hE h2 fun k hk=>Nat.le_trans hb (own_blk hown hk)) (fun k cur t' hk ht'=>?_)
     rw [h2.block k (lt_of hk) (fun he=>?_)]
     · exact hk
     · obtain ⟨cur',hc'⟩:=own_type hown he.symm
       rw [hk] at hc'
       injection hc' with hc'
       injection hc' with _ hc' _
       exact ht' hc'
end
theorem own_keepB {w w':World} {base n size:Nat} {e:TypeId} {v:Value} {xs:List Value} (h:w.ownsRow base e size v n xs) (hk:∀ k,v.ownBlock=some k→w'.heap[k]?=w.heap[k]?):w'.ownsRow base e size v n xs:=by
 refine ⟨h.1, ?_⟩
 rcases h.2 with h' | ⟨g,cap,cur,rfl,hb,hh,hr⟩
 · exact .inl h'
 · exact .inr ⟨g,cap,cur,rfl,hb,(hk g rfl).trans hh,hr⟩
theorem own_lt {w:World} {base n size:Nat} {e:TypeId} {v:Value} {xs:List Value} (h:w.ownsRow base e size v n xs) {k:Nat} (hk:v.ownBlock=some k):k < w.heap.size:=by
 obtain ⟨cur,hc⟩:=own_type h hk; exact lt_of hc
theorem own_notB {w:World} {base n size b:Nat} {e t:TypeId} {v:Value} {xs:List Value} {cur:Array Value} (h:w.ownsRow base e size v n xs) (hb:w.heap[b]?=some (.cells cur t (0,0))) (ht:t≠e):v.ownBlock≠some b:=by
 intro hk
 obtain ⟨cur',hc⟩:=own_type h hk
 rw [hb] at hc
 injection hc with hc
 injection hc with _ hc _
 exact ht hc
def Dja (v u:Value):Prop:=∀ i,v.ownBlock=some i→u.ownBlock≠some i
theorem Dja.symm {v u:Value} (h:Dja v u):Dja u v:=fun i h1 h2=>h i h2 h1
structure CovW (w W:World) (b6 b8:Nat) (v6 v8:Value) (pre suf:List (Nat × Int)):Prop where
 x6:W.heap[b6]?=some (.cells #[v6] 62 (0,0))
 x8:W.heap[b8]?=some (.cells #[v8] 62 (0,0))
 o6:W.ownsRow w.heap.size 52 2 v6 pre.length (pcV pre)
 o8:W.ownsRow w.heap.size 52 2 v8 suf.length (pcV suf)
 dj:Dja v6 v8
 g6:w.heap.size≤b6
 g8:w.heap.size≤b8
 ne:b6≠b8
 ext:Ext w W
theorem CovW.symm {w W:World} {b6 b8:Nat} {v6 v8:Value} {pre suf:List (Nat × Int)} (h:CovW w W b6 b8 v6 v8 pre suf):CovW w W b8 b6 v8 v6 suf pre:=⟨h.x8,h.x6,h.o8,h.o6,h.dj.symm,h.g8,h.g6,h.ne.symm,h.ext⟩
theorem CovW.set {w W:World} {b6 b8:Nat} {v6 v8:Value} {pre suf:List (Nat × Int)} (h:CovW w W b6 b8 v6 v8 pre suf):CovW w (W.setCell ⟨b6,0,none⟩ v6) b6 b8 v6 v8 pre suf :=
 ⟨by rw [setCell_same h.x6]; rfl,by rw [setCell_other _ _ h.ne.symm]; exact h.x8,own_keepB h.o6 (fun k hk=>setCell_other _ _ (fun e=>own_notB h.o6 h.x6 (by decide) (e ▸ hk))),own_keepB h.o8 (fun k hk=>setCell_other _ _ (fun e=>own_notB h.o8 h.x6 (by decide) (e ▸ hk))),h.dj,h.g6,h.g8,h.ne,h.ext.setR (p:=⟨b6,0,none⟩) h.g6 _⟩
theorem CovW.app0 {w W w1:World} {b6 b8:Nat} {v6 v8:Value} {pre suf:List (Nat × Int)} {o:Obj} (h:CovW w W b6 b8 v6 v8 pre suf) (h2:(W.alloc o).grownBy w1 v6.ownBlock):w1.heap[b6]?=some (.cells #[v6] 62 (0,0)) :=
 (grown_old h2 (lt_of h.x6) (fun e=>own_notB h.o6 h.x6 (by decide) e.symm)).trans h.x6
theorem CovW.app {w W w1:World} {b6 b8:Nat} {v6 v8 v':Value} {pre suf:List (Nat × Int)} {p:Nat × Int} {o:Obj} (h:CovW w W b6 b8 v6 v8 pre suf)
 (h1:w1.ownsRow w.heap.size 52 2 v' (pre.length+1) (pcV (pre++[p]))) (h2:(W.alloc o).grownBy w1 v6.ownBlock) (h3:v'.ownBlock=v6.ownBlock∨v'.ownBlock=some (W.heap.size+1)) :
 CovW w (w1.setCell ⟨b6,0,none⟩ v') b6 b8 v' v8 (pre++[p]) suf:=by
 replace h1:w1.ownsRow w.heap.size 52 2 v' (pre++[p]).length (pcV (pre++[p])):=by rw [List.length_append]; exact h1
 have old:∀ k,k < W.heap.size→v6.ownBlock≠some k→w1.heap[k]?=W.heap[k]?:=fun k hk hn=>grown_old h2 hk (fun e=>hn e.symm)
 have k6:=(old b6 (lt_of h.x6) (own_notB h.o6 h.x6 (by decide))).trans h.x6
 have k8:=(old b8 (lt_of h.x8) (own_notB h.o6 h.x8 (by decide))).trans h.x8
 have r8:w1.ownsRow w.heap.size 52 2 v8 suf.length (pcV suf):=own_keepB h.o8 (fun k hk=>old k (own_lt h.o8 hk) (fun e=>h.dj k e hk))
 refine ⟨by rw [setCell_same k6]; rfl,by rw [setCell_other _ _ h.ne.symm]; exact k8,own_keepB h1 (fun k hk=>setCell_other _ _ (fun e=>own_notB h1 k6 (by decide) (e ▸ hk))),own_keepB r8 (fun k hk=>setCell_other _ _ (fun e=>own_notB r8 k6 (by decide) (e ▸ hk))), ?_,h.g6,h.g8,h.ne, ?_⟩
 · intro i hi hu
   rcases h3 with h3 | h3
   · exact h.dj i (h3 ▸ hi) hu
   · have:=own_lt h.o8 hu
     rw [h3] at hi
     have:=Option.some.inj hi
     omega
 · have h2':Ext w w1:=by
    refine Below.grown (h.ext.allocR o) h2 (by rw [size_alloc]; have:=h.ext.size; omega) (fun k hk=>own_blk h.o6 hk)
   exact h2'.setR (p:=⟨b6,0,none⟩) h.g6 _
end Go.Proofs.YtmalncfcgcebhaaGreatDoor
namespace Go.Proofs.YtmalncfcgcebhaaGreatDoor
set_option linter.unusedVariables false
open Go.RowKit
section
variable {P:Program}
theorem wpList_appK (W:World) {ops:Array Oper} {rest:List Oper} {o:Oper} {a:Act} {Q:Exit→Act→World→Prop} (size by_ m:Nat) (hsz:0 < size) (hby:by_≤64) (news:List Value) (hnl:news.length=m*size) (h1:∀ u∈news,u.oneCell'=true)
 (xs:List Value) (n:Nat) (v:Value) (base:Nat) (e e':TypeId) (hown:W.ownsRow base e size v n xs) (t:TypeId)
 (hgd:o.guard=none) (s y:Operand) (ho:o.op=.call { callee:=.builtin .append,args:=#[s,y],argTypes:=#[t,t] })
 (hinfo:∃ i z,P.info? e=some i∧i.zero=some z∧i.size=size∧i.bytes=by_∧z.cells.size=size) (ht:P.underlying t=some (.slice e))
 (cells:Array Value) (hcl:cells.toList=news)
 (hs:a.eval s=v) (hx:a.eval y=.slice (some ⟨W.heap.size,0,none⟩) m m)
 (hl:n+m≤1000000000) (hbase:base≤W.heap.size)
 (h:∀ v' w',w'.ownsRow base e size v' (n+m) (xs++news)→(W.alloc (.cells cells e')).grownBy w' v.ownBlock→(v'.ownBlock=v.ownBlock∨v'.ownBlock=some (W.heap.size+1))→wpList P ops Q rest (a.put o.dst v') w') :
 wpList P ops Q (o :: rest) a (W.alloc (.cells cells e')):=by
 obtain ⟨i0,z,hi,hz0,hz1,hz2,hz3⟩:=hinfo
 refine wpList_append_sep _ hgd s y t ho base e i0 z size by_ ht hi hz0 hz1 hz2 hz3 hsz v n xs hs (hown.alloc _) ⟨W.heap.size,0,none⟩ m m news hx hnl ?_ h1 (by unfold maxLen; omega) ?_ (by rw [size_alloc]; omega) ?_
 · intro j u hu
   rw [show (⟨W.heap.size,0,none⟩:Addr).add j=⟨W.heap.size,j,none⟩ by (simp [Addr.add]; try omega),cell_of (heap_at W _ rfl) j,← Array.getElem?_toList,hcl]
   exact hu
 · have h2:(n+m)*by_≤1000000000*64:=Nat.mul_le_mul hl hby
   omega
 · intro v' w' h1 h2 h3
   rw [size_alloc] at h3
   exact h v' w' h1 h2 h3
end
theorem own_grownT {W W':World} {bA bB nA nB sA sB:Nat} {eA eB:TypeId} {vA vB:Value} {xA xB:List Value} (hA:W.ownsRow bA eA sA vA nA xA) (hB:W.ownsRow bB eB sB vB nB xB) (hne:eA≠eB) (hg:W.grownBy W' vB.ownBlock):W'.ownsRow bA eA sA vA nA xA :=
 own_keepB hA fun k hk=>hg.block k (own_lt hA hk) fun e=>by
  obtain ⟨c1,h1⟩:=own_type hA hk
  obtain ⟨c2,h2⟩:=own_type hB e.symm
  rw [h1] at h2
  cases h2
  exact hne rfl
theorem own_grownL {W W':World} {bA bB nA nB sA sB:Nat} {eA eB:TypeId} {vA vB:Value} {xA xB:List Value} (hA:W.ownsRow bA eA sA vA nA xA) (hB:W.ownsRow bB eB sB vB nB xB) (hlt:∀ k,vA.ownBlock=some k→k < bB) (hg:W.grownBy W' vB.ownBlock):W'.ownsRow bA eA sA vA nA xA :=
 own_keepB hA fun k hk=>hg.block k (own_lt hA hk) fun e=>by
  have h1:=hlt k hk
  rcases hB.2 with ⟨rfl,_⟩ | ⟨g,cap,cur,rfl,hb,_⟩
  · cases e
  · have:k=g:=Option.some.inj e
    omega
theorem own_bmono {w:World} {base base' n size:Nat} {e:TypeId} {v:Value} {xs:List Value} (h:w.ownsRow base e size v n xs) (hb:base'≤base):w.ownsRow base' e size v n xs:=by
 obtain ⟨h1,h2⟩:=h
 refine ⟨h1, ?_⟩
 rcases h2 with h2 | ⟨g,cap,cur,h3,h4,h5⟩
 · exact .inl h2
 · exact .inr ⟨g,cap,cur,h3,Nat.le_trans hb h4,h5⟩
theorem own_geB {w:World} {base n size:Nat} {e:TypeId} {v:Value} {xs:List Value} (h:w.ownsRow base e size v n xs) {k:Nat} (hk:v.ownBlock=some k):base≤k:=by
 rcases h.2 with ⟨rfl,_⟩ | ⟨g,cap,cur,rfl,hb,_⟩
 · cases hk
 · have:g=k:=Option.some.inj hk
   omega
theorem own_newK (w:World) (base:Nat) (hb:base≤w.heap.size) (e:TypeId) (size n:Nat) (cells:Array Value) (hn:n≤maxLen) (hc:cells.size=n*size):(w.alloc (.cells cells e)).ownsRow base e size (.slice (some ⟨w.heap.size,0,none⟩) n n) n cells.toList:=by
 refine ⟨by rw [Array.length_toList]; exact hc,.inr ⟨w.heap.size,n,cells,rfl,hb,heap_at w _ rfl,Nat.le_refl _,hn,hc, ?_⟩⟩
 rw [← hc,← Array.length_toList,List.take_length]
theorem own_row_cells {w:World} {base n size:Nat} {e:TypeId} {v:Value} {xs:List Value} (h:w.ownsRow base e size v n xs) (hn:0 < n):∃ g cap,v=.slice (some ⟨g,0,none⟩) n cap∧base≤g∧g < w.heap.size∧∀ j,j < n*size→w.cell? ⟨g,j,none⟩=xs[j]?:=by
 rcases h.2 with ⟨_,h0⟩ | ⟨g,cap,cur,rfl,hb,hh,hc,hm,hs,ht⟩
 · omega
 · refine ⟨g,cap,rfl,hb,lt_of hh,fun j hj=>?_⟩
   rw [cell_of hh,← ht,List.getElem?_take_of_lt hj,Array.getElem?_toList]
end Go.Proofs.YtmalncfcgcebhaaGreatDoor
namespace Go.Proofs.YtmalncfcgcebhaaGreatDoor
set_option linter.unusedVariables false
open Go.Proofs Go.Shelf Go.RowKit Go.Sort
def Tryz.bstL_ren:Go.Shelf.Ren:=⟨fun | 169=>94 | n=>n,fun | 70=>186 | 9=>9 | 0=>0 | 72=>188 | 37=>44 | 127=>260 | 3=>3 | 5=>5 | n=>n,fun | n=>n⟩
theorem Tryz.bstL:Go.Proofs.Lays.n169 Tryz.prog Tryz.bstL_ren:={
 mixed:=by kernel_rfl
 f169:=Tryz.func94.trans (congrArg some (by kernel_rfl))
 t0:=Tryz.underlying0
 a0:=Tryz.isAgg0
 z0:=Tryz.sizeOf0
 v0:=Tryz.zeroValue0
 t3:=Tryz.underlying3
 a3:=Tryz.isAgg3
 z3:=Tryz.sizeOf3
 v3:=Tryz.zeroValue3
 t9:=Tryz.underlying9
 a9:=Tryz.isAgg9
 z9:=Tryz.sizeOf9
 v9:=Tryz.zeroValue9
 t37:=Tryz.underlying44
 a37:=Tryz.isAgg44
 z37:=Tryz.sizeOf44
 v37:=Tryz.zeroValue44
 t70:=Tryz.underlying186
 a70:=Tryz.isAgg186
 z70:=Tryz.sizeOf186
 v70:=Tryz.zeroValue186
 t72:=Tryz.underlying188
 a72:=Tryz.isAgg188
 z72:=Tryz.sizeOf188
 v72:=Tryz.zeroValue188
 t127:=Tryz.underlying260
 a127:=Tryz.isAgg260
 z127:=Tryz.sizeOf260
 v127:=Tryz.zeroValue260 }
def Tryz.ixbL_ren:Go.Shelf.Ren:=⟨fun | 137=>117 | 217=>162 | 266=>204 | n=>n,fun | 9=>9 | 5=>5 | 3=>3 | n=>n,fun | n=>n⟩
theorem Tryz.ixbL:Go.Proofs.Lays.n137 Tryz.prog Tryz.ixbL_ren:={
 mixed:=by kernel_rfl
 f137:=Tryz.func117.trans (congrArg some (by kernel_rfl))
 f217:=Tryz.func162.trans (congrArg some (by kernel_rfl))
 f266:=Tryz.func204.trans (congrArg some (by kernel_rfl))
 t3:=Tryz.underlying3
 a3:=Tryz.isAgg3
 z3:=Tryz.sizeOf3
 v3:=Tryz.zeroValue3
 t5:=Tryz.underlying5
 a5:=Tryz.isAgg5
 z5:=Tryz.sizeOf5
 v5:=Tryz.zeroValue5
 t9:=Tryz.underlying9
 a9:=Tryz.isAgg9
 z9:=Tryz.sizeOf9
 v9:=Tryz.zeroValue9 }
def Tryz.itoaL_ren:Go.Shelf.Ren:=⟨fun | 171=>49 | 243=>97 | 246=>140 | 283=>182 | 284=>183 | 285=>184 | 286=>185 | 129=>151 | 317=>231 | 318=>232 | 319=>233 | 320=>234 | 337=>265 | 338=>266 | n=>n,fun | 3=>3 | 9=>9 | 2=>2 | 4=>4 | 171=>299 | 0=>0 | 53=>22 | 37=>44 | 5=>5 | 173=>301 | 212=>364 | 51=>105 | 20=>20 | 213=>365 | 46=>49 | 232=>403 | 233=>404 | n=>n,fun | 17=>4 | 18=>6 | 19=>7 | n=>n⟩
theorem Tryz.itoaL:Go.Proofs.LaysM.n171 Tryz.prog Tryz.itoaL_ren:={
 mixed:=by kernel_rfl
 f129:=Tryz.func151.trans (congrArg some (by kernel_rfl))
 f171:=Tryz.func49.trans (congrArg some (by kernel_rfl))
 f243:=Tryz.func97.trans (congrArg some (by kernel_rfl))
 f246:=Tryz.func140.trans (congrArg some (by kernel_rfl))
 f283:=Tryz.func182.trans (congrArg some (by kernel_rfl))
 f284:=Tryz.func183.trans (congrArg some (by kernel_rfl))
 f285:=Tryz.func184.trans (congrArg some (by kernel_rfl))
 f286:=Tryz.func185.trans (congrArg some (by kernel_rfl))
 f317:=Tryz.func231.trans (congrArg some (by kernel_rfl))
 f318:=Tryz.func232.trans (congrArg some (by kernel_rfl))
 f319:=Tryz.func233.trans (congrArg some (by kernel_rfl))
 f320:=Tryz.func234.trans (congrArg some (by kernel_rfl))
 f337:=Tryz.func265.trans (congrArg some (by kernel_rfl))
 f338:=Tryz.func266.trans (congrArg some (by kernel_rfl))
 t0:=Tryz.underlying0
 a0:=Tryz.isAgg0
 z0:=Tryz.sizeOf0
 v0:=Tryz.zeroValue0
 t2:=Tryz.underlying2
 a2:=Tryz.isAgg2
 z2:=Tryz.sizeOf2
 v2:=Tryz.zeroValue2
 t3:=Tryz.underlying3
 a3:=Tryz.isAgg3
 z3:=Tryz.sizeOf3
 v3:=Tryz.zeroValue3
 t4:=Tryz.underlying4
 a4:=Tryz.isAgg4
 z4:=Tryz.sizeOf4
 v4:=Tryz.zeroValue4
 t5:=Tryz.underlying5
 a5:=Tryz.isAgg5
 z5:=Tryz.sizeOf5
 v5:=Tryz.zeroValue5
 t9:=Tryz.underlying9
 a9:=Tryz.isAgg9
 z9:=Tryz.sizeOf9
 v9:=Tryz.zeroValue9
 t20:=Tryz.underlying20
 a20:=Tryz.isAgg20
 z20:=Tryz.sizeOf20
 v20:=Tryz.zeroValue20
 t37:=Tryz.underlying44
 a37:=Tryz.isAgg44
 z37:=Tryz.sizeOf44
 v37:=Tryz.zeroValue44
 t46:=Tryz.underlying49
 a46:=Tryz.isAgg49
 z46:=Tryz.sizeOf49
 v46:=Tryz.zeroValue49
 t51:=Tryz.underlying105
 a51:=Tryz.isAgg105
 z51:=Tryz.sizeOf105
 v51:=Tryz.zeroValue105
 t53:=Tryz.underlying22
 a53:=Tryz.isAgg22
 z53:=Tryz.sizeOf22
 v53:=Tryz.zeroValue22
 t171:=Tryz.underlying299
 a171:=Tryz.isAgg299
 z171:=Tryz.sizeOf299
 v171:=Tryz.zeroValue299
 t173:=Tryz.underlying301
 a173:=Tryz.isAgg301
 z173:=Tryz.sizeOf301
 v173:=Tryz.zeroValue301
 t212:=Tryz.underlying364
 a212:=Tryz.isAgg364
 z212:=Tryz.sizeOf364
 v212:=Tryz.zeroValue364
 t213:=Tryz.underlying365
 a213:=Tryz.isAgg365
 z213:=Tryz.sizeOf365
 t232:=Tryz.underlying403
 a232:=Tryz.isAgg403
 z232:=Tryz.sizeOf403
 v232:=Tryz.zeroValue403
 t233:=Tryz.underlying404
 a233:=Tryz.isAgg404
 z233:=Tryz.sizeOf404
 v233:=Tryz.zeroValue404
 g17:=by kernel_rfl
 g18:=by kernel_rfl
 g19:=by kernel_rfl
 i0:=by kernel_rfl
 i2:=by kernel_rfl
 i3:=by kernel_rfl
 i4:=by kernel_rfl
 i5:=by kernel_rfl
 i9:=by kernel_rfl
 i20:=by kernel_rfl
 i37:=by kernel_rfl
 i46:=by kernel_rfl
 i51:=by kernel_rfl
 i53:=by kernel_rfl
 i171:=by kernel_rfl
 i173:=by kernel_rfl
 i212:=by kernel_rfl
 i232:=by kernel_rfl
 i233:=by kernel_rfl
 m17:=by kernel_rfl
 m18:=by kernel_rfl
 m19:=by kernel_rfl }
def Tryz.fmtL_ren:Go.Shelf.Ren:=⟨fun | 173=>89 | 246=>140 | 283=>182 | 284=>183 | 285=>184 | 286=>185 | 129=>151 | 317=>231 | 318=>232 | 319=>233 | 320=>234 | 337=>265 | 338=>266 | n=>n,fun | 2=>2 | 3=>3 | 9=>9 | 4=>4 | 171=>299 | 0=>0 | 53=>22 | 37=>44 | 5=>5 | 173=>301 | 212=>364 | 51=>105 | 20=>20 | 213=>365 | 46=>49 | 232=>403 | 233=>404 | n=>n,fun | 17=>4 | 18=>6 | 19=>7 | n=>n⟩
theorem Tryz.fmtL:Go.Proofs.LaysM.n173 Tryz.prog Tryz.fmtL_ren:={
 mixed:=by kernel_rfl
 f129:=Tryz.func151.trans (congrArg some (by kernel_rfl))
 f173:=Tryz.func89.trans (congrArg some (by kernel_rfl))
 f246:=Tryz.func140.trans (congrArg some (by kernel_rfl))
 f283:=Tryz.func182.trans (congrArg some (by kernel_rfl))
 f284:=Tryz.func183.trans (congrArg some (by kernel_rfl))
 f285:=Tryz.func184.trans (congrArg some (by kernel_rfl))
 f286:=Tryz.func185.trans (congrArg some (by kernel_rfl))
 f317:=Tryz.func231.trans (congrArg some (by kernel_rfl))
 f318:=Tryz.func232.trans (congrArg some (by kernel_rfl))
 f319:=Tryz.func233.trans (congrArg some (by kernel_rfl))
 f320:=Tryz.func234.trans (congrArg some (by kernel_rfl))
 f337:=Tryz.func265.trans (congrArg some (by kernel_rfl))
 f338:=Tryz.func266.trans (congrArg some (by kernel_rfl))
 t0:=Tryz.underlying0
 a0:=Tryz.isAgg0
 z0:=Tryz.sizeOf0
 v0:=Tryz.zeroValue0
 t2:=Tryz.underlying2
 a2:=Tryz.isAgg2
 z2:=Tryz.sizeOf2
 v2:=Tryz.zeroValue2
 t3:=Tryz.underlying3
 a3:=Tryz.isAgg3
 z3:=Tryz.sizeOf3
 v3:=Tryz.zeroValue3
 t4:=Tryz.underlying4
 a4:=Tryz.isAgg4
 z4:=Tryz.sizeOf4
 v4:=Tryz.zeroValue4
 t5:=Tryz.underlying5
 a5:=Tryz.isAgg5
 z5:=Tryz.sizeOf5
 v5:=Tryz.zeroValue5
 t9:=Tryz.underlying9
 a9:=Tryz.isAgg9
 z9:=Tryz.sizeOf9
 v9:=Tryz.zeroValue9
 t20:=Tryz.underlying20
 a20:=Tryz.isAgg20
 z20:=Tryz.sizeOf20
 v20:=Tryz.zeroValue20
 t37:=Tryz.underlying44
 a37:=Tryz.isAgg44
 z37:=Tryz.sizeOf44
 v37:=Tryz.zeroValue44
 t46:=Tryz.underlying49
 a46:=Tryz.isAgg49
 z46:=Tryz.sizeOf49
 v46:=Tryz.zeroValue49
 t51:=Tryz.underlying105
 a51:=Tryz.isAgg105
 z51:=Tryz.sizeOf105
 v51:=Tryz.zeroValue105
 t53:=Tryz.underlying22
 a53:=Tryz.isAgg22
 z53:=Tryz.sizeOf22
 v53:=Tryz.zeroValue22
 t171:=Tryz.underlying299
 a171:=Tryz.isAgg299
 z171:=Tryz.sizeOf299
 v171:=Tryz.zeroValue299
 t173:=Tryz.underlying301
 a173:=Tryz.isAgg301
 z173:=Tryz.sizeOf301
 v173:=Tryz.zeroValue301
 t212:=Tryz.underlying364
 a212:=Tryz.isAgg364
 z212:=Tryz.sizeOf364
 v212:=Tryz.zeroValue364
 t213:=Tryz.underlying365
 a213:=Tryz.isAgg365
 z213:=Tryz.sizeOf365
 t232:=Tryz.underlying403
 a232:=Tryz.isAgg403
 z232:=Tryz.sizeOf403
 v232:=Tryz.zeroValue403
 t233:=Tryz.underlying404
 a233:=Tryz.isAgg404
 z233:=Tryz.sizeOf404
 v233:=Tryz.zeroValue404
 g17:=by kernel_rfl
 g18:=by kernel_rfl
 g19:=by kernel_rfl
 i0:=by kernel_rfl
 i2:=by kernel_rfl
 i3:=by kernel_rfl
 i4:=by kernel_rfl
 i5:=by kernel_rfl
 i9:=by kernel_rfl
 i20:=by kernel_rfl
 i37:=by kernel_rfl
 i46:=by kernel_rfl
 i51:=by kernel_rfl
 i53:=by kernel_rfl
 i171:=by kernel_rfl
 i173:=by kernel_rfl
 i212:=by kernel_rfl
 i232:=by kernel_rfl
 i233:=by kernel_rfl
 m17:=by kernel_rfl
 m18:=by kernel_rfl
 m19:=by kernel_rfl }
def Tryz.pintL_ren:Go.Shelf.Ren:=⟨fun | 174=>205 | 247=>244 | 245=>245 | 287=>269 | 279=>270 | 280=>271 | 281=>272 | 282=>273 | 321=>279 | 322=>280 | 316=>281 | 171=>49 | 205=>282 | 243=>97 | 246=>140 | 283=>182 | 284=>183 | 285=>184 | 286=>185 | 129=>151 | 317=>231 | 318=>232 | 319=>233 | 320=>234 | 337=>265 | 338=>266 | n=>n,fun | 9=>9 | 3=>3 | 2=>2 | 75=>199 | 85=>333 | 4=>4 | 167=>393 | 5=>5 | 53=>22 | 175=>394 | 46=>49 | 168=>396 | 37=>44 | 0=>0 | 210=>408 | 21=>21 | 127=>260 | 145=>412 | 143=>410 | 171=>299 | 173=>301 | 212=>364 | 51=>105 | 20=>20 | 213=>365 | 232=>403 | 233=>404 | 80=>92 | n=>n,fun | 15=>8 | 16=>9 | 17=>4 | 18=>6 | 19=>7 | n=>n⟩
theorem Tryz.pintL:Go.Proofs.LaysC.n174 Tryz.prog Tryz.pintL_ren:={
 mixed:=by kernel_rfl
 f129:=Tryz.func151.trans (congrArg some (by kernel_rfl))
 f171:=Tryz.func49.trans (congrArg some (by kernel_rfl))
 f174:=Tryz.func205.trans (congrArg some (by kernel_rfl))
 f205:=Tryz.func282.trans (congrArg some (by kernel_rfl))
 f243:=Tryz.func97.trans (congrArg some (by kernel_rfl))
 f245:=Tryz.func245.trans (congrArg some (by kernel_rfl))
 f246:=Tryz.func140.trans (congrArg some (by kernel_rfl))
 f247:=Tryz.func244.trans (congrArg some (by kernel_rfl))
 f279:=Tryz.func270.trans (congrArg some (by kernel_rfl))
 f280:=Tryz.func271.trans (congrArg some (by kernel_rfl))
 f281:=Tryz.func272.trans (congrArg some (by kernel_rfl))
 f282:=Tryz.func273.trans (congrArg some (by kernel_rfl))
 f283:=Tryz.func182.trans (congrArg some (by kernel_rfl))
 f284:=Tryz.func183.trans (congrArg some (by kernel_rfl))
 f285:=Tryz.func184.trans (congrArg some (by kernel_rfl))
 f286:=Tryz.func185.trans (congrArg some (by kernel_rfl))
 f287:=Tryz.func269.trans (congrArg some (by kernel_rfl))
 f316:=Tryz.func281.trans (congrArg some (by kernel_rfl))
 f317:=Tryz.func231.trans (congrArg some (by kernel_rfl))
 f318:=Tryz.func232.trans (congrArg some (by kernel_rfl))
 f319:=Tryz.func233.trans (congrArg some (by kernel_rfl))
 f320:=Tryz.func234.trans (congrArg some (by kernel_rfl))
 f321:=Tryz.func279.trans (congrArg some (by kernel_rfl))
 f322:=Tryz.func280.trans (congrArg some (by kernel_rfl))
 f337:=Tryz.func265.trans (congrArg some (by kernel_rfl))
 f338:=Tryz.func266.trans (congrArg some (by kernel_rfl))
 t0:=Tryz.underlying0
 a0:=Tryz.isAgg0
 z0:=Tryz.sizeOf0
 v0:=Tryz.zeroValue0
 t2:=Tryz.underlying2
 a2:=Tryz.isAgg2
 z2:=Tryz.sizeOf2
 v2:=Tryz.zeroValue2
 t3:=Tryz.underlying3
 a3:=Tryz.isAgg3
 z3:=Tryz.sizeOf3
 v3:=Tryz.zeroValue3
 t4:=Tryz.underlying4
 a4:=Tryz.isAgg4
 z4:=Tryz.sizeOf4
 v4:=Tryz.zeroValue4
 t5:=Tryz.underlying5
 a5:=Tryz.isAgg5
 z5:=Tryz.sizeOf5
 v5:=Tryz.zeroValue5
 t9:=Tryz.underlying9
 a9:=Tryz.isAgg9
 z9:=Tryz.sizeOf9
 v9:=Tryz.zeroValue9
 t20:=Tryz.underlying20
 a20:=Tryz.isAgg20
 z20:=Tryz.sizeOf20
 v20:=Tryz.zeroValue20
 t21:=Tryz.underlying21
 a21:=Tryz.isAgg21
 z21:=Tryz.sizeOf21
 v21:=Tryz.zeroValue21
 t37:=Tryz.underlying44
 a37:=Tryz.isAgg44
 z37:=Tryz.sizeOf44
 v37:=Tryz.zeroValue44
 t46:=Tryz.underlying49
 a46:=Tryz.isAgg49
 z46:=Tryz.sizeOf49
 v46:=Tryz.zeroValue49
 t51:=Tryz.underlying105
 a51:=Tryz.isAgg105
 z51:=Tryz.sizeOf105
 v51:=Tryz.zeroValue105
 t53:=Tryz.underlying22
 a53:=Tryz.isAgg22
 z53:=Tryz.sizeOf22
 v53:=Tryz.zeroValue22
 t75:=Tryz.underlying199
 a75:=Tryz.isAgg199
 z75:=Tryz.sizeOf199
 v75:=Tryz.zeroValue199
 t85:=Tryz.underlying333
 a85:=Tryz.isAgg333
 z85:=Tryz.sizeOf333
 v85:=Tryz.zeroValue333
 t127:=Tryz.underlying260
 a127:=Tryz.isAgg260
 z127:=Tryz.sizeOf260
 v127:=Tryz.zeroValue260
 t143:=Tryz.underlying410
 a143:=Tryz.isAgg410
 z143:=Tryz.sizeOf410
 v143:=Tryz.zeroValue410
 t145:=Tryz.underlying412
 a145:=Tryz.isAgg412
 z145:=Tryz.sizeOf412
 v145:=Tryz.zeroValue412
 t167:=Tryz.underlying393
 a167:=Tryz.isAgg393
 z167:=Tryz.sizeOf393
 v167:=Tryz.zeroValue393
 t168:=Tryz.underlying396
 a168:=Tryz.isAgg396
 z168:=Tryz.sizeOf396
 v168:=Tryz.zeroValue396
 t171:=Tryz.underlying299
 a171:=Tryz.isAgg299
 z171:=Tryz.sizeOf299
 v171:=Tryz.zeroValue299
 t173:=Tryz.underlying301
 a173:=Tryz.isAgg301
 z173:=Tryz.sizeOf301
 v173:=Tryz.zeroValue301
 t175:=Tryz.underlying394
 a175:=Tryz.isAgg394
 z175:=Tryz.sizeOf394
 v175:=Tryz.zeroValue394
 t210:=Tryz.underlying408
 a210:=Tryz.isAgg408
 z210:=Tryz.sizeOf408
 v210:=Tryz.zeroValue408
 t212:=Tryz.underlying364
 a212:=Tryz.isAgg364
 z212:=Tryz.sizeOf364
 v212:=Tryz.zeroValue364
 t213:=Tryz.underlying365
 a213:=Tryz.isAgg365
 z213:=Tryz.sizeOf365
 t232:=Tryz.underlying403
 a232:=Tryz.isAgg403
 z232:=Tryz.sizeOf403
 v232:=Tryz.zeroValue403
 t233:=Tryz.underlying404
 a233:=Tryz.isAgg404
 z233:=Tryz.sizeOf404
 v233:=Tryz.zeroValue404
 g15:=by kernel_rfl
 g16:=by kernel_rfl
 g17:=by kernel_rfl
 g18:=by kernel_rfl
 g19:=by kernel_rfl
 t80:=Tryz.underlying92
 a80:=Tryz.isAgg92
 z80:=Tryz.sizeOf92
 v80:=Tryz.zeroValue92
 i0:=by kernel_rfl
 i2:=by kernel_rfl
 i3:=by kernel_rfl
 i4:=by kernel_rfl
 i5:=by kernel_rfl
 i9:=by kernel_rfl
 i20:=by kernel_rfl
 i21:=by kernel_rfl
 i37:=by kernel_rfl
 i46:=by kernel_rfl
 i51:=by kernel_rfl
 i53:=by kernel_rfl
 i75:=by kernel_rfl
 i80:=by kernel_rfl
 i85:=by kernel_rfl
 i127:=by kernel_rfl
 i143:=by kernel_rfl
 i145:=by kernel_rfl
 i167:=by kernel_rfl
 i168:=by kernel_rfl
 i171:=by kernel_rfl
 i173:=by kernel_rfl
 i175:=by kernel_rfl
 i210:=by kernel_rfl
 i212:=by kernel_rfl
 i232:=by kernel_rfl
 i233:=by kernel_rfl
 m15:=by kernel_rfl
 m16:=by kernel_rfl
 m17:=by kernel_rfl
 m18:=by kernel_rfl
 m19:=by kernel_rfl
 c0:=by kernel_rfl
 c2:=by kernel_rfl
 c3:=by kernel_rfl
 c4:=by kernel_rfl
 c5:=by kernel_rfl
 c9:=by kernel_rfl
 c20:=by kernel_rfl
 c21:=by kernel_rfl
 c37:=by kernel_rfl
 c46:=by kernel_rfl
 c51:=by kernel_rfl
 c53:=by kernel_rfl
 c75:=by kernel_rfl
 c80:=by kernel_rfl
 c85:=by kernel_rfl
 c127:=by kernel_rfl
 c143:=by kernel_rfl
 c145:=by kernel_rfl
 c167:=by kernel_rfl
 c168:=by kernel_rfl
 c171:=by kernel_rfl
 c173:=by kernel_rfl
 c175:=by kernel_rfl
 c210:=by kernel_rfl
 c212:=by kernel_rfl
 c213:=by kernel_rfl
 c232:=by kernel_rfl
 c233:=by kernel_rfl }
def Tryz.decL_ren:Go.Shelf.Ren:=⟨fun | 197=>116 | 260=>161 | n=>n,fun | 9=>9 | 21=>21 | 3=>3 | 4=>4 | 5=>5 | 105=>229 | 119=>329 | 0=>0 | 46=>49 | 139=>332 | 138=>331 | n=>n,fun | 3=>2 | 4=>3 | n=>n⟩
theorem Tryz.decL:Go.Proofs.Lays.n197 Tryz.prog Tryz.decL_ren:={
 mixed:=by kernel_rfl
 f197:=Tryz.func116.trans (congrArg some (by kernel_rfl))
 f260:=Tryz.func161.trans (congrArg some (by kernel_rfl))
 t0:=Tryz.underlying0
 a0:=Tryz.isAgg0
 z0:=Tryz.sizeOf0
 v0:=Tryz.zeroValue0
 t3:=Tryz.underlying3
 a3:=Tryz.isAgg3
 z3:=Tryz.sizeOf3
 v3:=Tryz.zeroValue3
 t4:=Tryz.underlying4
 a4:=Tryz.isAgg4
 z4:=Tryz.sizeOf4
 v4:=Tryz.zeroValue4
 t5:=Tryz.underlying5
 a5:=Tryz.isAgg5
 z5:=Tryz.sizeOf5
 v5:=Tryz.zeroValue5
 t9:=Tryz.underlying9
 a9:=Tryz.isAgg9
 z9:=Tryz.sizeOf9
 v9:=Tryz.zeroValue9
 t21:=Tryz.underlying21
 a21:=Tryz.isAgg21
 z21:=Tryz.sizeOf21
 v21:=Tryz.zeroValue21
 t46:=Tryz.underlying49
 a46:=Tryz.isAgg49
 z46:=Tryz.sizeOf49
 v46:=Tryz.zeroValue49
 t105:=Tryz.underlying229
 a105:=Tryz.isAgg229
 z105:=Tryz.sizeOf229
 v105:=Tryz.zeroValue229
 t119:=Tryz.underlying329
 a119:=Tryz.isAgg329
 z119:=Tryz.sizeOf329
 t138:=Tryz.underlying331
 a138:=Tryz.isAgg331
 z138:=Tryz.sizeOf331
 v138:=Tryz.zeroValue331
 t139:=Tryz.underlying332
 a139:=Tryz.isAgg332
 z139:=Tryz.sizeOf332
 v139:=Tryz.zeroValue332
 g3:=by kernel_rfl
 g4:=by kernel_rfl }
theorem Tryz.bstX:Builder.Extra Tryz.prog Tryz.bstL_ren:={
 sizeBuilder:=by kernel_rfl
 liesBuilder:=by kernel_rfl
 t5:=Tryz.underlying5
 a5:=Tryz.isAgg5
 z5:=Tryz.sizeOf5
 v5:=Tryz.zeroValue5
 infoByte:=by kernel_rfl
 cellsByte:=by kernel_rfl
 sizeByte:=by kernel_rfl
 neB5:=by decide }
def strV (l:List UInt8):Value:=.string ⟨l.toArray⟩
structure Tabs (w:World):Prop where
 pow : Lib.TabIs Tryz.prog w "internal/strconv.uint64pow10" .u64 Lib.pow10Tab
 utf:Lib.Utf8Tabs 2 3 w
 syn:∃ te pe,w.cell? ⟨8,0,none⟩=some (.iface te pe)
 rng:∃ te pe,w.cell? ⟨9,0,none⟩=some (.iface te pe)
theorem lt_of_cell {w:World} {a:Addr} {v:Value} (hc:w.cell? a=some v):a.block < w.heap.size:=by
 rcases Nat.lt_or_ge a.block w.heap.size with h' | h'
 · exact h'
 · simp [World.cell?,Array.getElem?_eq_none h'] at hc
theorem tabIs_ext {n:String} {g:Nat} {k:IntKind} {zs:List Int} {w w':World} (hg:Tryz.prog.globalNamed n=some g) (h:Lib.TabIs Tryz.prog w n k zs) (hb:Ext w w'):Lib.TabIs Tryz.prog w' n k zs:=by
 unfold Lib.TabIs World.var? at h ⊢
 rw [hg] at h ⊢
 simp only [Option.bind_some] at h ⊢
 have hlt:g < w.heap.size:=by
  rcases Nat.lt_or_ge g w.heap.size with h' | h'
  · exact h'
  · rw [Array.getElem?_eq_none h'] at h; cases h
 rw [hb.block g hlt]
 exact h
theorem powNamed : Tryz.prog.globalNamed "internal/strconv.uint64pow10" = some 4 := by kernel_rfl
theorem Tabs.ext {w w':World} (h:Tabs w) (hb:Ext w w'):Tabs w':=by
 obtain ⟨te,pe,h1⟩:=h.syn
 obtain ⟨te',pe',h2⟩:=h.rng
 exact ⟨tabIs_ext powNamed h.pow hb,Utf8Tabs_below h.utf hb,⟨te,pe,(hb.cell (lt_of_cell h1)).trans h1⟩,⟨te',pe',(hb.cell (lt_of_cell h2)).trans h2⟩⟩
theorem IndexByte_c (s:ByteArray) (c:Int) (w:World) :
 Calls Tryz.prog 117 #[.string s,.int .u8 c] w fun e w'=>e=.returned (.int .i64 (Lib.indexByte s.data.toList c.toNat.toUInt8))∧w'=w:=Any.strings_IndexByte Tryz.ixbL s c w
theorem ext_grow' {w:World} {k:Nat} {os:Array Obj}:Ext w (grow (w.drewN k) os):=by
 refine ⟨rfl,rfl,rfl, ?_,fun i hi=>?_⟩
 · show _≤((w.drewN k).heap++os).size
   rw [Array.size_append]
   exact Nat.le_add_right _ _
 · show ((w.drewN k).heap++os)[i]?=_
   rw [Array.getElem?_append_left (by exact hi)]
   rfl
theorem Itoa_c (n:Int) (hn:I64 n) (w:World) (hT:Tabs w) :
 Calls Tryz.prog 49 #[.int .i64 n] w fun e w'=>e=.returned (strV (Lib.itoa n))∧Ext w w' :=
 (Any.strconv_Itoa Tryz.itoaL n hn.1 hn.2 w hT.pow).mono fun e w' h=>by
  obtain ⟨h1,k,os,rfl⟩:=h
  exact ⟨h1,ext_grow'⟩
theorem FormatInt_c (n:Int) (hn:I64 n) (w:World) (hT:Tabs w) :
 Calls Tryz.prog 89 #[.int .i64 n,.int .i64 10] w fun e w'=>e=.returned (strV (Lib.itoa n))∧Ext w w' :=
 (Any.strconv_FormatInt_10 Tryz.fmtL n hn.1 hn.2 w hT.pow).mono fun e w' h=>by
  obtain ⟨h1,k,os,rfl⟩:=h
  exact ⟨h1,ext_grow'⟩
theorem ext_bytesWorld {w:World} {t:TypeId} {s:ByteArray}:Ext w (Lib.bytesWorld w t s):=by
 unfold Lib.bytesWorld
 exact Lib.below_freeze ((Ext.refl w).drewR.allocR _) (p:=⟨w.heap.size,_,none⟩) (Nat.le_refl _) 1
theorem parseB_range {l:List UInt8} {n:Int} (h:Lib.parseIntB 64 l=.ok n):I64 n:=by
 unfold Lib.parseIntB at h
 cases l with
 | nil=>cases h
 | cons c r =>
   dsimp only at h
   generalize Lib.parseUintB 64 _=q at h
   rcases q with u | _ | _
   rotate_left
   · cases h
   · cases h
   · dsimp only at h
     by_cases h1:¬ c.toNat=45∧2 ^ (64 - 1)≤u
     · rw [if_pos h1] at h; cases h
     · rw [if_neg h1] at h
       by_cases h2:c.toNat=45∧2 ^ (64 - 1) < u
       · rw [if_pos h2] at h; cases h
       · rw [if_neg h2] at h
         injection h with h
         subst h
         unfold I64
         by_cases h3:c.toNat=45
         · rw [if_pos h3]; omega
         · rw [if_neg h3]; omega
theorem intSat_range (l:List UInt8):I64 (Lib.intSat 64 l):=by
 unfold Lib.intSat I64
 split <;> omega
theorem ParseInt_c (s:ByteArray) (hs:s.size≤100000000) (w:World) (hT:Tabs w) :
 Calls Tryz.prog 205 #[.string s,.int .i64 10,.int .i64 64] w fun e w'=>(∃ n er,e=.returned (.tuple #[.int .i64 n,er])∧I64 n∧((er=.nilIface∧Lib.parseIntB 64 s.data.toList=.ok n)∨((∃ N,er=.iface 396 (.pointer (some ⟨N,0,none⟩)))∧∀ m,Lib.parseIntB 64 s.data.toList≠.ok m)))∧Ext w w':=by
 obtain ⟨te,pe,h1⟩:=hT.syn
 obtain ⟨te',pe',h2⟩:=hT.rng
 rcases hp:Lib.parseIntB 64 s.data.toList with v | _ | _
 · refine (Any.strconv_ParseInt_10_at64_ok Tryz.pintL s (by omega) v hp w).mono fun e w' h=>?_
   obtain ⟨h3,h4⟩:=h
   refine ⟨⟨v,_,h3,parseB_range hp,.inl ⟨rfl,rfl⟩⟩, ?_⟩
   rcases h4 with rfl | ⟨t,rfl⟩
   · exact Ext.refl _
   · exact ext_bytesWorld
 · refine (Any.strconv_ParseInt_10_at64_syntax Tryz.pintL s (by omega) hp _ w h1 (.inr ⟨_,_,rfl⟩)).mono fun e w' h=>?_
   obtain ⟨N,h3,_,_,h4⟩:=h
   exact ⟨⟨0,_,h3,by unfold I64; omega,.inr ⟨⟨N,rfl⟩,fun m hm=>by cases hm⟩⟩,h4⟩
 · refine (Any.strconv_ParseInt_10_at64_range Tryz.pintL s (by omega) hp _ w h2 (.inr ⟨_,_,rfl⟩)).mono fun e w' h=>?_
   obtain ⟨N,h3,_,_,h4⟩:=h
   exact ⟨⟨_,_,h3,intSat_range _,.inr ⟨⟨N,rfl⟩,fun m hm=>by cases hm⟩⟩,h4⟩
theorem DecodeRune_c (s:ByteArray) (pos:Nat) (h:pos < s.size) (w:World) (hT:Tabs w) :
 Calls Tryz.prog 116 #[.string (s.extract pos s.size)] w fun e w'=>e=.returned (.tuple #[.int .i32 (Utf8.decode s pos).1,.int .i64 (Utf8.decode s pos).2])∧Ext w w':=by
 have h1:Lib.decodeGo (s.extract pos s.size)=Utf8.decode s pos:=by
  unfold Lib.decodeGo
  rw [if_neg (by rw [Lib.tail_size]; omega),Lib.tail_decode,Nat.add_zero]
 rw [← h1]
 exact Any.utf8_DecodeRuneInString Tryz.decL _ w hT.utf
end Go.Proofs.YtmalncfcgcebhaaGreatDoor
namespace Go.Proofs.YtmalncfcgcebhaaGreatDoor
set_option linter.unusedVariables false
open Go.Proofs Go.RowKit
def tornFrom (s:ByteArray):Nat→Nat→Int
 | 0,_=>-1
 | f+1,pos=>if pos < s.size then (if Utf8.decode s pos=(65533,1) then (pos:Int) else tornFrom s f (pos+(Utf8.decode s pos).2)) else -1
def tornS (s:ByteArray):Int:=tornFrom s s.size 0
theorem tornFrom_end (s:ByteArray) (f pos:Nat) (h:¬ pos < s.size):tornFrom s f pos=-1:=by
 cases f with
 | zero=>rfl
 | succ f=>simp [tornFrom,h]
theorem width_pos (s:ByteArray) (pos:Nat) (h:pos < s.size):1≤(Utf8.decode s pos).2:=by
 by_cases ha:(s[pos]'h).toNat < 128
 · rw [decode_ascii s pos h ha]
   exact Nat.le_refl _
 · exact (decode_high s pos h (by omega)).2
theorem Ext.iterAt {a w:World} (h:Ext a w) {k:Nat} (hk:a.heap.size≤k) (s:ByteArray) (pos:Nat):Ext a (w.iterAt k s pos):=Lib.below_iterAt h hk s pos
set_option maxRecDepth 20000 in
set_option maxHeartbeats 4000000 in
theorem Torn_c (s:ByteArray) (hs:s.size≤1000000000) (w:World) (hT:Tabs w) :
 Calls Tryz.prog 78 #[.string s] w fun e w'=>e=.returned (.int .i64 (tornS s))∧Ext w w':=by
 go_enter Tryz.func78,Tryz.ntmps78
 go_wp2
 go_loopw [3,4,5,6] (fun _ _ _ _ wr=>∃ pos fuel,wr.heap[w.heap.size]?=some (.stringIter s pos)∧Ext w wr∧tornFrom s fuel pos=tornS s∧s.size≤pos+fuel) (fun _ _ _ _ wr=>s.size - wr.iterPos w.heap.size)
 case atStart =>
  refine ⟨0,s.size, ?_,(Ext.refl w).allocR _,rfl,by omega⟩
  exact World.iter_heap w s 0
 case round =>
  obtain ⟨pos,fuel,hit,hE,htf,hfu⟩:=hrel
  have hmu:wr.iterPos w.heap.size=pos:=by simp [World.iterPos,hit]
  by_cases hp:pos < s.size
  · have hnx:∀ ty,(Instr.next (.pointer (some ⟨w.heap.size,0,none⟩)) true ty).run Tryz.prog wr=_:=fun ty=>Lib.run_next_any_at wr w.heap.size s pos ty hit hp
    have hwd:=width_pos s pos hp
    have hd1:=decode_le s pos
    have hit2:=Lib.iterAt_heap wr w.heap.size s pos (pos+(Utf8.decode s pos).2) hit
    have hE2:=hE.iterAt (Nat.le_refl _) s (pos+(Utf8.decode s pos).2)
    have hT2:=hT.ext hE2
    obtain ⟨f,rfl⟩:∃ f,fuel=f+1:=⟨fuel - 1,by omega⟩
    rw [tornFrom,if_pos hp] at htf
    have HTF:=Lib.hid htf
    clear htf
    generalize hW:wr.iterAt w.heap.size s (pos+(Utf8.decode s pos).2)=W1 at hnx hit2 hE2 hT2
    have hdc:=DecodeRune_c s pos hp
    generalize hdd:Utf8.decode s pos=D at *
    obtain ⟨r,k⟩:=D
    dsimp only at *
    by_cases hr:r=65533
    · subst hr
      go_wp2_with fail
      refine Calls.mono (hdc _ hT2) ?_
      rintro e w2 ⟨rfl,hx2⟩
      by_cases hk:k=1
      · subst hk
        go_wp2
        go_ret
        exact ⟨by rw [← HTF.out]; rfl,hE2.trans' hx2⟩
      · have hk1:((k:Int) == 1)=false:=beq_eq_false_iff_ne.2 (by omega)
        have hit3:=hx2.keep hit2
        have hE3:=hE2.trans' hx2
        clear hx2
        go_wp2
        go_roundw
        case rel=>exact ⟨pos+k,f,hit3,hE3,by rw [← HTF.out,if_neg (by intro h; cases h; exact hk rfl)],by omega⟩
        case measure=>simp only [World.iterPos,hit3,hit]; omega
    · go_wp2
      go_roundw
      case rel=>exact ⟨pos+k,f,hit2,hE2,by rw [← HTF.out,if_neg (by intro h; cases h; exact hr rfl)],by omega⟩
      case measure=>simp only [World.iterPos,hit2,hit]; omega
  · have hnx:∀ ty,(Instr.next (.pointer (some ⟨w.heap.size,0,none⟩)) true ty).run Tryz.prog wr=_:=fun ty=>Lib.run_next_end_at wr w.heap.size s pos ty hit hp
    rw [tornFrom_end s fuel pos hp] at htf
    have HTF:=Lib.hid htf
    clear htf
    go_wp2
    go_ret
    exact ⟨by rw [← HTF.out]; rfl,hE⟩
end Go.Proofs.YtmalncfcgcebhaaGreatDoor
namespace Go.Proofs.YtmalncfcgcebhaaGreatDoor
set_option linter.unusedVariables false
open Go.Proofs Go.RowKit
def wordEnd (s:ByteArray):Nat→Nat→Nat
 | 0,e=>e
 | f+1,e=>if e < s.size∧s.data.toList.getD e 0≠32 then wordEnd s f (e+1) else e
def wordSkip (s:ByteArray) (at_:Nat):Nat :=
 if s.data.toList.getD at_ 0=34 then (if Lib.indexByte (s.data.toList.drop (at_+1)) 34 < 0 then s.size else at_+1+(Lib.indexByte (s.data.toList.drop (at_+1)) 34).toNat) else at_
def wordsFrom (s:ByteArray):Nat→Nat→List (Nat × Nat)
 | 0,_=>[]
 | f+1,at_=>if at_ < s.size then (if s.data.toList.getD at_ 0=32 then wordsFrom s f (at_+1) else (at_,wordEnd s s.size (wordSkip s at_)) :: wordsFrom s f (wordEnd s s.size (wordSkip s at_))) else []
def wordsS (s:ByteArray):List (Nat × Nat):=wordsFrom s (s.size+1) 0
def wordV (s:ByteArray) (l:List (Nat × Nat)):List Value:=l.flatMap fun p=>[.string (s.extract p.1 p.2),.int .i64 p.1]
theorem wordEnd_le (s:ByteArray):∀ (f e:Nat),e≤s.size→e≤wordEnd s f e∧wordEnd s f e≤s.size
 | 0,e,h=>⟨Nat.le_refl _,h⟩
 | f+1,e,h=>by
   unfold wordEnd
   split
   · rename_i h1
     have:=wordEnd_le s f (e+1) h1.1
     omega
   · exact ⟨Nat.le_refl _,h⟩
theorem ixb_le (c:UInt8):∀ l:List UInt8,Lib.indexByte l c≤l.length
 | []=>by simp [Lib.indexByte]
 | b :: l=>by
   have:=ixb_le c l
   unfold Lib.indexByte
   rw [List.length_cons]
   split
   · omega
   · split <;> omega
theorem wordSkip_le (s:ByteArray) (a:Nat) (h:a < s.size):a≤wordSkip s a∧wordSkip s a≤s.size∧(s.data.toList.getD a 0=34→a < wordSkip s a):=by
 unfold wordSkip
 have h1:=ixb_le 34 (s.data.toList.drop (a+1))
 rw [List.length_drop,← Lib.size_eq] at h1
 split
 · rename_i h34
   split
   · exact ⟨by omega,by omega,fun _=>by omega⟩
   · exact ⟨by omega,by omega,fun _=>by omega⟩
 · rename_i h34
   exact ⟨by omega,by omega,fun e=>absurd e h34⟩
theorem wordEnd_gt (s:ByteArray) (a:Nat) (h:a < s.size) (h32:s.data.toList.getD a 0≠32):a < wordEnd s s.size (wordSkip s a):=by
 obtain ⟨h1,h2,h3⟩:=wordSkip_le s a h
 by_cases h34:s.data.toList.getD a 0=34
 · have:=wordEnd_le s s.size _ h2
   have:=h3 h34
   omega
 · have e:wordSkip s a=a:=by unfold wordSkip; rw [if_neg h34]
   rw [e]
   obtain ⟨m,hm⟩:∃ m,s.size=m+1:=⟨s.size - 1,by omega⟩
   conv=>rhs; rw [hm]
   rw [wordEnd,if_pos ⟨h,h32⟩]
   have:=wordEnd_le s m (a+1) h
   omega
theorem info_word:∃ i z,Tryz.prog.info? 233=some i∧i.zero=some z∧i.size=2∧i.bytes=24∧z.cells.size=2:=by
 have h:(Tryz.prog.info? 233).map (fun i=>(i.zero,i.size,i.bytes))=some (some (.agg #[.string ⟨#[]⟩,.int .i64 0]),2,24):=by kernel_rfl
 match hi:Tryz.prog.info? 233,h with
 | some i,h =>
   simp only [Option.map_some,Option.some.injEq,Prod.mk.injEq] at h
   exact ⟨i,_,rfl,h.1,h.2.1,h.2.2,rfl⟩
theorem wordV_len (s:ByteArray) (l:List (Nat × Nat)):(wordV s l).length=l.length*2:=by
 unfold wordV
 rw [List.length_flatMap]
 induction l with
 | nil=>rfl
 | cons a l ih=>simp [List.map_cons,List.sum_cons] at ih ⊢; omega
theorem bt_t {s:ByteArray} {i:Nat} (h:i < s.size) {c:UInt8} (hc:s.data.toList.getD i 0=c) {n:Int} (hn:(c.toNat:Int)=n):(((s[i]'h).toNat:Int) == n)=true:=by
 rw [Lib.getD_at s i h,hc,hn]
 exact beq_self_eq_true n
theorem bt_f {s:ByteArray} {i:Nat} (h:i < s.size) {c:UInt8} (hc:s.data.toList.getD i 0≠c) {n:Int} (hn:(c.toNat:Int)=n):(((s[i]'h).toNat:Int) == n)=false:=by
 rw [Lib.getD_at s i h,← hn]
 refine beq_eq_false_iff_ne.2 fun e=>hc ?_
 have:(s.data.toList.getD i 0).toNat=c.toNat:=by omega
 exact UInt8.toNat_inj.1 this
set_option maxRecDepth 20000 in
set_option maxHeartbeats 4000000 in
theorem Words_c (s:ByteArray) (hs:s.size≤100000000) (w:World) (hT:Tabs w) :
 Calls Tryz.prog 79 #[.string s] w fun e w'=>(∃ v,e=.returned v∧w'.ownsRow w.heap.size 233 2 v (wordsS s).length (wordV s (wordsS s)))∧Ext w w':=by
 go_enter Tryz.func79,Tryz.ntmps79
 go_wp2
 go_loopw [2,3,4,5] (fun u2 u3 _ _ wr=>∃ at_ fuel done,at_≤s.size∧u3=.int .i64 at_∧wr.ownsRow w.heap.size 233 2 u2 done.length (wordV s done)∧Ext w wr∧done++wordsFrom s fuel at_=wordsS s∧s.size < at_+fuel∧done.length≤at_) (fun _ u3 _ _ wr=>s.size - (intOf u3).toNat)
 case atStart=>exact ⟨0,s.size+1,[],by omega,rfl,⟨rfl,.inl ⟨rfl,rfl⟩⟩,Ext.refl _,rfl,by omega,Nat.zero_le _⟩
 case round =>
  obtain ⟨at_,fuel,done,hat,rfl,hown,hE,hw,hfu,hdl⟩:=hrel
  by_cases hp:at_ < s.size
  · obtain ⟨f,rfl⟩:∃ f,fuel=f+1:=⟨fuel - 1,by omega⟩
    rw [wordsFrom,if_pos hp] at hw
    have HW:=Lib.hid hw
    have HO:=Lib.hid hown
    clear hw hown
    by_cases h32:s.data.toList.getD at_ 0=32
    · have e32:=bt_t hp h32 (n:=32) rfl
      have hw:=HW.out
      rw [if_pos h32] at hw
      have HW2:=Lib.hid hw
      clear hw HW
      go_wp2
      go_roundw
      case rel=>exact ⟨at_+1,f,done,by omega,by go_num,HO.out,hE,HW2.out,by omega,by omega⟩
      case measure=>simp [intOf]; omega
    · have e32:=bt_f hp h32 (n:=32) rfl
      have hw:=HW.out
      rw [if_neg h32] at hw
      have HW2:=Lib.hid hw
      clear hw HW
      go_upto_if 20 with (fail)
      go_cut [4,5] (fun s4 _ wx=>s4=.int .i64 (wordSkip s at_)∧wx=wr)
      case first =>
       by_cases h34:s.data.toList.getD at_ 0=34
       · have e34:=bt_t hp h34 (n:=34) rfl
         have hge:=Lib.indexByte_ge (s.data.toList.drop (at_+1)) 34
         have hlt:=ixb_le 34 (s.data.toList.drop (at_+1))
         rw [List.length_drop,← Lib.size_eq] at hlt
         have hx:(s.extract (at_+1) s.size).data.toList=s.data.toList.drop (at_+1):=by
          rw [Lib.extract_data,List.take_of_length_le (by rw [List.length_drop,← Lib.size_eq]; omega)]
         have hws:wordSkip s at_=(if Lib.indexByte (s.data.toList.drop (at_+1)) 34 < 0 then s.size else at_+1+(Lib.indexByte (s.data.toList.drop (at_+1)) 34).toNat):=by unfold wordSkip; rw [if_pos h34]
         have hq:∀ W,Calls Tryz.prog 117 #[.string (s.extract (at_+1) s.size),.int .u8 34] W fun e w'=>e=.returned (.int .i64 (Lib.indexByte (s.data.toList.drop (at_+1)) 34))∧w'=W:=by
          intro W
          have:=IndexByte_c (s.extract (at_+1) s.size) 34 W
          rw [hx] at this
          exact this
         have HWS:=Lib.hid hws
         clear hws hx
         generalize Lib.indexByte (s.data.toList.drop (at_+1)) 34=q at *
         go_wp2_with fail
         refine Calls.mono (hq _) ?_
         rintro e w2 ⟨rfl,rfl⟩
         by_cases hq0:q < 0
         · go_wp2_with fail
           go_meet
           exact ⟨by rw [HWS.out,if_pos hq0],rfl⟩
         · obtain ⟨q,rfl⟩:∃ m:Nat,q=(m:Int):=⟨q.toNat,by omega⟩
           go_wp2_with fail
           go_meet
           exact ⟨by rw [HWS.out,if_neg (by omega)]; go_num,rfl⟩
       · have e34:=bt_f hp h34 (n:=34) rfl
         have hws:wordSkip s at_=at_:=by unfold wordSkip; rw [if_neg h34]
         go_wp2_with fail
         go_meet
         exact ⟨by rw [hws],rfl⟩
      case rest =>
       obtain ⟨rfl,rfl⟩:=hcut
       obtain ⟨hk1,hk2,_⟩:=wordSkip_le s at_ hp
       have hgt:=wordEnd_gt s at_ hp h32
       have hend:=wordEnd_le s s.size _ hk2
       generalize hK:wordSkip s at_=kk at *
       generalize hEN:wordEnd s s.size kk=en at *
       clear e32
       go_upto_block 2 with (fail)
       go_cut [4] (fun s4 wx=>s4=.int .i64 (en:Nat)∧wx=wc)
       case first =>
        go_wp2_with fail
        go_loopw [4] (fun u4 wi=>∃ e f2,e≤s.size∧u4=.int .i64 (e:Nat)∧wi=wc∧wordEnd s f2 e=en∧s.size≤e+f2) (fun u4 _=>s.size - (intOf u4).toNat)
        case atStart=>exact ⟨kk,s.size,hk2,rfl,by first | rfl | trivial,hEN,by omega⟩
        case round =>
         obtain ⟨e,f2,he,rfl,rfl,hwe,hf2⟩:=hrel
         by_cases hes:e < s.size
         · obtain ⟨f3,rfl⟩:∃ f3,f2=f3+1:=⟨f2 - 1,by omega⟩
           by_cases h32':s.data.toList.getD e 0=32
           · have e32:=bt_t hes h32' (n:=32) rfl
             have hee:e=en:=by rw [← hwe,wordEnd,if_neg (fun h=>h.2 h32')]
             have HEE:=Lib.hid hee
             clear hee hwe
             go_wp2_with fail
             go_meet
             exact ⟨by rw [HEE.out],rfl⟩
           · have e32:=bt_f hes h32' (n:=32) rfl
             rw [wordEnd,if_pos ⟨hes,h32'⟩] at hwe
             have HWE:=Lib.hid hwe
             clear hwe
             go_wp2_with fail
             go_roundw
             case rel=>exact ⟨e+1,f3,by omega,by go_num,by first | rfl | trivial,HWE.out,by omega⟩
             case measure=>simp [intOf]; omega
         · have hee:e=en:=by
            rw [← hwe]
            cases f2 with
            | zero=>rfl
            | succ f3=>rw [wordEnd,if_neg (fun h=>hes h.1)]
           have HEE:=Lib.hid hee
           clear hee hwe
           go_wp2_with fail
           go_meet
           exact ⟨by rw [HEE.out],rfl⟩
       case rest =>
        obtain ⟨rfl,rfl⟩:=hcut
        have hsz:=hE.size
        go_wp2_with (at_builtin; refine wpList_appK wc 2 24 1 (by decide) (by decide) [.string (s.extract at_ en),.int .i64 (at_:Nat)] rfl (by simp [Value.oneCell']) _ done.length _ w.heap.size 233 _ HO.out 161 rfl _ _ rfl info_word Tryz.underlying161 _ rfl (by rfl) (by rfl) (by omega) hsz ?_)
        intro v' w' hw1 hw2 hw3
        have hE2:Ext w w':=ext_grown hE hw2 (fun j hj=>own_geB HO.out hj)
        have hvv:wordV s (done++[(at_,en)])=wordV s done++[.string (s.extract at_ en),.int .i64 (at_:Nat)]:=by
         unfold wordV; rw [List.flatMap_append]; rfl
        rw [← hvv] at hw1
        have H1:=Lib.hid hw1
        clear hw1 hw2 hw3 hvv
        go_wp2
        go_roundw
        case rel=>exact ⟨en,f,done++[(at_,en)],by omega,rfl,by rw [List.length_append]; exact H1.out,hE2,by rw [List.append_assoc]; exact HW2.out,by omega,by rw [List.length_append,List.length_singleton]; omega⟩
        case measure=>simp [intOf]; omega
  · have hw2:done=wordsS s:=by
     rw [← hw]
     cases fuel with
     | zero=>simp [wordsFrom]
     | succ f=>simp [wordsFrom,hp]
    subst hw2
    have HO:=Lib.hid hown
    clear hown hw
    go_wp2
    go_ret
    exact ⟨⟨_,rfl,HO.out⟩,hE⟩
end Go.Proofs.YtmalncfcgcebhaaGreatDoor
namespace Go.Proofs.YtmalncfcgcebhaaGreatDoor
set_option linter.unusedVariables false
open Go.Lib
theorem dec_mem (u:Nat):∀ c∈decDigits u,48≤c.toNat∧c.toNat≤57:=by
 induction u using Nat.strongRecOn with
 | _ u ih =>
   intro c hc
   unfold decDigits at hc
   split at hc
   · rename_i h
     simp only [List.mem_singleton] at hc
     subst hc
     rw [UInt8.toNat_ofNat']
     omega
   · rename_i h
     rcases List.mem_append.1 hc with hc | hc
     · exact ih (u / 10) (by omega) c hc
     · simp only [List.mem_singleton] at hc
       subst hc
       rw [UInt8.toNat_ofNat']
       omega
theorem dec_ne (u:Nat):decDigits u≠[]:=by
 unfold decDigits
 split <;> simp
theorem dig_nat {d:Nat} (h:d < 10):(UInt8.ofNat (48+d)).toNat=48+d:=by rw [UInt8.toNat_ofNat']; omega
theorem parse_dec (u:Nat) (hu:u < 18446744073709551616):∀ r,parseUintM 18446744073709551615 0 (decDigits u++r)=parseUintM 18446744073709551615 u r:=by
 induction u using Nat.strongRecOn with
 | _ u ih =>
   intro r
   unfold decDigits
   split
   · rename_i h
     show parseUintM _ 0 (UInt8.ofNat (48+u) :: r)=_
     conv=>lhs; unfold parseUintM
     rw [dig_nat h,if_pos (by omega),if_neg (by omega),if_neg (by omega)]
     congr 1
     omega
   · rename_i h
     have hd:u % 10 < 10:=Nat.mod_lt _ (by decide)
     rw [List.append_assoc,ih (u / 10) (by omega) (by omega)]
     show parseUintM _ (u / 10) (UInt8.ofNat (48+u % 10) :: r)=_
     conv=>lhs; unfold parseUintM
     rw [dig_nat hd,if_pos (by omega),if_neg (by omega),if_neg (by omega)]
     congr 1
     omega
theorem parse_decB {u:Nat} (hu:u < 18446744073709551616):parseUintB 64 (decDigits u)=.ok u:=by
 unfold parseUintB
 rw [if_neg (dec_ne u)]
 have h:=parse_dec u hu []
 rw [List.append_nil] at h
 exact h
theorem parse_itoa {n:Int} (h0:-9223372036854775808≤n) (h1:n≤9223372036854775807):parseIntB 64 (itoa n)=.ok n:=by
 by_cases hn:n < 0
 · obtain ⟨u,rfl⟩:∃ u:Nat,n=-(u:Int):=⟨n.natAbs,by omega⟩
   rw [itoa_neg u (by omega)]
   unfold parseIntB
   dsimp only
   rw [if_pos (by simp),parse_decB (by omega)]
   dsimp only
   show (if _ then _ else if _ then _ else _)=_
   rw [if_neg (by simp),if_neg (by simp; omega)]
   rfl
 · obtain ⟨u,rfl⟩:∃ u:Nat,n=(u:Int):=⟨n.natAbs,by omega⟩
   rw [itoa_nonneg]
   obtain ⟨c,r,hcr⟩:=List.exists_cons_of_ne_nil (dec_ne u)
   have hc:=dec_mem u c (by rw [hcr]; simp)
   have hp:=parse_decB (u:=u) (by omega)
   rw [hcr] at hp ⊢
   unfold parseIntB
   simp only
   rw [if_neg (by omega),hp]
   simp only
   rw [if_neg (by omega),if_neg (by omega),if_neg (by omega)]
theorem itoa_mem (n:Int):∀ c∈itoa n,c.toNat=45∨(48≤c.toNat∧c.toNat≤57):=by
 intro c hc
 unfold itoa at hc
 split at hc
 · rcases List.mem_cons.1 hc with rfl | hc
   · exact .inl rfl
   · exact .inr (dec_mem _ c hc)
 · exact .inr (dec_mem _ c hc)
theorem itoa_ne (n:Int):itoa n≠[]:=by
 unfold itoa
 split
 · simp
 · exact dec_ne _
end Go.Proofs.YtmalncfcgcebhaaGreatDoor
