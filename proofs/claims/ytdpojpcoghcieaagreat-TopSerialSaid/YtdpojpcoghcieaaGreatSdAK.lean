/- A part of the proof of TopSerial: ConfCheck. Conditions: none. -/
import Derived.Test.YtdpojpcoghcieaaGreatSdAJ
set_option maxHeartbeats 8000000
namespace Go.Proofs.YtdpojpcoghcieaaGreat
open Lib renaming hid → K1
open Go.RowKit
def MadeOk (w:World) (zs:List Int) (e:Ending) (w':World):Prop :=
 ∃ g,e=.returned (.tuple #[.pointer (some ⟨g,0,none⟩),.int .i64 0])∧Below w.heap.size w w'∧w.heap.size≤g∧IsShape w' w'.heap.size g zs
theorem new_ok (A:Option Addr) (cap:Nat) (zs:List Int) (w:World) (hr:RdI w w.heap.size A zs) (hcap:zs.length≤cap) (hm:zs.length≤9223372036854775807) (h:shCode zs=0) :
  Calls Tryz.prog 59 #[.slice A zs.length cap] w (MadeOk w zs) :=
 (new_any A cap zs w hr hcap hm).mono fun _ _ ⟨h1,h2,_⟩=>by
  obtain ⟨g,e,hg,hS⟩:=h2 h
  exact ⟨g,e,h1,hg,hS⟩
theorem new_no (A:Option Addr) (cap:Nat) (zs:List Int) (w:World) (hr:RdI w w.heap.size A zs) (hcap:zs.length≤cap) (hm:zs.length≤9223372036854775807) (h:shCode zs≠0) :
  Calls Tryz.prog 59 #[.slice A zs.length cap] w fun e w'=>e=.returned (.tuple #[.pointer none,.int .i64 (shCode zs)])∧Below w.heap.size w w' :=
 (new_any A cap zs w hr hcap hm).mono fun _ _ ⟨h1,_,h3⟩=>⟨h3 h,h1⟩
theorem size_any (x:Int) (w:World) :
  Calls Tryz.prog 95 #[.int .i64 x] w fun e w'=>e=.returned (.bool (okSz x))∧w=w':=by
 by_cases h1:1≤x
 · by_cases h2:x≤1048576
   all_goals
    go_enter Tryz.func95,Tryz.ntmps95
    go_wp2
    go_ret
    exact ⟨ret_bool (by simp [okSz];omega),rfl⟩
 · go_enter Tryz.func95,Tryz.ntmps95
   go_wp2
   go_ret
   exact ⟨ret_bool (by simp [okSz];omega),rfl⟩
theorem cf_cells (A:Option Addr) (n cap:Nat) (sh ra mo wo ba mi st bu ch wi ca:Int) (w w1:World) (hb:Below (w.alloc (.cells #[.slice A n cap,.int .i64 sh,.int .i64 ra,.int .i64 mo,.int .i64 wo,.int .i64 ba,.int .i64 mi,.int .i64 st,.int .i64 bu,.int .i64 ch,.int .i64 wi,.int .i64 ca] 24)).heap.size (w.alloc (.cells #[.slice A n cap,.int .i64 sh,.int .i64 ra,.int .i64 mo,.int .i64 wo,.int .i64 ba,.int .i64 mi,.int .i64 st,.int .i64 bu,.int .i64 ch,.int .i64 wi,.int .i64 ca] 24)) w1) :
  w1.cell? ⟨w.heap.size,0,none⟩=some (.slice A n cap)∧w1.cell? ⟨w.heap.size,1,none⟩=some (.int .i64 sh)∧w1.cell? ⟨w.heap.size,4,none⟩=some (.int .i64 wo)∧w1.cell? ⟨w.heap.size,5,none⟩=some (.int .i64 ba)∧w1.cell? ⟨w.heap.size,6,none⟩=some (.int .i64 mi) ∧
  w1.cell? ⟨w.heap.size,7,none⟩=some (.int .i64 st)∧w1.cell? ⟨w.heap.size,8,none⟩=some (.int .i64 bu)∧w1.cell? ⟨w.heap.size,9,none⟩=some (.int .i64 ch)∧w1.cell? ⟨w.heap.size,10,none⟩=some (.int .i64 wi)∧w1.cell? ⟨w.heap.size,11,none⟩=some (.int .i64 ca):=by
 have hn:=blk_below (heap_alloc_new w (.cells #[.slice A n cap,.int .i64 sh,.int .i64 ra,.int .i64 mo,.int .i64 wo,.int .i64 ba,.int .i64 mi,.int .i64 st,.int .i64 bu,.int .i64 ch,.int .i64 wi,.int .i64 ca] 24)) hb (by simp)
 exact ⟨blk_cell hn 0,blk_cell hn 1,blk_cell hn 4,blk_cell hn 5,blk_cell hn 6,blk_cell hn 7,blk_cell hn 8,blk_cell hn 9,blk_cell hn 10,blk_cell hn 11⟩
def Coded (w:World) (k:Int) (e:Ending) (w':World):Prop:=e=.returned (.int .i64 k)∧Below w.heap.size w w'
theorem confCheck_no (A:Option Addr) (cap:Nat) (zs:List Int) (c:Cf) (w:World) (hr:RdI w w.heap.size A zs) (hcap:zs.length≤cap) (hm:zs.length≤9223372036854775807) (h:shCode zs≠0) :
  Calls Tryz.prog 58 #[cfVal A zs.length cap c] w (Coded w (confCode zs c)):=by
 obtain ⟨sh,ra,mo,wo,ba,mi,st,bu,ch,wi,ca⟩:=c
 dsimp only [cfVal]
 have hr1:RdI (w.alloc (.cells #[.slice A zs.length cap,.int .i64 sh,.int .i64 ra,.int .i64 mo,.int .i64 wo,.int .i64 ba,.int .i64 mi,.int .i64 st,.int .i64 bu,.int .i64 ch,.int .i64 wi,.int .i64 ca] 24)) (w.alloc (.cells #[.slice A zs.length cap,.int .i64 sh,.int .i64 ra,.int .i64 mo,.int .i64 wo,.int .i64 ba,.int .i64 mi,.int .i64 st,.int .i64 bu,.int .i64 ch,.int .i64 wi,.int .i64 ca] 24)).heap.size A zs :=
  (hr.alloc (Nat.le_refl _) _).more (by simp)
 have C:=K1 (new_no A cap zs _ hr1 hcap hm h)
 have Hne:=K1 h
 clear hr1
 by_cases l1:wo<1
 · have hfin:=K1 (code6 (zs:=zs) (c:=⟨sh,ra,mo,wo,ba,mi,st,bu,ch,wi,ca⟩) (.inl l1))
   go_enter Tryz.func58,Tryz.ntmps58
   go_wp2_with (first
    | (go_at_call 95;refine (size_any _ _).mono ?_;rintro e w' ⟨rfl,rfl⟩)
    | (go_at_call 59;refine C.out.mono ?_;rintro e w1 ⟨rfl,hb1⟩
       obtain ⟨c0,c1,c4,c5,c6,c7,c8,c9,c10,c11⟩:=cf_cells A zs.length cap sh ra mo wo ba mi st bu ch wi ca w w1 hb1))
   go_ret
   exact ⟨ret_int hfin.out.symm,((Below.refl _ _).alloc (Nat.le_refl _) _).trans (hb1.mono (by simp))⟩
 by_cases l2:64<wo
 · have hfin:=K1 (code6 (zs:=zs) (c:=⟨sh,ra,mo,wo,ba,mi,st,bu,ch,wi,ca⟩) (.inr l2))
   go_enter Tryz.func58,Tryz.ntmps58
   go_wp2_with (first
    | (go_at_call 95;refine (size_any _ _).mono ?_;rintro e w' ⟨rfl,rfl⟩)
    | (go_at_call 59;refine C.out.mono ?_;rintro e w1 ⟨rfl,hb1⟩
       obtain ⟨c0,c1,c4,c5,c6,c7,c8,c9,c10,c11⟩:=cf_cells A zs.length cap sh ra mo wo ba mi st bu ch wi ca w w1 hb1))
   go_ret
   exact ⟨ret_int hfin.out.symm,((Below.refl _ _).alloc (Nat.le_refl _) _).trans (hb1.mono (by simp))⟩
 by_cases l3:sh<1
 · have hfin:=K1 (code9 (zs:=zs) (c:=⟨sh,ra,mo,wo,ba,mi,st,bu,ch,wi,ca⟩) l1 l2 (.inl l3))
   go_enter Tryz.func58,Tryz.ntmps58
   go_wp2_with (first
    | (go_at_call 95;refine (size_any _ _).mono ?_;rintro e w' ⟨rfl,rfl⟩)
    | (go_at_call 59;refine C.out.mono ?_;rintro e w1 ⟨rfl,hb1⟩
       obtain ⟨c0,c1,c4,c5,c6,c7,c8,c9,c10,c11⟩:=cf_cells A zs.length cap sh ra mo wo ba mi st bu ch wi ca w w1 hb1))
   go_ret
   exact ⟨ret_int hfin.out.symm,((Below.refl _ _).alloc (Nat.le_refl _) _).trans (hb1.mono (by simp))⟩
 by_cases l4:62<sh
 · have hfin:=K1 (code9 (zs:=zs) (c:=⟨sh,ra,mo,wo,ba,mi,st,bu,ch,wi,ca⟩) l1 l2 (.inr l4))
   go_enter Tryz.func58,Tryz.ntmps58
   go_wp2_with (first
    | (go_at_call 95;refine (size_any _ _).mono ?_;rintro e w' ⟨rfl,rfl⟩)
    | (go_at_call 59;refine C.out.mono ?_;rintro e w1 ⟨rfl,hb1⟩
       obtain ⟨c0,c1,c4,c5,c6,c7,c8,c9,c10,c11⟩:=cf_cells A zs.length cap sh ra mo wo ba mi st bu ch wi ca w w1 hb1))
   go_ret
   exact ⟨ret_int hfin.out.symm,((Below.refl _ _).alloc (Nat.le_refl _) _).trans (hb1.mono (by simp))⟩
 · have hfin:=K1 (codeS (zs:=zs) (c:=⟨sh,ra,mo,wo,ba,mi,st,bu,ch,wi,ca⟩) l1 l2 l3 l4 h)
   have h0:(shCode zs == 0)=false:=by simpa using h
   generalize shCode zs=k at *
   go_enter Tryz.func58,Tryz.ntmps58
   go_wp2_with (first
    | (go_at_call 95;refine (size_any _ _).mono ?_;rintro e w' ⟨rfl,rfl⟩)
    | (go_at_call 59;refine C.out.mono ?_;rintro e w1 ⟨rfl,hb1⟩
       obtain ⟨c0,c1,c4,c5,c6,c7,c8,c9,c10,c11⟩:=cf_cells A zs.length cap sh ra mo wo ba mi st bu ch wi ca w w1 hb1))
   go_ret
   exact ⟨ret_int hfin.out.symm,((Below.refl _ _).alloc (Nat.le_refl _) _).trans (hb1.mono (by simp))⟩
theorem confCheck_ok1 (A:Option Addr) (cap:Nat) (zs:List Int) (c:Cf) (w:World) (hr:RdI w w.heap.size A zs) (hcap:zs.length≤cap) (hm:zs.length≤9223372036854775807) (h:shCode zs=0) (hbad:c.wo<1∨64<c.wo∨c.sh<1∨62<c.sh) :
  Calls Tryz.prog 58 #[cfVal A zs.length cap c] w (Coded w (confCode zs c)):=by
 obtain ⟨sh,ra,mo,wo,ba,mi,st,bu,ch,wi,ca⟩:=c
 dsimp only [cfVal]
 have hr1:RdI (w.alloc (.cells #[.slice A zs.length cap,.int .i64 sh,.int .i64 ra,.int .i64 mo,.int .i64 wo,.int .i64 ba,.int .i64 mi,.int .i64 st,.int .i64 bu,.int .i64 ch,.int .i64 wi,.int .i64 ca] 24)) (w.alloc (.cells #[.slice A zs.length cap,.int .i64 sh,.int .i64 ra,.int .i64 mo,.int .i64 wo,.int .i64 ba,.int .i64 mi,.int .i64 st,.int .i64 bu,.int .i64 ch,.int .i64 wi,.int .i64 ca] 24)).heap.size A zs :=
  (hr.alloc (Nat.le_refl _) _).more (by simp)
 have C:=K1 (new_ok A cap zs _ hr1 hcap hm h)
 clear hr1
 dsimp only at hbad
 have Hbad:=K1 hbad
 have H0:=K1 h
 clear hbad h
 by_cases l1:wo<1
 · have hfin:=K1 (code6 (zs:=zs) (c:=⟨sh,ra,mo,wo,ba,mi,st,bu,ch,wi,ca⟩) (.inl l1))
   go_enter Tryz.func58,Tryz.ntmps58
   go_wp2_with (first
    | (go_at_call 95;refine (size_any _ _).mono ?_;rintro e w' ⟨rfl,rfl⟩)
    | (go_at_call 59;refine C.out.mono ?_;rintro e w1 ⟨g,rfl,hb1,hg,hS⟩
       obtain ⟨c0,c1,c4,c5,c6,c7,c8,c9,c10,c11⟩:=cf_cells A zs.length cap sh ra mo wo ba mi st bu ch wi ca w w1 hb1))
   go_ret
   exact ⟨ret_int hfin.out.symm,((Below.refl _ _).alloc (Nat.le_refl _) _).trans (hb1.mono (by simp))⟩
 by_cases l2:64<wo
 · have hfin:=K1 (code6 (zs:=zs) (c:=⟨sh,ra,mo,wo,ba,mi,st,bu,ch,wi,ca⟩) (.inr l2))
   go_enter Tryz.func58,Tryz.ntmps58
   go_wp2_with (first
    | (go_at_call 95;refine (size_any _ _).mono ?_;rintro e w' ⟨rfl,rfl⟩)
    | (go_at_call 59;refine C.out.mono ?_;rintro e w1 ⟨g,rfl,hb1,hg,hS⟩
       obtain ⟨c0,c1,c4,c5,c6,c7,c8,c9,c10,c11⟩:=cf_cells A zs.length cap sh ra mo wo ba mi st bu ch wi ca w w1 hb1))
   go_ret
   exact ⟨ret_int hfin.out.symm,((Below.refl _ _).alloc (Nat.le_refl _) _).trans (hb1.mono (by simp))⟩
 by_cases l3:sh<1
 · have hfin:=K1 (code9 (zs:=zs) (c:=⟨sh,ra,mo,wo,ba,mi,st,bu,ch,wi,ca⟩) l1 l2 (.inl l3))
   go_enter Tryz.func58,Tryz.ntmps58
   go_wp2_with (first
    | (go_at_call 95;refine (size_any _ _).mono ?_;rintro e w' ⟨rfl,rfl⟩)
    | (go_at_call 59;refine C.out.mono ?_;rintro e w1 ⟨g,rfl,hb1,hg,hS⟩
       obtain ⟨c0,c1,c4,c5,c6,c7,c8,c9,c10,c11⟩:=cf_cells A zs.length cap sh ra mo wo ba mi st bu ch wi ca w w1 hb1))
   go_ret
   exact ⟨ret_int hfin.out.symm,((Below.refl _ _).alloc (Nat.le_refl _) _).trans (hb1.mono (by simp))⟩
 by_cases l4:62<sh
 · have hfin:=K1 (code9 (zs:=zs) (c:=⟨sh,ra,mo,wo,ba,mi,st,bu,ch,wi,ca⟩) l1 l2 (.inr l4))
   go_enter Tryz.func58,Tryz.ntmps58
   go_wp2_with (first
    | (go_at_call 95;refine (size_any _ _).mono ?_;rintro e w' ⟨rfl,rfl⟩)
    | (go_at_call 59;refine C.out.mono ?_;rintro e w1 ⟨g,rfl,hb1,hg,hS⟩
       obtain ⟨c0,c1,c4,c5,c6,c7,c8,c9,c10,c11⟩:=cf_cells A zs.length cap sh ra mo wo ba mi st bu ch wi ca w w1 hb1))
   go_ret
   exact ⟨ret_int hfin.out.symm,((Below.refl _ _).alloc (Nat.le_refl _) _).trans (hb1.mono (by simp))⟩
 · exfalso;have:=Hbad.out;omega
theorem confCheck_ok2 (A:Option Addr) (cap:Nat) (zs:List Int) (c:Cf) (w:World) (hr:RdI w w.heap.size A zs) (hcap:zs.length≤cap) (hm:zs.length≤9223372036854775807) (h:shCode zs=0) (h1:¬ c.wo<1) (h2:¬ 64<c.wo) (h3:¬ c.sh<1) (h4:¬ 62<c.sh) (hbad:numsOk c=false) :
  Calls Tryz.prog 58 #[cfVal A zs.length cap c] w (Coded w (confCode zs c)):=by
 obtain ⟨sh,ra,mo,wo,ba,mi,st,bu,ch,wi,ca⟩:=c
 dsimp only [cfVal]
 have hr1:RdI (w.alloc (.cells #[.slice A zs.length cap,.int .i64 sh,.int .i64 ra,.int .i64 mo,.int .i64 wo,.int .i64 ba,.int .i64 mi,.int .i64 st,.int .i64 bu,.int .i64 ch,.int .i64 wi,.int .i64 ca] 24)) (w.alloc (.cells #[.slice A zs.length cap,.int .i64 sh,.int .i64 ra,.int .i64 mo,.int .i64 wo,.int .i64 ba,.int .i64 mi,.int .i64 st,.int .i64 bu,.int .i64 ch,.int .i64 wi,.int .i64 ca] 24)).heap.size A zs :=
  (hr.alloc (Nat.le_refl _) _).more (by simp)
 have C:=K1 (new_ok A cap zs _ hr1 hcap hm h)
 clear hr1
 dsimp only at h1 h2 h3 h4
 have hfin:=K1 (code2 (zs:=zs) (c:=⟨sh,ra,mo,wo,ba,mi,st,bu,ch,wi,ca⟩) h1 h2 h3 h4 h hbad)
 have Hbad:=K1 hbad
 clear hbad h
 cases k0:okSz mi
 · go_enter Tryz.func58,Tryz.ntmps58
   go_wp2_with (first
    | (go_at_call 95;refine (size_any _ _).mono ?_;rintro e w' ⟨rfl,rfl⟩)
    | (go_at_call 59;refine C.out.mono ?_;rintro e w1 ⟨g,rfl,hb1,hg,hS⟩
       obtain ⟨c0,c1,c4,c5,c6,c7,c8,c9,c10,c11⟩:=cf_cells A zs.length cap sh ra mo wo ba mi st bu ch wi ca w w1 hb1))
   go_ret
   exact ⟨ret_int hfin.out.symm,((Below.refl _ _).alloc (Nat.le_refl _) _).trans (hb1.mono (by simp))⟩
 cases k1:okSz bu
 · go_enter Tryz.func58,Tryz.ntmps58
   go_wp2_with (first
    | (go_at_call 95;refine (size_any _ _).mono ?_;rintro e w' ⟨rfl,rfl⟩)
    | (go_at_call 59;refine C.out.mono ?_;rintro e w1 ⟨g,rfl,hb1,hg,hS⟩
       obtain ⟨c0,c1,c4,c5,c6,c7,c8,c9,c10,c11⟩:=cf_cells A zs.length cap sh ra mo wo ba mi st bu ch wi ca w w1 hb1))
   go_ret
   exact ⟨ret_int hfin.out.symm,((Below.refl _ _).alloc (Nat.le_refl _) _).trans (hb1.mono (by simp))⟩
 cases k2:okSz ch
 · go_enter Tryz.func58,Tryz.ntmps58
   go_wp2_with (first
    | (go_at_call 95;refine (size_any _ _).mono ?_;rintro e w' ⟨rfl,rfl⟩)
    | (go_at_call 59;refine C.out.mono ?_;rintro e w1 ⟨g,rfl,hb1,hg,hS⟩
       obtain ⟨c0,c1,c4,c5,c6,c7,c8,c9,c10,c11⟩:=cf_cells A zs.length cap sh ra mo wo ba mi st bu ch wi ca w w1 hb1))
   go_ret
   exact ⟨ret_int hfin.out.symm,((Below.refl _ _).alloc (Nat.le_refl _) _).trans (hb1.mono (by simp))⟩
 cases k3:okSz wi
 · go_enter Tryz.func58,Tryz.ntmps58
   go_wp2_with (first
    | (go_at_call 95;refine (size_any _ _).mono ?_;rintro e w' ⟨rfl,rfl⟩)
    | (go_at_call 59;refine C.out.mono ?_;rintro e w1 ⟨g,rfl,hb1,hg,hS⟩
       obtain ⟨c0,c1,c4,c5,c6,c7,c8,c9,c10,c11⟩:=cf_cells A zs.length cap sh ra mo wo ba mi st bu ch wi ca w w1 hb1))
   go_ret
   exact ⟨ret_int hfin.out.symm,((Below.refl _ _).alloc (Nat.le_refl _) _).trans (hb1.mono (by simp))⟩
 cases k4:okSz ca
 · go_enter Tryz.func58,Tryz.ntmps58
   go_wp2_with (first
    | (go_at_call 95;refine (size_any _ _).mono ?_;rintro e w' ⟨rfl,rfl⟩)
    | (go_at_call 59;refine C.out.mono ?_;rintro e w1 ⟨g,rfl,hb1,hg,hS⟩
       obtain ⟨c0,c1,c4,c5,c6,c7,c8,c9,c10,c11⟩:=cf_cells A zs.length cap sh ra mo wo ba mi st bu ch wi ca w w1 hb1))
   go_ret
   exact ⟨ret_int hfin.out.symm,((Below.refl _ _).alloc (Nat.le_refl _) _).trans (hb1.mono (by simp))⟩
 by_cases k5:st=0
 · exfalso;have:=Hbad.out;simp [numsOk,k0,k1,k2,k3,k4,k5] at this
 cases k6:okSz st
 · have k7:(st != 0)=true:=by simpa using k5
   go_enter Tryz.func58,Tryz.ntmps58
   go_wp2_with (first
    | (go_at_call 95;refine (size_any _ _).mono ?_;rintro e w' ⟨rfl,rfl⟩)
    | (go_at_call 59;refine C.out.mono ?_;rintro e w1 ⟨g,rfl,hb1,hg,hS⟩
       obtain ⟨c0,c1,c4,c5,c6,c7,c8,c9,c10,c11⟩:=cf_cells A zs.length cap sh ra mo wo ba mi st bu ch wi ca w w1 hb1))
   go_ret
   exact ⟨ret_int hfin.out.symm,((Below.refl _ _).alloc (Nat.le_refl _) _).trans (hb1.mono (by simp))⟩
 · exfalso;have:=Hbad.out;simp [numsOk,k0,k1,k2,k3,k4,k6] at this
theorem confCheck_ok3 (A:Option Addr) (cap:Nat) (zs:List Int) (c:Cf) (w:World) (hr:RdI w w.heap.size A zs) (hcap:zs.length≤cap) (hm:zs.length≤9223372036854775807) (h:shCode zs=0) (h1:¬ c.wo<1) (h2:¬ 64<c.wo) (h3:¬ c.sh<1) (h4:¬ 62<c.sh) (hnum:numsOk c=true) (hst:c.st=0) :
  Calls Tryz.prog 58 #[cfVal A zs.length cap c] w (Coded w (confCode zs c)):=by
 obtain ⟨sh,ra,mo,wo,ba,mi,st,bu,ch,wi,ca⟩:=c
 dsimp only [cfVal]
 have hr1:RdI (w.alloc (.cells #[.slice A zs.length cap,.int .i64 sh,.int .i64 ra,.int .i64 mo,.int .i64 wo,.int .i64 ba,.int .i64 mi,.int .i64 st,.int .i64 bu,.int .i64 ch,.int .i64 wi,.int .i64 ca] 24)) (w.alloc (.cells #[.slice A zs.length cap,.int .i64 sh,.int .i64 ra,.int .i64 mo,.int .i64 wo,.int .i64 ba,.int .i64 mi,.int .i64 st,.int .i64 bu,.int .i64 ch,.int .i64 wi,.int .i64 ca] 24)).heap.size A zs :=
  (hr.alloc (Nat.le_refl _) _).more (by simp)
 have C:=K1 (new_ok A cap zs _ hr1 hcap hm h)
 clear hr1
 dsimp only at h1 h2 h3 h4
 have hn:=hnum
 simp only [numsOk,Bool.and_eq_true,Bool.or_eq_true,decide_eq_true_eq] at hn
 obtain ⟨⟨⟨⟨⟨k0,k1⟩,k2⟩,k3⟩,k4⟩,k56⟩:=hn
 have k5:(st != 0)=false:=by simpa using hst
 clear hst k56
 have Hnum:=K1 hnum
 have H0:=K1 h
 clear hnum h
 by_cases l1:ba<wo
 · have hfin:=K1 (code7 (zs:=zs) (c:=⟨sh,ra,mo,wo,ba,mi,st,bu,ch,wi,ca⟩) h1 h2 h3 h4 H0.out Hnum.out (.inl l1))
   go_enter Tryz.func58,Tryz.ntmps58
   go_wp2_with (first
    | (go_at_call 95;refine (size_any _ _).mono ?_;rintro e w' ⟨rfl,rfl⟩)
    | (go_at_call 59;refine C.out.mono ?_;rintro e w1 ⟨g,rfl,hb1,hg,hS⟩
       obtain ⟨c0,c1,c4,c5,c6,c7,c8,c9,c10,c11⟩:=cf_cells A zs.length cap sh ra mo wo ba mi st bu ch wi ca w w1 hb1))
   go_ret
   exact ⟨ret_int hfin.out.symm,((Below.refl _ _).alloc (Nat.le_refl _) _).trans (hb1.mono (by simp))⟩
 by_cases l2:1048576<ba
 · have hfin:=K1 (code7 (zs:=zs) (c:=⟨sh,ra,mo,wo,ba,mi,st,bu,ch,wi,ca⟩) h1 h2 h3 h4 H0.out Hnum.out (.inr l2))
   go_enter Tryz.func58,Tryz.ntmps58
   go_wp2_with (first
    | (go_at_call 95;refine (size_any _ _).mono ?_;rintro e w' ⟨rfl,rfl⟩)
    | (go_at_call 59;refine C.out.mono ?_;rintro e w1 ⟨g,rfl,hb1,hg,hS⟩
       obtain ⟨c0,c1,c4,c5,c6,c7,c8,c9,c10,c11⟩:=cf_cells A zs.length cap sh ra mo wo ba mi st bu ch wi ca w w1 hb1))
   go_ret
   exact ⟨ret_int hfin.out.symm,((Below.refl _ _).alloc (Nat.le_refl _) _).trans (hb1.mono (by simp))⟩
 · have hfin:=K1 (code0 (zs:=zs) (c:=⟨sh,ra,mo,wo,ba,mi,st,bu,ch,wi,ca⟩) h1 h2 h3 h4 H0.out Hnum.out l1 l2)
   go_enter Tryz.func58,Tryz.ntmps58
   go_wp2_with (first
    | (go_at_call 95;refine (size_any _ _).mono ?_;rintro e w' ⟨rfl,rfl⟩)
    | (go_at_call 59;refine C.out.mono ?_;rintro e w1 ⟨g,rfl,hb1,hg,hS⟩
       obtain ⟨c0,c1,c4,c5,c6,c7,c8,c9,c10,c11⟩:=cf_cells A zs.length cap sh ra mo wo ba mi st bu ch wi ca w w1 hb1))
   go_ret
   exact ⟨ret_int hfin.out.symm,((Below.refl _ _).alloc (Nat.le_refl _) _).trans (hb1.mono (by simp))⟩
theorem confCheck_ok4 (A:Option Addr) (cap:Nat) (zs:List Int) (c:Cf) (w:World) (hr:RdI w w.heap.size A zs) (hcap:zs.length≤cap) (hm:zs.length≤9223372036854775807) (h:shCode zs=0) (h1:¬ c.wo<1) (h2:¬ 64<c.wo) (h3:¬ c.sh<1) (h4:¬ 62<c.sh) (hnum:numsOk c=true) (hst:¬ c.st=0) :
  Calls Tryz.prog 58 #[cfVal A zs.length cap c] w (Coded w (confCode zs c)):=by
 obtain ⟨sh,ra,mo,wo,ba,mi,st,bu,ch,wi,ca⟩:=c
 dsimp only [cfVal]
 have hr1:RdI (w.alloc (.cells #[.slice A zs.length cap,.int .i64 sh,.int .i64 ra,.int .i64 mo,.int .i64 wo,.int .i64 ba,.int .i64 mi,.int .i64 st,.int .i64 bu,.int .i64 ch,.int .i64 wi,.int .i64 ca] 24)) (w.alloc (.cells #[.slice A zs.length cap,.int .i64 sh,.int .i64 ra,.int .i64 mo,.int .i64 wo,.int .i64 ba,.int .i64 mi,.int .i64 st,.int .i64 bu,.int .i64 ch,.int .i64 wi,.int .i64 ca] 24)).heap.size A zs :=
  (hr.alloc (Nat.le_refl _) _).more (by simp)
 have C:=K1 (new_ok A cap zs _ hr1 hcap hm h)
 clear hr1
 dsimp only at h1 h2 h3 h4
 have hn:=hnum
 simp only [numsOk,Bool.and_eq_true,Bool.or_eq_true,decide_eq_true_eq] at hn
 obtain ⟨⟨⟨⟨⟨k0,k1⟩,k2⟩,k3⟩,k4⟩,k56⟩:=hn
 dsimp only at hst
 have k5:(st != 0)=true:=by simpa using hst
 have k6:okSz st=true:=by rcases k56 with e | e;exact absurd e hst;exact e
 clear hst k56
 have Hnum:=K1 hnum
 have H0:=K1 h
 clear hnum h
 by_cases l1:ba<wo
 · have hfin:=K1 (code7 (zs:=zs) (c:=⟨sh,ra,mo,wo,ba,mi,st,bu,ch,wi,ca⟩) h1 h2 h3 h4 H0.out Hnum.out (.inl l1))
   go_enter Tryz.func58,Tryz.ntmps58
   go_wp2_with (first
    | (go_at_call 95;refine (size_any _ _).mono ?_;rintro e w' ⟨rfl,rfl⟩)
    | (go_at_call 59;refine C.out.mono ?_;rintro e w1 ⟨g,rfl,hb1,hg,hS⟩
       obtain ⟨c0,c1,c4,c5,c6,c7,c8,c9,c10,c11⟩:=cf_cells A zs.length cap sh ra mo wo ba mi st bu ch wi ca w w1 hb1))
   go_ret
   exact ⟨ret_int hfin.out.symm,((Below.refl _ _).alloc (Nat.le_refl _) _).trans (hb1.mono (by simp))⟩
 by_cases l2:1048576<ba
 · have hfin:=K1 (code7 (zs:=zs) (c:=⟨sh,ra,mo,wo,ba,mi,st,bu,ch,wi,ca⟩) h1 h2 h3 h4 H0.out Hnum.out (.inr l2))
   go_enter Tryz.func58,Tryz.ntmps58
   go_wp2_with (first
    | (go_at_call 95;refine (size_any _ _).mono ?_;rintro e w' ⟨rfl,rfl⟩)
    | (go_at_call 59;refine C.out.mono ?_;rintro e w1 ⟨g,rfl,hb1,hg,hS⟩
       obtain ⟨c0,c1,c4,c5,c6,c7,c8,c9,c10,c11⟩:=cf_cells A zs.length cap sh ra mo wo ba mi st bu ch wi ca w w1 hb1))
   go_ret
   exact ⟨ret_int hfin.out.symm,((Below.refl _ _).alloc (Nat.le_refl _) _).trans (hb1.mono (by simp))⟩
 · have hfin:=K1 (code0 (zs:=zs) (c:=⟨sh,ra,mo,wo,ba,mi,st,bu,ch,wi,ca⟩) h1 h2 h3 h4 H0.out Hnum.out l1 l2)
   go_enter Tryz.func58,Tryz.ntmps58
   go_wp2_with (first
    | (go_at_call 95;refine (size_any _ _).mono ?_;rintro e w' ⟨rfl,rfl⟩)
    | (go_at_call 59;refine C.out.mono ?_;rintro e w1 ⟨g,rfl,hb1,hg,hS⟩
       obtain ⟨c0,c1,c4,c5,c6,c7,c8,c9,c10,c11⟩:=cf_cells A zs.length cap sh ra mo wo ba mi st bu ch wi ca w w1 hb1))
   go_ret
   exact ⟨ret_int hfin.out.symm,((Below.refl _ _).alloc (Nat.le_refl _) _).trans (hb1.mono (by simp))⟩
theorem confCheck_any (A:Option Addr) (cap:Nat) (zs:List Int) (c:Cf) (w:World) (hr:RdI w w.heap.size A zs) (hcap:zs.length≤cap) (hm:zs.length≤9223372036854775807) :
  Calls Tryz.prog 58 #[cfVal A zs.length cap c] w (Coded w (confCode zs c)):=by
 by_cases h:shCode zs=0
 · by_cases hbad:c.wo<1∨64<c.wo∨c.sh<1∨62<c.sh
   · exact confCheck_ok1 A cap zs c w hr hcap hm h hbad
   · cases hn:numsOk c
     · exact confCheck_ok2 A cap zs c w hr hcap hm h (by omega) (by omega) (by omega) (by omega) hn
     · by_cases hst:c.st=0
       · exact confCheck_ok3 A cap zs c w hr hcap hm h (by omega) (by omega) (by omega) (by omega) hn hst
       · exact confCheck_ok4 A cap zs c w hr hcap hm h (by omega) (by omega) (by omega) (by omega) hn hst
 · exact confCheck_no A cap zs c w hr hcap hm h
end Go.Proofs.YtdpojpcoghcieaaGreat
