/- A part of the proof of TopBound: TopFew, RangeMem, Mat. Conditions: none. -/
import Derived.Test.YtdpojpcoghcieaaGreatBdBA
set_option maxHeartbeats 8000000
namespace Go.Proofs.YtdpojpcoghcieaaGreat
open Lib renaming hid → K1
open Go.RowKit
theorem Gi.check {g:Gi} {W:World} (ha:g.At W):Calls Tryz.prog 52 #[.agg g.cf.toArray] W fun e w'=>e=.returned (.int .i64 g.cc)∧Below W.heap.size W w':=by
 obtain ⟨A,cap,zs,DA,dcap,l,SA,scap,ss,RA,rcap,ds,sh,ra,mo,wo,ba,mi,st,bu,ch,wi,ca⟩:=g
 exact refConf_flat A cap zs sh ra mo wo ba mi st bu ch wi ca W ha.z ha.zm
theorem Gi.input {g:Gi} {W:World} (ha:g.At W):Calls Tryz.prog 22 #[.agg g.cells.toArray] W fun e w'=>e=.returned (.int .i64 g.code)∧Below W.heap.size W w':=by
 obtain ⟨A,cap,zs,DA,dcap,l,SA,scap,ss,RA,rcap,ds,sh,ra,mo,wo,ba,mi,st,bu,ch,wi,ca⟩:=g
 exact refInput_any A DA SA RA cap dcap ss.length scap ds.length rcap zs l sh ra mo wo ba mi st bu ch wi ca W ha.z ha.zm ha.l ha.lm
def Gi.few11 (g:Gi):Bool:=fewIn g.zs.length g.l g.ss.length g.ds.length
theorem Gi.few11_any {g:Gi} {W:World} (ha:g.At W):Calls Tryz.prog 130 #[.agg g.cells.toArray] W fun e w'=>e=.returned (.bool g.few11)∧Below W.heap.size W w':=by
 obtain ⟨A,cap,zs,DA,dcap,l,SA,scap,ss,RA,rcap,ds,sh,ra,mo,wo,ba,mi,st,bu,ch,wi,ca⟩:=g
 exact fewIn_any A DA SA RA cap dcap ss.length scap ds.length rcap zs l sh ra mo wo ba mi st bu ch wi ca W ha.l ha.lm ha.zm ha.sm ha.dm
def Gi.right (g:Gi):Bool:=decide (g.cc=0) && decide (1≤g.ss.length) && decide (g.ss.length≤1048576)
def Gi.few20 (g:Gi):Bool:=decide (g.zs.length≤40) && (!g.right || (decide (g.ss.length≤60) && decide (g.wo≤8) && decide (g.mi≤20) && decide (g.st≤12)))
def Gi.few14 (g:Gi):Bool:=g.few11 && (decide (g.cc≠0) || (decide (g.st≤12) && decide (cnt g.zs≤150) && decide (g.ba≤40)))
def Gi.few21 (g:Gi):Bool:=g.few14 && (decide (g.code≠0) || (g.few20 && decide (g.st≤6) && decide (g.l.length≤40)))
def Gi.few22 (g:Gi):Bool:=g.few21 && (decide (g.code≠0) || (decide (g.wo≤6) && decide (g.st≤5) && decide (g.ss.length≤40)))
def Gi.few (g:Gi) (n:Nat):Bool:=g.few22 && decide (g.code=0) && decide (n≤300)
set_option maxRecDepth 100000 in
theorem Gi.right_any {g:Gi} {w:World} (ha:g.At w):Calls Tryz.prog 131 #[.agg g.pl.toArray] w fun e w'=>e=.returned (.bool g.right)∧Below w.heap.size w w':=by
 have CC:=K1 (fun W (hb:Below w.heap.size w W)=>Gi.check (ha.below hb))
 have hsm:=ha.sm
 clear ha
 have hm:=(Mem.start w).alloc (.cells g.pl.toArray 82)
 have HM:=K1 hm
 clear hm
 have HD:=K1 (show g.right=(decide (g.cc=0) && decide (1≤g.ss.length) && decide (g.ss.length≤1048576)) from rfl)
 generalize g.right=res at *
 generalize g.cc=k at *
 obtain ⟨A,cap,zs,DA,dcap,l,SA,scap,ss,RA,rcap,ds,sh,ra,mo,wo,ba,mi,st,bu,ch,wi,ca⟩:=g
 dsimp only [Gi.pl,Gi.cf] at *
 generalize ss.length=n at *
 go_enter Tryz.func131,Tryz.ntmps131
 have c1:=HM.out.cells 1 rfl
 go_wp2_with fail
 refine (CC.out _ (HM.out.bel 0 rfl)).mono ?_
 rintro e w1 ⟨rfl,hb⟩
 replace HM:=K1 (HM.out.below hb)
 clear hb
 clear c1
 have c1:=HM.out.cells 1 rfl
 by_cases hz_k:k=0
 · subst hz_k
   by_cases h0:1≤n
   · by_cases h1:n≤1048576
     · go_wp2_with fail
       go_ret
       exact ⟨ret_bool (by rw [HD.out,Bool.eq_iff_iff];simp <;> omega),HM.out.bel 0 rfl⟩
     · go_wp2_with fail
       go_ret
       exact ⟨ret_bool (by rw [HD.out,Bool.eq_iff_iff];simp <;> omega),HM.out.bel 0 rfl⟩
   · go_wp2_with fail
     go_ret
     exact ⟨ret_bool (by rw [HD.out,Bool.eq_iff_iff];simp <;> omega),HM.out.bel 0 rfl⟩
 · have hz1_k:(k == 0)=false:=by simpa using hz_k
   have hz2_k:(k != 0)=true:=by simpa using hz_k
   go_wp2_with fail
   go_ret
   exact ⟨ret_bool (by rw [HD.out,Bool.eq_iff_iff];simp <;> omega),HM.out.bel 0 rfl⟩
set_option maxRecDepth 100000 in
theorem Gi.few20_any {g:Gi} {w:World} (ha:g.At w):Calls Tryz.prog 88 #[.agg g.pl.toArray] w fun e w'=>e=.returned (.bool g.few20)∧Below w.heap.size w w':=by
 have CC:=K1 (fun W (hb:Below w.heap.size w W)=>Gi.right_any (ha.below hb))
 have hsm:=ha.sm
 have hzm:=ha.zm
 clear ha
 have hm:=(Mem.start w).alloc (.cells g.pl.toArray 82)
 have HM:=K1 hm
 clear hm
 have HD:=K1 (show g.few20=(decide (g.zs.length≤40) && (!g.right || (decide (g.ss.length≤60) && decide (g.wo≤8) && decide (g.mi≤20) && decide (g.st≤12)))) from rfl)
 generalize g.few20=res at *
 generalize g.right=r at *
 obtain ⟨A,cap,zs,DA,dcap,l,SA,scap,ss,RA,rcap,ds,sh,ra,mo,wo,ba,mi,st,bu,ch,wi,ca⟩:=g
 dsimp only [Gi.pl,Gi.cf] at *
 generalize ss.length=n at *
 generalize zs.length=m at *
 go_enter Tryz.func88,Tryz.ntmps88
 have c1:=HM.out.cells 1 rfl
 by_cases h0:m≤40
 · have h0':¬ 40<m:=by omega
   go_wp2_with fail
   refine (CC.out _ (HM.out.bel 0 rfl)).mono ?_
   rintro e w1 ⟨rfl,hb⟩
   replace HM:=K1 (HM.out.below hb)
   clear hb
   clear c1
   have c1:=HM.out.cells 1 rfl
   cases r
   · go_wp2_with fail
     go_ret
     exact ⟨ret_bool (by rw [HD.out,Bool.eq_iff_iff];simp <;> omega),HM.out.bel 0 rfl⟩
   · by_cases h0:n≤60
     · by_cases h1:wo≤8
       · by_cases h2:mi≤20
         · by_cases h3:st≤12
           · go_wp2_with fail
             go_ret
             exact ⟨ret_bool (by rw [HD.out,Bool.eq_iff_iff];simp <;> omega),HM.out.bel 0 rfl⟩
           · go_wp2_with fail
             go_ret
             exact ⟨ret_bool (by rw [HD.out,Bool.eq_iff_iff];simp <;> omega),HM.out.bel 0 rfl⟩
         · go_wp2_with fail
           go_ret
           exact ⟨ret_bool (by rw [HD.out,Bool.eq_iff_iff];simp <;> omega),HM.out.bel 0 rfl⟩
       · go_wp2_with fail
         go_ret
         exact ⟨ret_bool (by rw [HD.out,Bool.eq_iff_iff];simp <;> omega),HM.out.bel 0 rfl⟩
     · go_wp2_with fail
       go_ret
       exact ⟨ret_bool (by rw [HD.out,Bool.eq_iff_iff];simp <;> omega),HM.out.bel 0 rfl⟩
 · have h0':40<m:=by omega
   go_wp2_with fail
   go_ret
   exact ⟨ret_bool (by rw [HD.out,Bool.eq_iff_iff];simp <;> omega),HM.out.bel 0 rfl⟩
theorem all_of {zs:List Int} (h:shCode zs=0):zs.all okSz=true:=by
 unfold shCode at h
 split at h
 · cases h
 split at h
 · cases h
 · next hq2 hq3 =>
   cases hb:zs.all okSz
   · first | exact absurd hb hq2 | exact absurd hb hq3 | exact absurd hb (by assumption)
   · rfl
set_option maxRecDepth 100000 in
theorem Gi.few14_any {g:Gi} {w:World} (ha:g.At w):Calls Tryz.prog 87 #[.agg g.cells.toArray] w fun e w'=>e=.returned (.bool g.few14)∧Below w.heap.size w w':=by
 have CC:=K1 (fun W (hb:Below w.heap.size w W)=>Gi.check (ha.below hb))
 have CF:=K1 (fun W (hb:Below w.heap.size w W)=>Gi.few11_any (ha.below hb))
 have CN:=K1 (fun (h:g.cc=0) W (hb:Below w.heap.size w W)=>refCount_any g.A g.cap g.zs W (ha.below hb).z (sizes_two (conf_zero h).2.2.2).2 (all_of (conf_zero h).2.2.2))
 clear ha
 have hm:=((Mem.start w).alloc (.cells g.cells.toArray 29)).alloc (.cells g.cf.toArray 24)
 simp only [World.size_alloc] at hm
 have HM:=K1 hm
 clear hm
 have HD:=K1 (show g.few14=(g.few11 && (decide (g.cc≠0) || (decide (g.st≤12) && decide (cnt g.zs≤150) && decide (g.ba≤40)))) from rfl)
 generalize g.few14=res at *
 generalize g.few11=r at *
 generalize g.cc=k at *
 obtain ⟨A,cap,zs,DA,dcap,l,SA,scap,ss,RA,rcap,ds,sh,ra,mo,wo,ba,mi,st,bu,ch,wi,ca⟩:=g
 dsimp only [Gi.cells,Gi.cf] at *
 generalize cnt zs=cn at *
 go_enter Tryz.func87,Tryz.ntmps87
 have c1:=HM.out.cells 1 rfl
 have c2:=HM.out.cells 2 rfl
 go_wp2_with fail
 refine (CF.out _ (HM.out.bel 0 rfl)).mono ?_
 rintro e w1 ⟨rfl,hb⟩
 replace HM:=K1 (HM.out.below hb)
 clear hb
 clear c1 c2
 have c1:=HM.out.cells 1 rfl
 have c2:=HM.out.cells 2 rfl
 cases r
 · go_wp2_with fail
   refine (CF.out _ (HM.out.bel 0 rfl)).mono ?_
   rintro e w2 ⟨rfl,hb⟩
   replace HM:=K1 (HM.out.below hb)
   clear hb
   clear c1 c2
   have c1:=HM.out.cells 1 rfl
   have c2:=HM.out.cells 2 rfl
   go_wp2_with fail
   go_ret
   exact ⟨ret_bool (by rw [HD.out,Bool.eq_iff_iff];simp <;> omega),HM.out.bel 0 rfl⟩
 · go_wp2_with fail
   refine (CC.out _ (HM.out.bel 0 rfl)).mono ?_
   rintro e w2 ⟨rfl,hb⟩
   replace HM:=K1 (HM.out.below hb)
   clear hb
   clear c1 c2
   have c1:=HM.out.cells 1 rfl
   have c2:=HM.out.cells 2 rfl
   by_cases hz_k:k=0
   · subst hz_k
     by_cases h1:st≤12
     · go_wp2_with fail
       refine (CN.out (by trivial) _ (HM.out.bel 0 rfl)).mono ?_
       rintro e w3 ⟨rfl,nq,rfl⟩
       replace HM:=K1 (HM.out.drewN nq)
       clear c1 c2
       have c1:=HM.out.cells 1 rfl
       have c2:=HM.out.cells 2 rfl
       by_cases h0:cn≤150
       · by_cases h1:ba≤40
         · go_wp2_with fail
           go_ret
           exact ⟨ret_bool (by rw [HD.out,Bool.eq_iff_iff];simp <;> omega),HM.out.bel 0 rfl⟩
         · go_wp2_with fail
           go_ret
           exact ⟨ret_bool (by rw [HD.out,Bool.eq_iff_iff];simp <;> omega),HM.out.bel 0 rfl⟩
       · go_wp2_with fail
         go_ret
         exact ⟨ret_bool (by rw [HD.out,Bool.eq_iff_iff];simp <;> omega),HM.out.bel 0 rfl⟩
     · go_wp2_with fail
       go_ret
       exact ⟨ret_bool (by rw [HD.out,Bool.eq_iff_iff];simp <;> omega),HM.out.bel 0 rfl⟩
   · have hz1_k:(k == 0)=false:=by simpa using hz_k
     have hz2_k:(k != 0)=true:=by simpa using hz_k
     go_wp2_with fail
     refine (CF.out _ (HM.out.bel 0 rfl)).mono ?_
     rintro e w3 ⟨rfl,hb⟩
     replace HM:=K1 (HM.out.below hb)
     clear hb
     clear c1 c2
     have c1:=HM.out.cells 1 rfl
     have c2:=HM.out.cells 2 rfl
     go_wp2_with fail
     go_ret
     exact ⟨ret_bool (by rw [HD.out,Bool.eq_iff_iff];simp <;> omega),HM.out.bel 0 rfl⟩
set_option maxRecDepth 100000 in
theorem Gi.plan_any {g:Gi} (w:World):Calls Tryz.prog 24 #[.agg g.cells.toArray] w fun e w'=>e=.returned (.agg g.pl.toArray)∧Below w.heap.size w w':=by
 have hm:=((Mem.start w).alloc (.cells g.cells.toArray 29)).alloc (.cells #[.slice none 0 0,.int .i64 0,.int .i64 0,.int .i64 0,.int .i64 0,.int .i64 0,.int .i64 0,.int .i64 0,.int .i64 0,.int .i64 0,.int .i64 0,.int .i64 0,.int .i64 0] 82)
 simp only [World.size_alloc] at hm
 have HM:=K1 hm
 clear hm
 obtain ⟨A,cap,zs,DA,dcap,l,SA,scap,ss,RA,rcap,ds,sh,ra,mo,wo,ba,mi,st,bu,ch,wi,ca⟩:=g
 dsimp only [Gi.cells,Gi.pl] at *
 go_enter Tryz.func24,Tryz.ntmps24
 have c1:=HM.out.cells 1 rfl
 have c2:=HM.out.cells 2 rfl
 have f2:=fun j=>HM.out.frozen 2 j rfl
 have hp:=(((Mem.start w).alloc (.cells #[.slice A zs.length cap,.int .i64 sh,.int .i64 ra,.int .i64 mo,.int .i64 wo,.int .i64 ba,.int .i64 mi,.int .i64 st,.int .i64 bu,.int .i64 ch,.int .i64 wi,.int .i64 ca,.slice DA l.length dcap,.slice SA ss.length scap,.slice RA ds.length rcap] 29)).alloc (.cells #[.slice A zs.length cap,.int .i64 sh,.int .i64 ra,.int .i64 mo,.int .i64 wo,.int .i64 ba,.int .i64 mi,.int .i64 st,.int .i64 bu,.int .i64 ch,.int .i64 wi,.int .i64 ca,.int .i64 ss.length] 82))
 simp only [World.size_alloc] at hp
 have HP:=K1 hp
 clear hp
 go_wp2_with fail
 clear c1 c2 f2
 have c2:=HP.out.cells 2 rfl
 refine bodyPost_ret (v:=.agg #[.slice A zs.length cap,.int .i64 sh,.int .i64 ra,.int .i64 mo,.int .i64 wo,.int .i64 ba,.int .i64 mi,.int .i64 st,.int .i64 bu,.int .i64 ch,.int .i64 wi,.int .i64 ca,.int .i64 ss.length]) ?_ rfl ⟨rfl,HP.out.bel 0 rfl⟩
 simp [results,Tryz.results24,go_sem,c2]
set_option maxRecDepth 100000 in
theorem Gi.few21_any {g:Gi} {w:World} (ha:g.At w):Calls Tryz.prog 51 #[.agg g.cells.toArray] w fun e w'=>e=.returned (.bool g.few21)∧Below w.heap.size w w':=by
 have CF:=K1 (fun W (hb:Below w.heap.size w W)=>Gi.few14_any (ha.below hb))
 have CI:=K1 (fun W (hb:Below w.heap.size w W)=>Gi.input (ha.below hb))
 have CP:=K1 (fun W (_:Below w.heap.size w W)=>Gi.plan_any (g:=g) W)
 have CG:=K1 (fun W (hb:Below w.heap.size w W)=>Gi.few20_any (ha.below hb))
 have hlm:=ha.lm
 clear ha
 have hm:=(Mem.start w).alloc (.cells g.cells.toArray 29)
 have HM:=K1 hm
 clear hm
 have HD:=K1 (show g.few21=(g.few14 && (decide (g.code≠0) || (g.few20 && decide (g.st≤6) && decide (g.l.length≤40)))) from rfl)
 generalize g.few21=res at *
 generalize g.few14=r at *
 generalize g.few20=q at *
 generalize g.code=k at *
 obtain ⟨A,cap,zs,DA,dcap,l,SA,scap,ss,RA,rcap,ds,sh,ra,mo,wo,ba,mi,st,bu,ch,wi,ca⟩:=g
 dsimp only [Gi.cells,Gi.pl] at *
 generalize l.length=n at *
 go_enter Tryz.func51,Tryz.ntmps51
 have c1:=HM.out.cells 1 rfl
 go_wp2_with fail
 refine (CF.out _ (HM.out.bel 0 rfl)).mono ?_
 rintro e w1 ⟨rfl,hb⟩
 replace HM:=K1 (HM.out.below hb)
 clear hb
 clear c1
 have c1:=HM.out.cells 1 rfl
 cases r
 · go_wp2_with fail
   go_ret
   exact ⟨ret_bool (by rw [HD.out,Bool.eq_iff_iff];simp <;> omega),HM.out.bel 0 rfl⟩
 · go_wp2_with fail
   refine (CI.out _ (HM.out.bel 0 rfl)).mono ?_
   rintro e w2 ⟨rfl,hb⟩
   replace HM:=K1 (HM.out.below hb)
   clear hb
   clear c1
   have c1:=HM.out.cells 1 rfl
   by_cases hz_k:k=0
   · subst hz_k
     go_wp2_with fail
     refine (CP.out _ (HM.out.bel 0 rfl)).mono ?_
     rintro e w3 ⟨rfl,hb⟩
     replace HM:=K1 (HM.out.below hb)
     clear hb
     clear c1
     have c1:=HM.out.cells 1 rfl
     go_wp2_with fail
     refine (CG.out _ (HM.out.bel 0 rfl)).mono ?_
     rintro e w4 ⟨rfl,hb⟩
     replace HM:=K1 (HM.out.below hb)
     clear hb
     clear c1
     have c1:=HM.out.cells 1 rfl
     cases q
     · go_wp2_with fail
       go_ret
       exact ⟨ret_bool (by rw [HD.out,Bool.eq_iff_iff];simp <;> omega),HM.out.bel 0 rfl⟩
     · by_cases h0:st≤6
       · by_cases h1:n≤40
         · go_wp2_with fail
           go_ret
           exact ⟨ret_bool (by rw [HD.out,Bool.eq_iff_iff];simp <;> omega),HM.out.bel 0 rfl⟩
         · go_wp2_with fail
           go_ret
           exact ⟨ret_bool (by rw [HD.out,Bool.eq_iff_iff];simp <;> omega),HM.out.bel 0 rfl⟩
       · go_wp2_with fail
         go_ret
         exact ⟨ret_bool (by rw [HD.out,Bool.eq_iff_iff];simp <;> omega),HM.out.bel 0 rfl⟩
   · have hz1_k:(k == 0)=false:=by simpa using hz_k
     have hz2_k:(k != 0)=true:=by simpa using hz_k
     go_wp2_with fail
     go_ret
     exact ⟨ret_bool (by rw [HD.out,Bool.eq_iff_iff];simp <;> omega),HM.out.bel 0 rfl⟩
set_option maxRecDepth 100000 in
theorem Gi.few22_any {g:Gi} {w:World} (ha:g.At w):Calls Tryz.prog 21 #[.agg g.cells.toArray] w fun e w'=>e=.returned (.bool g.few22)∧Below w.heap.size w w':=by
 have CF:=K1 (fun W (hb:Below w.heap.size w W)=>Gi.few21_any (ha.below hb))
 have CI:=K1 (fun W (hb:Below w.heap.size w W)=>Gi.input (ha.below hb))
 have hsm:=ha.sm
 clear ha
 have hm:=(Mem.start w).alloc (.cells g.cells.toArray 29)
 have HM:=K1 hm
 clear hm
 have HD:=K1 (show g.few22=(g.few21 && (decide (g.code≠0) || (decide (g.wo≤6) && decide (g.st≤5) && decide (g.ss.length≤40)))) from rfl)
 generalize g.few22=res at *
 generalize g.few21=r at *
 generalize g.code=k at *
 obtain ⟨A,cap,zs,DA,dcap,l,SA,scap,ss,RA,rcap,ds,sh,ra,mo,wo,ba,mi,st,bu,ch,wi,ca⟩:=g
 dsimp only [Gi.cells] at *
 generalize ss.length=n at *
 go_enter Tryz.func21,Tryz.ntmps21
 have c1:=HM.out.cells 1 rfl
 go_wp2_with fail
 refine (CF.out _ (HM.out.bel 0 rfl)).mono ?_
 rintro e w1 ⟨rfl,hb⟩
 replace HM:=K1 (HM.out.below hb)
 clear hb
 clear c1
 have c1:=HM.out.cells 1 rfl
 cases r
 · go_wp2_with fail
   go_ret
   exact ⟨ret_bool (by rw [HD.out,Bool.eq_iff_iff];simp <;> omega),HM.out.bel 0 rfl⟩
 · go_wp2_with fail
   refine (CI.out _ (HM.out.bel 0 rfl)).mono ?_
   rintro e w2 ⟨rfl,hb⟩
   replace HM:=K1 (HM.out.below hb)
   clear hb
   clear c1
   have c1:=HM.out.cells 1 rfl
   by_cases hz_k:k=0
   · subst hz_k
     by_cases h0:wo≤6
     · by_cases h1:st≤5
       · by_cases h2:n≤40
         · go_wp2_with fail
           go_ret
           exact ⟨ret_bool (by rw [HD.out,Bool.eq_iff_iff];simp <;> omega),HM.out.bel 0 rfl⟩
         · go_wp2_with fail
           go_ret
           exact ⟨ret_bool (by rw [HD.out,Bool.eq_iff_iff];simp <;> omega),HM.out.bel 0 rfl⟩
       · go_wp2_with fail
         go_ret
         exact ⟨ret_bool (by rw [HD.out,Bool.eq_iff_iff];simp <;> omega),HM.out.bel 0 rfl⟩
     · go_wp2_with fail
       go_ret
       exact ⟨ret_bool (by rw [HD.out,Bool.eq_iff_iff];simp <;> omega),HM.out.bel 0 rfl⟩
   · have hz1_k:(k == 0)=false:=by simpa using hz_k
     have hz2_k:(k != 0)=true:=by simpa using hz_k
     go_wp2_with fail
     go_ret
     exact ⟨ret_bool (by rw [HD.out,Bool.eq_iff_iff];simp <;> omega),HM.out.bel 0 rfl⟩
set_option maxRecDepth 100000 in
theorem Gi.few_any {g:Gi} {w:World} (ha:g.At w) (B:Option Addr) (n m:Nat) (hn:n≤9223372036854775807):Calls Tryz.prog 6 #[.agg g.cells.toArray,.slice B n m] w fun e w'=>e=.returned (.bool (g.few n))∧Below w.heap.size w w':=by
 have CF:=K1 (fun W (hb:Below w.heap.size w W)=>Gi.few22_any (ha.below hb))
 have CI:=K1 (fun W (hb:Below w.heap.size w W)=>Gi.input (ha.below hb))
 clear ha
 have hm:=(Mem.start w).alloc (.cells g.cells.toArray 29)
 have HM:=K1 hm
 clear hm
 have HD:=K1 (show g.few n=(g.few22 && decide (g.code=0) && decide (n≤300)) from rfl)
 generalize g.few n=res at *
 generalize g.few22=r at *
 generalize g.code=k at *
 obtain ⟨A,cap,zs,DA,dcap,l,SA,scap,ss,RA,rcap,ds,sh,ra,mo,wo,ba,mi,st,bu,ch,wi,ca⟩:=g
 dsimp only [Gi.cells] at *
 go_enter Tryz.func6,Tryz.ntmps6
 have c1:=HM.out.cells 1 rfl
 go_wp2_with fail
 refine (CF.out _ (HM.out.bel 0 rfl)).mono ?_
 rintro e w1 ⟨rfl,hb⟩
 replace HM:=K1 (HM.out.below hb)
 clear hb
 clear c1
 have c1:=HM.out.cells 1 rfl
 cases r
 · go_wp2_with fail
   go_ret
   exact ⟨ret_bool (by rw [HD.out,Bool.eq_iff_iff];simp <;> omega),HM.out.bel 0 rfl⟩
 · go_wp2_with fail
   refine (CI.out _ (HM.out.bel 0 rfl)).mono ?_
   rintro e w2 ⟨rfl,hb⟩
   replace HM:=K1 (HM.out.below hb)
   clear hb
   clear c1
   have c1:=HM.out.cells 1 rfl
   by_cases hz_k:k=0
   · subst hz_k
     by_cases h0:n≤300
     · go_wp2_with fail
       go_ret
       exact ⟨ret_bool (by rw [HD.out,Bool.eq_iff_iff];simp <;> omega),HM.out.bel 0 rfl⟩
     · go_wp2_with fail
       go_ret
       exact ⟨ret_bool (by rw [HD.out,Bool.eq_iff_iff];simp <;> omega),HM.out.bel 0 rfl⟩
   · have hz1_k:(k == 0)=false:=by simpa using hz_k
     have hz2_k:(k != 0)=true:=by simpa using hz_k
     go_wp2_with fail
     go_ret
     exact ⟨ret_bool (by rw [HD.out,Bool.eq_iff_iff];simp <;> omega),HM.out.bel 0 rfl⟩
theorem cnt_pos:∀ {zs:List Int},2≤zs.length→zs.all okSz=true→1≤cnt zs
 | a::b::r,_,h=>by
   have ha:=okSz_iff.1 (List.all_eq_true.1 h a (List.mem_cons_self ..))
   have hb:=okSz_iff.1 (List.all_eq_true.1 h b (List.mem_cons_of_mem _ (List.mem_cons_self ..)))
   have hr:=(cnt_bd (b::r) fun z hz=>List.all_eq_true.1 h z (List.mem_cons_of_mem _ hz)).1
   have hm:1*1≤(a+1)*b:=Int.mul_le_mul (by omega) hb.1 (by omega) (by omega)
   simp only [cnt]
   omega
theorem Gi.few_small {g:Gi} {n:Nat} (h:g.few n=true):g.Small∧n≤300:=by
 unfold Gi.few Gi.few22 Gi.few21 at h
 simp only [Bool.and_eq_true,Bool.or_eq_true,decide_eq_true_eq] at h
 obtain ⟨⟨⟨⟨h1,h2⟩,h3⟩,h4⟩,h5⟩:=h
 have hc:¬ g.code≠0:=by omega
 have h2:=h2.resolve_left hc
 have h3:=h3.resolve_left hc
 have hcc:g.cc=0:=by
  by_cases hk:g.cc=0
  · exact hk
  · unfold Gi.code inCode at h4
    rw [if_pos hk] at h4
    exact absurd h4 hk
 have hf:g.few11=true:=by
  unfold Gi.few14 at h1
  simp only [Bool.and_eq_true] at h1
  exact h1.1
 unfold Gi.few11 fewIn at hf
 simp only [Bool.and_eq_true,decide_eq_true_eq] at hf
 have hmi:g.mi≤20:=by
  have hq:=h2.1.1
  have hr:g.right=true:=by
   have hs:=(conf_zero hcc).2.2.2
   have hcn:(g.ss.length:Int)=cnt g.zs:=by
    have h5:=h4
    unfold Gi.code at h5
    rw [hcc] at h5
    unfold inCode at h5
    rw [if_neg (by omega)] at h5
    split at h5
    · cases h5
    split at h5
    · cases h5
    · rename_i _ hx
      exact Decidable.byContradiction fun hc=>hx (.inr hc)
   have hpos:=cnt_pos (sizes_two hs).1 (all_of hs)
   unfold Gi.right
   simp only [Bool.and_eq_true,decide_eq_true_eq]
   omega
  unfold Gi.few20 at hq
  rw [hr] at hq
  simp only [Bool.and_eq_true,Bool.or_eq_true,decide_eq_true_eq,Bool.not_true,Bool.false_eq_true,false_or] at hq
  exact hq.2.1.2
 exact ⟨⟨h4,h3.1.1,h3.1.2,h3.2,h2.2,hmi,hf.2⟩,h5⟩
def bodyOk (K:World→Prop):Exit→Act→World→Prop
 | .normal,_,W=>K W
 | _,_,_=>False
def loopP (D l:Nat) (o:Obj):List Ch:=[.obj D (.deferred (some [])),.obj l o]
theorem Mem.loop {w W1:World} {L:List Ch} {o:Obj} (h:Mem w L) (hd:W1.heap[w.heap.size]?=some (.deferred (some []))) (hl:W1.heap[w.heap.size+1]?=some o) (hb:Below w.heap.size w W1):Mem W1 (L++loopP w.heap.size (w.heap.size+1) o):=by
 have h1:=h.push (c:=.obj w.heap.size (.deferred (some []))) hb hd (fun g hg=>by cases hg;exact Nat.le_refl _)
 have h2:=h1.add (c:=.obj (w.heap.size+1) o) hl (fun i d hi _ g hg hg2=>by
  cases hg
  rcases snoc_at hi with ⟨_,h3⟩ | ⟨_,rfl⟩
  · have:=Ch.lt (h.holds i d h3) hg2
    omega
  · have:w.heap.size+1=w.heap.size:=hg2
    omega)
 rw [List.append_assoc] at h2
 exact h2
theorem loopP_at {L M:List Ch} {D l:Nat} {o:Obj}:(L++loopP D l o++M)[L.length+1]?=some (.obj l o):=by
 rw [List.append_assoc,List.getElem?_append_right (by omega),Nat.add_sub_cancel_left]
 rfl
theorem loopP_set {L M:List Ch} {D l:Nat} {o o':Obj}:(L++loopP D l o++M).set (L.length+1) (.obj l o')=L++loopP D l o'++M:=by
 rw [List.append_assoc,List.set_append_right _ _ (by omega),Nat.add_sub_cancel_left,List.append_assoc]
 rfl
theorem Mem.putL {W:World} {L M:List Ch} {D l:Nat} {o:Obj} (h:Mem W (L++loopP D l o++M)) (o':Obj):Mem (W.putObj l o') (L++loopP D l o'++M):=by
 have h1:=h.put loopP_at o'
 rwa [loopP_set] at h1
theorem wpIn_range_mem {P:Program} {n:Nat} {g:Operand} {ps:Array Tmp} {assign body:Code} {Q:Exit→Act→World→Prop} {a:Act} {w:World} {gf:Nat} {lb:Array Value}
  (hg:a.eval g=.func (.func gf) #[] lb) (eg:∀ args w,(callFunc gf args).run P w=.ok (.enter gf args) w)
  (S:Nat→List Ch→Prop) (m:Nat) (args:Nat→Array Value) (h0:∃ L,S 0 L∧Mem w L) (hps:∀ k,(args k).size=ps.size)
  (hI:∀ (l:Nat) (J:Nat→World→Prop),(∀ k W,J k W→∃ L M,S k L∧Mem W (L++M))→(∀ k W W',J k W→Below W.heap.size W W'→J k W') →
   (∀ k W,k<m→J k W→YieldAt Fence.wide (n-1-1) P l (args k) W fun e W'=>e=.returned (.bool true)∧J (k+1) W') →
   ∀ W,J 0 W→CallsIn Fence.wide (n-1) P gf (#[.func (.yield l) #[] #[]]++lb) W fun e W'=>(∃ v,e=.returned v)∧J m W')
  (hB:∀ (k D l:Nat) (o:Obj) (L:List Ch) (W:World),k<m→S k L→Mem W (L++loopP D l o) →
   assign.wpIn (Fence.wide.inRound l) (n-1-1) P (Exit.then (fun a1 w1=>∃ M,Mem w1 (L++loopP D l o++M)∧∀ (o':Obj) (w2:World),Mem w2 (L++loopP D l o'++M) →
    body.wpIn (Fence.wide.inRound l) (n-1-1) P (bodyOk fun W'=>∃ L' M',S (k+1) L'∧Mem W' (L'++loopP D l o'++M')) a1 w2) (fun _ _ _=>False)) { tmps:=(ps.zip (args k)).foldl (fun tmps (t,a)=>tmps.setIfInBounds t a) a.tmps,defers:=[] } W)
  (hQ:∀ (D l:Nat) (o:Obj) (L:List Ch) (W:World),S m L→Mem W (L++loopP D l o)→Q .normal { a with defers:=[{ target:=.collected D,args:=#[] }]++a.defers } W) :
  (Code.rangeFunc g ps assign body).wpIn Fence.wide n P Q a w:=by
 refine wpIn_range_w hg eg fun fn rec W1 hrec hl1 hd1 hb1=>?_
 obtain ⟨L0,hS0,hM0⟩:=h0
 have HJ:=hM0.loop hd1 hl1 hb1
 refine (hI (w.heap.size+1) (fun k W=>∃ L,S k L∧Mem W (L++loopP w.heap.size (w.heap.size+1) (.loop (rec .ready none)))) (fun k W ⟨L,h1,h2⟩=>⟨L,_,h1,h2⟩) (fun k W W' ⟨L,h1,h2⟩ hb=>⟨L,h1,h2.below hb⟩) (fun k W hk h=>?_) W1 ⟨L0,hS0,HJ⟩).mono ?_
 · obtain ⟨L,hS,h⟩:=h
   have hr:W.heap[w.heap.size+1]?=some (.loop (rec .ready none)):=h.obj _ (by have:=loopP_at (L:=L) (M:=[]) (D:=w.heap.size) (l:=w.heap.size+1) (o:=.loop (rec .ready none));rwa [List.append_nil] at this)
   have hy:=run_yield (P:=P) (args:=args k) hr (by rw [hrec];exact hps k)
   rw [hrec] at hy
   refine ⟨fn,_,_,_,hy,roundIn_of_wpIn trivial ?_⟩
   refine wpIn_mono (hB k _ _ _ L W hk hS h) ?_
   intro e a1 w1 hq
   cases e with
   | normal =>
     obtain ⟨M,hM,hb⟩:=hq
     have hr1:w1.heap[w.heap.size+1]?=some (.loop (rec .ready none)):=hM.obj _ loopP_at
     refine ⟨_,run_beginRound (P:=P) hr1 (by rw [hrec]),?_⟩
     refine wpIn_mono (hb _ _ (hM.putL _)) ?_
     intro e a2 w2 hq2
     cases e with
     | normal =>
       obtain ⟨L',M',hS',hM'⟩:=hq2
       refine ⟨_,_,run_endRound (P:=P) none (hM'.obj _ loopP_at),rfl,L',hS',?_⟩
       have h3:=(hM'.putL (.loop { rec .ready none with state:=.ready,pending:=none })).left
       have he:({ rec .ready none with state:=.ready,pending:=none }:Loop)=rec .ready none:=by rw [hrec]
       rw [he] at h3
       exact (by rw [hrec] at h3 ⊢;exact h3)
     | _=>exact hq2.elim
   | _=>exact hq.elim
 · rintro e W2 ⟨⟨v0,rfl⟩,L,hS,h2⟩
   have hr2:W2.heap[w.heap.size+1]?=some (.loop (rec .ready none)):=h2.obj _ (by have:=loopP_at (L:=L) (M:=[]) (D:=w.heap.size) (l:=w.heap.size+1) (o:=.loop (rec .ready none));rwa [List.append_nil] at this)
   have hend:=run_endLoop (P:=P) hr2 (by simp [hrec])
   have hp:(rec .ready none).pending=none:=by rw [hrec]
   replace hend:=hend.trans (congrArg (fun p=>Result.ok p _) hp)
   have h3:Mem W2 (L++loopP w.heap.size (w.heap.size+1) (.loop (rec .ready none))++[]):=by rw [List.append_nil];exact h2
   have h4:=(h3.putL (.loop { rec .ready none with state:=.exhausted })).left
   exact ⟨_,_,hend,hQ _ _ _ L _ hS h4⟩
end Go.Proofs.YtdpojpcoghcieaaGreat
namespace Go.Proofs.YtdpojpcoghcieaaGreat
open Lib renaming hid → K1
open Go.RowKit Go.Shelf
abbrev matV (r c:Nat) (A:Option Addr) (n cap:Nat):Value:=.agg #[.int .i64 r,.int .i64 c,.slice A n cap]
def matB (g r c:Nat) (A:Option Addr) (n cap:Nat):Ch:=.obj g (.cells #[.int .i64 r,.int .i64 c,.slice A n cap] 333 (0,0))
set_option maxRecDepth 100000 in
theorem sides_any (w:World) (r c:Nat) (hr:1≤r∧r≤1048576) (hc:1≤c∧c≤1048576) :
  Calls Tryz.prog 239 #[.int .i64 r,.int .i64 c] w fun e w'=>e=.returned (.bool true)∧w=w':=by
 obtain ⟨hr1,hr2⟩:=hr
 obtain ⟨hc1,hc2⟩:=hc
 go_enter Tryz.func239,Tryz.ntmps239
 go_wp2
 all_goals
  go_ret
  exact ⟨by simp;omega,rfl⟩
set_option maxRecDepth 100000 in
theorem right_any (w:World) (r c n cap:Nat) (A:Option Addr) (hr:1≤r∧r≤1048576) (hc:1≤c∧c≤1048576) (hn:n=r*c) (hn2:n≤1048576) :
  Calls Tryz.prog 230 #[matV r c A n cap] w fun e w'=>e=.returned (.bool true)∧Below w.heap.size w w':=by
 have CS:=K1 (fun W=>sides_any W r c hr hc)
 have HM:=K1 ((Mem.start w).alloc (.cells #[.int .i64 r,.int .i64 c,.slice A n cap] 333))
 have e1:(r:Int)*(c:Int)=(n:Int):=by rw [hn,Int.natCast_mul]
 clear hn
 go_enter Tryz.func230,Tryz.ntmps230
 have c0:=HM.out.cells 1 rfl
 go_wp2_with fail
 (with_reducible refine (CS.out _).mono ?_)
 rintro e w1 ⟨rfl,rfl⟩
 clear CS
 go_wp2_with fail
 all_goals
  go_ret
  exact ⟨rfl,HM.out.bel 0 rfl⟩
set_option maxRecDepth 100000 in
theorem row_any (w:World) (A:Option Addr) (r c n cap k lo:Nat) (hlo:lo=k*c) (hc:1≤c) (hn:lo+c≤n) (hcap:n≤cap) (hm:n≤1048576) (hk:k≤1048576) :
  Calls Tryz.prog 245 #[matV r c A n cap,.int .i64 k] w fun e w'=>e=.returned (.slice (A.map fun p=>p.add lo) c c)∧Below w.heap.size w w':=by
 have HM:=K1 ((Mem.start w).alloc (.cells #[.int .i64 r,.int .i64 c,.slice A n cap] 333))
 obtain ⟨hi,hhi⟩:∃ hi,hi=lo+c:=⟨_,rfl⟩
 have e1:(k:Int)*(c:Int)=(lo:Int):=by rw [hlo,Int.natCast_mul]
 have e2:((k:Int)+1)*(c:Int)=(hi:Int):=by rw [Int.add_mul,e1];omega
 have h1:lo≤hi:=by omega
 have h2:hi≤cap:=by omega
 have h3:hi≤1048576:=by omega
 have h4:¬ hi=lo:=by omega
 have h5:hi-lo=c:=by omega
 have h6:(hi:Int)-(lo:Int)=(c:Int):=by omega
 clear hlo hhi hn
 have c0:=HM.out.cells 1 rfl
 go_enter Tryz.func245,Tryz.ntmps245
 go_wp2_with fail
 go_region
 go_wp2_with fail
 go_ret
 exact ⟨rfl,below_drew (HM.out.bel 0 rfl)⟩
theorem rows_any (A:Option Addr) (r c n cap:Nat) (w:World) :
  Calls Tryz.prog 235 #[matV r c A n cap] w fun e w'=>e=.returned (.func (.func 244) #[] #[.pointer (some ⟨w.heap.size,0,none⟩)])∧w'=w.alloc (.cells #[.int .i64 r,.int .i64 c,.slice A n cap] 333):=by
 go_enter Tryz.func235,Tryz.ntmps235
 go_wp2
 go_ret
 exact ⟨rfl,rfl⟩
def rowArgs (A:Option Addr) (c k:Nat):Array Value:=#[.int .i64 k,.slice (A.map fun p=>p.add (k*c)) c c]
set_option maxRecDepth 100000 in
theorem rows1_in (n l Bm r c N cap:Nat) (A:Option Addr) (hc:1≤c) (hN:N=r*c) (hcap:N≤cap) (hm:N≤1048576) (hr:r≤1048576) (J:Nat→World→Prop)
  (hE:∀ k W,J k W→∀ i,W.cell? ⟨Bm,i,none⟩=([.int .i64 r,.int .i64 c,.slice A N cap]:List Value)[i]?) (hJ:∀ k W W',J k W→Below W.heap.size W W'→J k W')
  (hY:∀ k W,k<r→J k W→YieldAt Fence.wide (n-1) Tryz.prog l (rowArgs A c k) W fun e W'=>e=.returned (.bool true)∧J (k+1) W')
  (W:World) (h0:J 0 W):CallsIn Fence.wide n Tryz.prog 244 #[.func (.yield l) #[] #[],.pointer (some ⟨Bm,0,none⟩)] W fun e W'=>(∃ v,e=.returned v)∧J r W':=by
 have HE:=K1 hE
 have HJ:=K1 hJ
 have HY:=K1 hY
 have HN:=K1 hN
 have c1:=hE _ _ h0
 clear hE hJ hY hN
 refine callsIn_of_wp Tryz.func244 rfl trivial ?_ rfl
 simp only [Tryz.ntmps244,List.size_toArray,List.length_cons,List.length_nil,Nat.reduceAdd,Nat.reduceSub,Array.replicate_succ,Array.replicate_zero,List.push_toArray,List.append_toArray,List.nil_append,List.cons_append]
 gi_wp2_with fail
 gi_loopw [6] (fun i wr=>∃ k:Nat,k≤r∧i=.int .i64 k∧Hid (J k wr)) (fun i _=>r-(intOf i).toNat)
 case atStart=>exact ⟨0,Nat.zero_le _,rfl,K1 h0⟩
 case round =>
  clear c1 h0
  obtain ⟨k,hk,rfl,HS⟩:=hrel
  by_cases hlt:k<r
  · have c1:=HE.out _ _ HS.out
    have hle:=Nat.mul_le_mul_right c (show k+1≤r by omega)
    rw [Nat.succ_mul] at hle
    have CR:=K1 (row_any wr A r c N cap k (k*c) rfl hc (by rw [HN.out];exact hle) hcap hm (by omega))
    clear hle
    gi_wp2_with fail
    refine ⟨trivial,fun h=>(by cases h),(callsIn_wide.2 CR.out).mono ?_⟩
    rintro e' w3 ⟨rfl,hb3⟩
    have J3:=HJ.out _ _ _ HS.out hb3
    obtain ⟨fn,tmps,assign,body,hy,hR⟩:=HY.out k w3 hlt J3
    unfold rowArgs at hy
    clear J3 hb3 HS c1 CR
    gi_wp2_with fail
    refine ⟨fun h=>(by cases h),hR.mono ?_⟩
    rintro e' w4 ⟨rfl,hJ4⟩
    have H4:=K1 hJ4
    clear hJ4 hy hR
    gi_wp2_with fail
    go_roundw
    case rel=>exact ⟨k+1,by omega,by go_num,H4⟩
    case measure=>simp [intOf];omega
  · have hkr:k=r:=by omega
    subst hkr
    gi_wp2_with fail
    go_end0
    exact ⟨⟨_,rfl⟩,HS.out⟩
end Go.Proofs.YtdpojpcoghcieaaGreat
