/- A part of the proof of TopSerial: TopFew. Conditions: none. -/
import Derived.Test.YtdpojpcoghcieaaGreatSdBX
set_option maxHeartbeats 8000000
namespace Go.Proofs.YtdpojpcoghcieaaGreat
open Lib renaming hid → K1
open Go.RowKit
theorem Gi.check {g:Gi} {W:World} (ha:g.At W):Calls Tryz.prog 52 #[.agg g.cf.toArray] W fun e w'=>e=.returned (.int .i64 g.cc)∧Below W.heap.size W w':=by
 obtain ⟨A,cap,zs,DA,dcap,l,SA,scap,ss,RA,rcap,ds,sh,ra,mo,wo,ba,mi,st,bu,ch,wi,ca⟩:=g
 exact refConf_flat A cap zs sh ra mo wo ba mi st bu ch wi ca W ha.z ha.zm
theorem Gi.input {g:Gi} {W:World} (ha:g.At W):Calls Tryz.prog 22 #[.agg g.cells.toArray] W fun e w'=>e=.returned (.int .i64 g.code)∧Below W.heap.size W w':=by
 obtain ⟨A,cap,zs,DA,dcap,l,SA,scap,ss,RA,rcap,ds,sh,ra,mo,wo,ba,mi,st,bu,ch,wi,ca⟩:=g
 exact refInput_any A DA SA RA cap dcap ss.length scap ds.length rcap zs l sh ra mo wo ba mi st bu ch wi ca W ha.z ha.zm ha.l ha.lm
def Gi.few11 (g:Gi):Bool:=fewIn g.zs.length g.l g.ss.length g.ds.length
theorem Gi.few11_any {g:Gi} {W:World} (ha:g.At W):Calls Tryz.prog 130 #[.agg g.cells.toArray] W fun e w'=>e=.returned (.bool g.few11)∧Below W.heap.size W w':=by
 obtain ⟨A,cap,zs,DA,dcap,l,SA,scap,ss,RA,rcap,ds,sh,ra,mo,wo,ba,mi,st,bu,ch,wi,ca⟩:=g
 exact fewIn_any A DA SA RA cap dcap ss.length scap ds.length rcap zs l sh ra mo wo ba mi st bu ch wi ca W ha.l ha.lm ha.zm ha.sm ha.dm
def Gi.right (g:Gi):Bool:=decide (g.cc=0) && decide (1≤g.ss.length) && decide (g.ss.length≤1048576)
def Gi.few20 (g:Gi):Bool:=decide (g.zs.length≤40) && (!g.right || (decide (g.ss.length≤60) && decide (g.wo≤8) && decide (g.mi≤20) && decide (g.st≤12)))
def Gi.few14 (g:Gi):Bool:=g.few11 && (decide (g.cc≠0) || (decide (g.st≤12) && decide (cnt g.zs≤150) && decide (g.ba≤40)))
def Gi.few21 (g:Gi):Bool:=g.few14 && (decide (g.code≠0) || (g.few20 && decide (g.st≤6) && decide (g.l.length≤40)))
def Gi.few22 (g:Gi):Bool:=g.few21 && (decide (g.code≠0) || (decide (g.wo≤6) && decide (g.st≤5) && decide (g.ss.length≤40)))
def Gi.few (g:Gi) (n:Nat):Bool:=g.few22 && decide (g.code=0) && decide (n≤300)
set_option maxRecDepth 100000 in
theorem Gi.right_any {g:Gi} {w:World} (ha:g.At w):Calls Tryz.prog 131 #[.agg g.pl.toArray] w fun e w'=>e=.returned (.bool g.right)∧Below w.heap.size w w':=by
 have CC:=K1 (fun W (hb:Below w.heap.size w W)=>Gi.check (ha.below hb))
 have hsm:=ha.sm
 clear ha
 have hm:=(Mem.start w).alloc (.cells g.pl.toArray 82)
 have HM:=K1 hm
 clear hm
 have HD:=K1 (show g.right=(decide (g.cc=0) && decide (1≤g.ss.length) && decide (g.ss.length≤1048576)) from rfl)
 generalize g.right=res at *
 generalize g.cc=k at *
 obtain ⟨A,cap,zs,DA,dcap,l,SA,scap,ss,RA,rcap,ds,sh,ra,mo,wo,ba,mi,st,bu,ch,wi,ca⟩:=g
 dsimp only [Gi.pl,Gi.cf] at *
 generalize ss.length=n at *
 go_enter Tryz.func131,Tryz.ntmps131
 have c1:=HM.out.cells 1 rfl
 go_wp2_with fail
 refine (CC.out _ (HM.out.bel 0 rfl)).mono ?_
 rintro e w1 ⟨rfl,hb⟩
 replace HM:=K1 (HM.out.below hb)
 clear hb
 clear c1
 have c1:=HM.out.cells 1 rfl
 by_cases hz_k:k=0
 · subst hz_k
   by_cases h0:1≤n
   · by_cases h1:n≤1048576
     · go_wp2_with fail
       go_ret
       exact ⟨ret_bool (by rw [HD.out,Bool.eq_iff_iff];simp <;> omega),HM.out.bel 0 rfl⟩
     · go_wp2_with fail
       go_ret
       exact ⟨ret_bool (by rw [HD.out,Bool.eq_iff_iff];simp <;> omega),HM.out.bel 0 rfl⟩
   · go_wp2_with fail
     go_ret
     exact ⟨ret_bool (by rw [HD.out,Bool.eq_iff_iff];simp <;> omega),HM.out.bel 0 rfl⟩
 · have hz1_k:(k == 0)=false:=by simpa using hz_k
   have hz2_k:(k != 0)=true:=by simpa using hz_k
   go_wp2_with fail
   go_ret
   exact ⟨ret_bool (by rw [HD.out,Bool.eq_iff_iff];simp <;> omega),HM.out.bel 0 rfl⟩
set_option maxRecDepth 100000 in
theorem Gi.few20_any {g:Gi} {w:World} (ha:g.At w):Calls Tryz.prog 88 #[.agg g.pl.toArray] w fun e w'=>e=.returned (.bool g.few20)∧Below w.heap.size w w':=by
 have CC:=K1 (fun W (hb:Below w.heap.size w W)=>Gi.right_any (ha.below hb))
 have hsm:=ha.sm
 have hzm:=ha.zm
 clear ha
 have hm:=(Mem.start w).alloc (.cells g.pl.toArray 82)
 have HM:=K1 hm
 clear hm
 have HD:=K1 (show g.few20=(decide (g.zs.length≤40) && (!g.right || (decide (g.ss.length≤60) && decide (g.wo≤8) && decide (g.mi≤20) && decide (g.st≤12)))) from rfl)
 generalize g.few20=res at *
 generalize g.right=r at *
 obtain ⟨A,cap,zs,DA,dcap,l,SA,scap,ss,RA,rcap,ds,sh,ra,mo,wo,ba,mi,st,bu,ch,wi,ca⟩:=g
 dsimp only [Gi.pl,Gi.cf] at *
 generalize ss.length=n at *
 generalize zs.length=m at *
 go_enter Tryz.func88,Tryz.ntmps88
 have c1:=HM.out.cells 1 rfl
 by_cases h0:m≤40
 · have h0':¬ 40<m:=by omega
   go_wp2_with fail
   refine (CC.out _ (HM.out.bel 0 rfl)).mono ?_
   rintro e w1 ⟨rfl,hb⟩
   replace HM:=K1 (HM.out.below hb)
   clear hb
   clear c1
   have c1:=HM.out.cells 1 rfl
   cases r
   · go_wp2_with fail
     go_ret
     exact ⟨ret_bool (by rw [HD.out,Bool.eq_iff_iff];simp <;> omega),HM.out.bel 0 rfl⟩
   · by_cases h0:n≤60
     · by_cases h1:wo≤8
       · by_cases h2:mi≤20
         · by_cases h3:st≤12
           · go_wp2_with fail
             go_ret
             exact ⟨ret_bool (by rw [HD.out,Bool.eq_iff_iff];simp <;> omega),HM.out.bel 0 rfl⟩
           · go_wp2_with fail
             go_ret
             exact ⟨ret_bool (by rw [HD.out,Bool.eq_iff_iff];simp <;> omega),HM.out.bel 0 rfl⟩
         · go_wp2_with fail
           go_ret
           exact ⟨ret_bool (by rw [HD.out,Bool.eq_iff_iff];simp <;> omega),HM.out.bel 0 rfl⟩
       · go_wp2_with fail
         go_ret
         exact ⟨ret_bool (by rw [HD.out,Bool.eq_iff_iff];simp <;> omega),HM.out.bel 0 rfl⟩
     · go_wp2_with fail
       go_ret
       exact ⟨ret_bool (by rw [HD.out,Bool.eq_iff_iff];simp <;> omega),HM.out.bel 0 rfl⟩
 · have h0':40<m:=by omega
   go_wp2_with fail
   go_ret
   exact ⟨ret_bool (by rw [HD.out,Bool.eq_iff_iff];simp <;> omega),HM.out.bel 0 rfl⟩
theorem all_of {zs:List Int} (h:shCode zs=0):zs.all okSz=true:=by
 unfold shCode at h
 split at h
 · cases h
 split at h
 · cases h
 · next hq2 hq3 =>
   cases hb:zs.all okSz
   · first | exact absurd hb hq2 | exact absurd hb hq3 | exact absurd hb (by assumption)
   · rfl
set_option maxRecDepth 100000 in
theorem Gi.few14_any {g:Gi} {w:World} (ha:g.At w):Calls Tryz.prog 87 #[.agg g.cells.toArray] w fun e w'=>e=.returned (.bool g.few14)∧Below w.heap.size w w':=by
 have CC:=K1 (fun W (hb:Below w.heap.size w W)=>Gi.check (ha.below hb))
 have CF:=K1 (fun W (hb:Below w.heap.size w W)=>Gi.few11_any (ha.below hb))
 have CN:=K1 (fun (h:g.cc=0) W (hb:Below w.heap.size w W)=>refCount_any g.A g.cap g.zs W (ha.below hb).z (sizes_two (conf_zero h).2.2.2).2 (all_of (conf_zero h).2.2.2))
 clear ha
 have hm:=((Mem.start w).alloc (.cells g.cells.toArray 29)).alloc (.cells g.cf.toArray 24)
 simp only [World.size_alloc] at hm
 have HM:=K1 hm
 clear hm
 have HD:=K1 (show g.few14=(g.few11 && (decide (g.cc≠0) || (decide (g.st≤12) && decide (cnt g.zs≤150) && decide (g.ba≤40)))) from rfl)
 generalize g.few14=res at *
 generalize g.few11=r at *
 generalize g.cc=k at *
 obtain ⟨A,cap,zs,DA,dcap,l,SA,scap,ss,RA,rcap,ds,sh,ra,mo,wo,ba,mi,st,bu,ch,wi,ca⟩:=g
 dsimp only [Gi.cells,Gi.cf] at *
 generalize cnt zs=cn at *
 go_enter Tryz.func87,Tryz.ntmps87
 have c1:=HM.out.cells 1 rfl
 have c2:=HM.out.cells 2 rfl
 go_wp2_with fail
 refine (CF.out _ (HM.out.bel 0 rfl)).mono ?_
 rintro e w1 ⟨rfl,hb⟩
 replace HM:=K1 (HM.out.below hb)
 clear hb
 clear c1 c2
 have c1:=HM.out.cells 1 rfl
 have c2:=HM.out.cells 2 rfl
 cases r
 · go_wp2_with fail
   refine (CF.out _ (HM.out.bel 0 rfl)).mono ?_
   rintro e w2 ⟨rfl,hb⟩
   replace HM:=K1 (HM.out.below hb)
   clear hb
   clear c1 c2
   have c1:=HM.out.cells 1 rfl
   have c2:=HM.out.cells 2 rfl
   go_wp2_with fail
   go_ret
   exact ⟨ret_bool (by rw [HD.out,Bool.eq_iff_iff];simp <;> omega),HM.out.bel 0 rfl⟩
 · go_wp2_with fail
   refine (CC.out _ (HM.out.bel 0 rfl)).mono ?_
   rintro e w2 ⟨rfl,hb⟩
   replace HM:=K1 (HM.out.below hb)
   clear hb
   clear c1 c2
   have c1:=HM.out.cells 1 rfl
   have c2:=HM.out.cells 2 rfl
   by_cases hz_k:k=0
   · subst hz_k
     by_cases h1:st≤12
     · go_wp2_with fail
       refine (CN.out (by trivial) _ (HM.out.bel 0 rfl)).mono ?_
       rintro e w3 ⟨rfl,nq,rfl⟩
       replace HM:=K1 (HM.out.drewN nq)
       clear c1 c2
       have c1:=HM.out.cells 1 rfl
       have c2:=HM.out.cells 2 rfl
       by_cases h0:cn≤150
       · by_cases h1:ba≤40
         · go_wp2_with fail
           go_ret
           exact ⟨ret_bool (by rw [HD.out,Bool.eq_iff_iff];simp <;> omega),HM.out.bel 0 rfl⟩
         · go_wp2_with fail
           go_ret
           exact ⟨ret_bool (by rw [HD.out,Bool.eq_iff_iff];simp <;> omega),HM.out.bel 0 rfl⟩
       · go_wp2_with fail
         go_ret
         exact ⟨ret_bool (by rw [HD.out,Bool.eq_iff_iff];simp <;> omega),HM.out.bel 0 rfl⟩
     · go_wp2_with fail
       go_ret
       exact ⟨ret_bool (by rw [HD.out,Bool.eq_iff_iff];simp <;> omega),HM.out.bel 0 rfl⟩
   · have hz1_k:(k == 0)=false:=by simpa using hz_k
     have hz2_k:(k != 0)=true:=by simpa using hz_k
     go_wp2_with fail
     refine (CF.out _ (HM.out.bel 0 rfl)).mono ?_
     rintro e w3 ⟨rfl,hb⟩
     replace HM:=K1 (HM.out.below hb)
     clear hb
     clear c1 c2
     have c1:=HM.out.cells 1 rfl
     have c2:=HM.out.cells 2 rfl
     go_wp2_with fail
     go_ret
     exact ⟨ret_bool (by rw [HD.out,Bool.eq_iff_iff];simp <;> omega),HM.out.bel 0 rfl⟩
set_option maxRecDepth 100000 in
theorem Gi.plan_any {g:Gi} (w:World):Calls Tryz.prog 24 #[.agg g.cells.toArray] w fun e w'=>e=.returned (.agg g.pl.toArray)∧Below w.heap.size w w':=by
 have hm:=((Mem.start w).alloc (.cells g.cells.toArray 29)).alloc (.cells #[.slice none 0 0,.int .i64 0,.int .i64 0,.int .i64 0,.int .i64 0,.int .i64 0,.int .i64 0,.int .i64 0,.int .i64 0,.int .i64 0,.int .i64 0,.int .i64 0,.int .i64 0] 82)
 simp only [World.size_alloc] at hm
 have HM:=K1 hm
 clear hm
 obtain ⟨A,cap,zs,DA,dcap,l,SA,scap,ss,RA,rcap,ds,sh,ra,mo,wo,ba,mi,st,bu,ch,wi,ca⟩:=g
 dsimp only [Gi.cells,Gi.pl] at *
 go_enter Tryz.func24,Tryz.ntmps24
 have c1:=HM.out.cells 1 rfl
 have c2:=HM.out.cells 2 rfl
 have f2:=fun j=>HM.out.frozen 2 j rfl
 have hp:=(((Mem.start w).alloc (.cells #[.slice A zs.length cap,.int .i64 sh,.int .i64 ra,.int .i64 mo,.int .i64 wo,.int .i64 ba,.int .i64 mi,.int .i64 st,.int .i64 bu,.int .i64 ch,.int .i64 wi,.int .i64 ca,.slice DA l.length dcap,.slice SA ss.length scap,.slice RA ds.length rcap] 29)).alloc (.cells #[.slice A zs.length cap,.int .i64 sh,.int .i64 ra,.int .i64 mo,.int .i64 wo,.int .i64 ba,.int .i64 mi,.int .i64 st,.int .i64 bu,.int .i64 ch,.int .i64 wi,.int .i64 ca,.int .i64 ss.length] 82))
 simp only [World.size_alloc] at hp
 have HP:=K1 hp
 clear hp
 go_wp2_with fail
 clear c1 c2 f2
 have c2:=HP.out.cells 2 rfl
 refine bodyPost_ret (v:=.agg #[.slice A zs.length cap,.int .i64 sh,.int .i64 ra,.int .i64 mo,.int .i64 wo,.int .i64 ba,.int .i64 mi,.int .i64 st,.int .i64 bu,.int .i64 ch,.int .i64 wi,.int .i64 ca,.int .i64 ss.length]) ?_ rfl ⟨rfl,HP.out.bel 0 rfl⟩
 simp [results,Tryz.results24,go_sem,c2]
set_option maxRecDepth 100000 in
theorem Gi.few21_any {g:Gi} {w:World} (ha:g.At w):Calls Tryz.prog 51 #[.agg g.cells.toArray] w fun e w'=>e=.returned (.bool g.few21)∧Below w.heap.size w w':=by
 have CF:=K1 (fun W (hb:Below w.heap.size w W)=>Gi.few14_any (ha.below hb))
 have CI:=K1 (fun W (hb:Below w.heap.size w W)=>Gi.input (ha.below hb))
 have CP:=K1 (fun W (_:Below w.heap.size w W)=>Gi.plan_any (g:=g) W)
 have CG:=K1 (fun W (hb:Below w.heap.size w W)=>Gi.few20_any (ha.below hb))
 have hlm:=ha.lm
 clear ha
 have hm:=(Mem.start w).alloc (.cells g.cells.toArray 29)
 have HM:=K1 hm
 clear hm
 have HD:=K1 (show g.few21=(g.few14 && (decide (g.code≠0) || (g.few20 && decide (g.st≤6) && decide (g.l.length≤40)))) from rfl)
 generalize g.few21=res at *
 generalize g.few14=r at *
 generalize g.few20=q at *
 generalize g.code=k at *
 obtain ⟨A,cap,zs,DA,dcap,l,SA,scap,ss,RA,rcap,ds,sh,ra,mo,wo,ba,mi,st,bu,ch,wi,ca⟩:=g
 dsimp only [Gi.cells,Gi.pl] at *
 generalize l.length=n at *
 go_enter Tryz.func51,Tryz.ntmps51
 have c1:=HM.out.cells 1 rfl
 go_wp2_with fail
 refine (CF.out _ (HM.out.bel 0 rfl)).mono ?_
 rintro e w1 ⟨rfl,hb⟩
 replace HM:=K1 (HM.out.below hb)
 clear hb
 clear c1
 have c1:=HM.out.cells 1 rfl
 cases r
 · go_wp2_with fail
   go_ret
   exact ⟨ret_bool (by rw [HD.out,Bool.eq_iff_iff];simp <;> omega),HM.out.bel 0 rfl⟩
 · go_wp2_with fail
   refine (CI.out _ (HM.out.bel 0 rfl)).mono ?_
   rintro e w2 ⟨rfl,hb⟩
   replace HM:=K1 (HM.out.below hb)
   clear hb
   clear c1
   have c1:=HM.out.cells 1 rfl
   by_cases hz_k:k=0
   · subst hz_k
     go_wp2_with fail
     refine (CP.out _ (HM.out.bel 0 rfl)).mono ?_
     rintro e w3 ⟨rfl,hb⟩
     replace HM:=K1 (HM.out.below hb)
     clear hb
     clear c1
     have c1:=HM.out.cells 1 rfl
     go_wp2_with fail
     refine (CG.out _ (HM.out.bel 0 rfl)).mono ?_
     rintro e w4 ⟨rfl,hb⟩
     replace HM:=K1 (HM.out.below hb)
     clear hb
     clear c1
     have c1:=HM.out.cells 1 rfl
     cases q
     · go_wp2_with fail
       go_ret
       exact ⟨ret_bool (by rw [HD.out,Bool.eq_iff_iff];simp <;> omega),HM.out.bel 0 rfl⟩
     · by_cases h0:st≤6
       · by_cases h1:n≤40
         · go_wp2_with fail
           go_ret
           exact ⟨ret_bool (by rw [HD.out,Bool.eq_iff_iff];simp <;> omega),HM.out.bel 0 rfl⟩
         · go_wp2_with fail
           go_ret
           exact ⟨ret_bool (by rw [HD.out,Bool.eq_iff_iff];simp <;> omega),HM.out.bel 0 rfl⟩
       · go_wp2_with fail
         go_ret
         exact ⟨ret_bool (by rw [HD.out,Bool.eq_iff_iff];simp <;> omega),HM.out.bel 0 rfl⟩
   · have hz1_k:(k == 0)=false:=by simpa using hz_k
     have hz2_k:(k != 0)=true:=by simpa using hz_k
     go_wp2_with fail
     go_ret
     exact ⟨ret_bool (by rw [HD.out,Bool.eq_iff_iff];simp <;> omega),HM.out.bel 0 rfl⟩
set_option maxRecDepth 100000 in
theorem Gi.few22_any {g:Gi} {w:World} (ha:g.At w):Calls Tryz.prog 21 #[.agg g.cells.toArray] w fun e w'=>e=.returned (.bool g.few22)∧Below w.heap.size w w':=by
 have CF:=K1 (fun W (hb:Below w.heap.size w W)=>Gi.few21_any (ha.below hb))
 have CI:=K1 (fun W (hb:Below w.heap.size w W)=>Gi.input (ha.below hb))
 have hsm:=ha.sm
 clear ha
 have hm:=(Mem.start w).alloc (.cells g.cells.toArray 29)
 have HM:=K1 hm
 clear hm
 have HD:=K1 (show g.few22=(g.few21 && (decide (g.code≠0) || (decide (g.wo≤6) && decide (g.st≤5) && decide (g.ss.length≤40)))) from rfl)
 generalize g.few22=res at *
 generalize g.few21=r at *
 generalize g.code=k at *
 obtain ⟨A,cap,zs,DA,dcap,l,SA,scap,ss,RA,rcap,ds,sh,ra,mo,wo,ba,mi,st,bu,ch,wi,ca⟩:=g
 dsimp only [Gi.cells] at *
 generalize ss.length=n at *
 go_enter Tryz.func21,Tryz.ntmps21
 have c1:=HM.out.cells 1 rfl
 go_wp2_with fail
 refine (CF.out _ (HM.out.bel 0 rfl)).mono ?_
 rintro e w1 ⟨rfl,hb⟩
 replace HM:=K1 (HM.out.below hb)
 clear hb
 clear c1
 have c1:=HM.out.cells 1 rfl
 cases r
 · go_wp2_with fail
   go_ret
   exact ⟨ret_bool (by rw [HD.out,Bool.eq_iff_iff];simp <;> omega),HM.out.bel 0 rfl⟩
 · go_wp2_with fail
   refine (CI.out _ (HM.out.bel 0 rfl)).mono ?_
   rintro e w2 ⟨rfl,hb⟩
   replace HM:=K1 (HM.out.below hb)
   clear hb
   clear c1
   have c1:=HM.out.cells 1 rfl
   by_cases hz_k:k=0
   · subst hz_k
     by_cases h0:wo≤6
     · by_cases h1:st≤5
       · by_cases h2:n≤40
         · go_wp2_with fail
           go_ret
           exact ⟨ret_bool (by rw [HD.out,Bool.eq_iff_iff];simp <;> omega),HM.out.bel 0 rfl⟩
         · go_wp2_with fail
           go_ret
           exact ⟨ret_bool (by rw [HD.out,Bool.eq_iff_iff];simp <;> omega),HM.out.bel 0 rfl⟩
       · go_wp2_with fail
         go_ret
         exact ⟨ret_bool (by rw [HD.out,Bool.eq_iff_iff];simp <;> omega),HM.out.bel 0 rfl⟩
     · go_wp2_with fail
       go_ret
       exact ⟨ret_bool (by rw [HD.out,Bool.eq_iff_iff];simp <;> omega),HM.out.bel 0 rfl⟩
   · have hz1_k:(k == 0)=false:=by simpa using hz_k
     have hz2_k:(k != 0)=true:=by simpa using hz_k
     go_wp2_with fail
     go_ret
     exact ⟨ret_bool (by rw [HD.out,Bool.eq_iff_iff];simp <;> omega),HM.out.bel 0 rfl⟩
set_option maxRecDepth 100000 in
theorem Gi.few_any {g:Gi} {w:World} (ha:g.At w) (B:Option Addr) (n m:Nat) (hn:n≤9223372036854775807):Calls Tryz.prog 6 #[.agg g.cells.toArray,.slice B n m] w fun e w'=>e=.returned (.bool (g.few n))∧Below w.heap.size w w':=by
 have CF:=K1 (fun W (hb:Below w.heap.size w W)=>Gi.few22_any (ha.below hb))
 have CI:=K1 (fun W (hb:Below w.heap.size w W)=>Gi.input (ha.below hb))
 clear ha
 have hm:=(Mem.start w).alloc (.cells g.cells.toArray 29)
 have HM:=K1 hm
 clear hm
 have HD:=K1 (show g.few n=(g.few22 && decide (g.code=0) && decide (n≤300)) from rfl)
 generalize g.few n=res at *
 generalize g.few22=r at *
 generalize g.code=k at *
 obtain ⟨A,cap,zs,DA,dcap,l,SA,scap,ss,RA,rcap,ds,sh,ra,mo,wo,ba,mi,st,bu,ch,wi,ca⟩:=g
 dsimp only [Gi.cells] at *
 go_enter Tryz.func6,Tryz.ntmps6
 have c1:=HM.out.cells 1 rfl
 go_wp2_with fail
 refine (CF.out _ (HM.out.bel 0 rfl)).mono ?_
 rintro e w1 ⟨rfl,hb⟩
 replace HM:=K1 (HM.out.below hb)
 clear hb
 clear c1
 have c1:=HM.out.cells 1 rfl
 cases r
 · go_wp2_with fail
   go_ret
   exact ⟨ret_bool (by rw [HD.out,Bool.eq_iff_iff];simp <;> omega),HM.out.bel 0 rfl⟩
 · go_wp2_with fail
   refine (CI.out _ (HM.out.bel 0 rfl)).mono ?_
   rintro e w2 ⟨rfl,hb⟩
   replace HM:=K1 (HM.out.below hb)
   clear hb
   clear c1
   have c1:=HM.out.cells 1 rfl
   by_cases hz_k:k=0
   · subst hz_k
     by_cases h0:n≤300
     · go_wp2_with fail
       go_ret
       exact ⟨ret_bool (by rw [HD.out,Bool.eq_iff_iff];simp <;> omega),HM.out.bel 0 rfl⟩
     · go_wp2_with fail
       go_ret
       exact ⟨ret_bool (by rw [HD.out,Bool.eq_iff_iff];simp <;> omega),HM.out.bel 0 rfl⟩
   · have hz1_k:(k == 0)=false:=by simpa using hz_k
     have hz2_k:(k != 0)=true:=by simpa using hz_k
     go_wp2_with fail
     go_ret
     exact ⟨ret_bool (by rw [HD.out,Bool.eq_iff_iff];simp <;> omega),HM.out.bel 0 rfl⟩
theorem cnt_pos:∀ {zs:List Int},2≤zs.length→zs.all okSz=true→1≤cnt zs
 | a::b::r,_,h=>by
   have ha:=okSz_iff.1 (List.all_eq_true.1 h a (List.mem_cons_self ..))
   have hb:=okSz_iff.1 (List.all_eq_true.1 h b (List.mem_cons_of_mem _ (List.mem_cons_self ..)))
   have hr:=(cnt_bd (b::r) fun z hz=>List.all_eq_true.1 h z (List.mem_cons_of_mem _ hz)).1
   have hm:1*1≤(a+1)*b:=Int.mul_le_mul (by omega) hb.1 (by omega) (by omega)
   simp only [cnt]
   omega
theorem Gi.few_small {g:Gi} {n:Nat} (h:g.few n=true):g.Small∧n≤300:=by
 unfold Gi.few Gi.few22 Gi.few21 at h
 simp only [Bool.and_eq_true,Bool.or_eq_true,decide_eq_true_eq] at h
 obtain ⟨⟨⟨⟨h1,h2⟩,h3⟩,h4⟩,h5⟩:=h
 have hc:¬ g.code≠0:=by omega
 have h2:=h2.resolve_left hc
 have h3:=h3.resolve_left hc
 have hcc:g.cc=0:=by
  by_cases hk:g.cc=0
  · exact hk
  · unfold Gi.code inCode at h4
    rw [if_pos hk] at h4
    exact absurd h4 hk
 have hf:g.few11=true:=by
  unfold Gi.few14 at h1
  simp only [Bool.and_eq_true] at h1
  exact h1.1
 unfold Gi.few11 fewIn at hf
 simp only [Bool.and_eq_true,decide_eq_true_eq] at hf
 have hmi:g.mi≤20:=by
  have hq:=h2.1.1
  have hr:g.right=true:=by
   have hs:=(conf_zero hcc).2.2.2
   have hcn:(g.ss.length:Int)=cnt g.zs:=by
    have h5:=h4
    unfold Gi.code at h5
    rw [hcc] at h5
    unfold inCode at h5
    rw [if_neg (by omega)] at h5
    split at h5
    · cases h5
    split at h5
    · cases h5
    · rename_i _ hx
      exact Decidable.byContradiction fun hc=>hx (.inr hc)
   have hpos:=cnt_pos (sizes_two hs).1 (all_of hs)
   unfold Gi.right
   simp only [Bool.and_eq_true,decide_eq_true_eq]
   omega
  unfold Gi.few20 at hq
  rw [hr] at hq
  simp only [Bool.and_eq_true,Bool.or_eq_true,decide_eq_true_eq,Bool.not_true,Bool.false_eq_true,false_or] at hq
  exact hq.2.1.2
 exact ⟨⟨h4,h3.1.1,h3.1.2,h3.2,h2.2,hmi,hf.2⟩,h5⟩
end Go.Proofs.YtdpojpcoghcieaaGreat
