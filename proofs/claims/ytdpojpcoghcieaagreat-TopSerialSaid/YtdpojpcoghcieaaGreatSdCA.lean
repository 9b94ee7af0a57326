/- A part of the proof of TopSerial: TopN, TopTotal, TopSerial, Law. Conditions: none. -/
import Derived.ProofKit
import Derived.Deep.Fields
import Derived.Deep.Slices
import Derived.ChangeSame
import Derived.Carry
import Derived.Test.YtdpojpcoghcieaaGreatSdBY
import Derived.Test.YtdpojpcoghcieaaGreatSdBZ
set_option maxHeartbeats 8000000
namespace Go.Proofs.YtdpojpcoghcieaaGreat
open Lib renaming hid → K1
open List renaming filterMap_cons → p1, filterMap_nil → p2, getElem?_cons_zero → p3, getElem?_cons_succ → p4
open Go.RowKit
set_option maxRecDepth 100000 in
theorem topTotal_any {g:Gi} {i:Inp} (w:World) (hc:i.r.c.Ok) (hp:i.r.p≤60) (hpl:g.pl=rpC i.r.c i.r.p (.slice i.A i.r.ns.length i.cap)) :
  Calls Tryz.prog 7 #[.agg g.cells.toArray] w fun e w'=>e=.returned (.int .i64 (totR i.r))∧Below w.heap.size w w':=by
 have CP:=K1 (fun W=>Gi.plan_any (g:=g) W)
 rw [hpl] at CP
 have CT:=K1 (fun W=>rtotal_any W i.r.c i.r.p (.slice i.A i.r.ns.length i.cap) hc hp)
 have HT:=K1 (show i.r.c.st*sumR (fun u=>(plIts i.r.c i.r.p 0 u).length) i.r.c.k=totR i.r from rfl)
 rw [HT.out] at CT
 have HM:=K1 ((Mem.start w).alloc (.cells g.cells.toArray 29))
 generalize totR i.r=T at *
 generalize (rpC i.r.c i.r.p (.slice i.A i.r.ns.length i.cap)).toArray=PC at *
 clear hpl hc hp HT
 dsimp only [Gi.cells] at *
 go_enter Tryz.func7,Tryz.ntmps7
 have c1:=HM.out.cells 1 rfl
 go_wp2_with fail
 refine (CP.out _).mono ?_
 rintro e w1 ⟨rfl,hb⟩
 replace HM:=K1 (HM.out.below hb)
 clear hb c1
 go_wp2_with fail
 refine (CT.out _).mono ?_
 rintro e w2 ⟨rfl,hb⟩
 replace HM:=K1 (HM.out.below hb)
 clear hb
 go_wp2_with fail
 go_ret
 exact ⟨rfl,HM.out.bel 0 rfl⟩
theorem serial_end {i:Inp} (hi:i.Ok) {x0 x1 x2:Wv} {zs:List Int} {n n2:Nat} {b:Bool} (h0:x0.Ok i.r) (hc:x0.count=0) (hm:∀ m∈x0.ms,m.abs=iniA i) (hl:∀ l∈x0.ls,l.q=[]) (hr:RunR i.r x0 zs n x1) (hf:FinR i.r x1 (totR i.r*i.r.c.k) n2 x2) (hb:b=true↔∀ m∈x2.ms,i.r.c.st≤m.t) (ho:b=true∨n2=totR i.r*i.r.c.k) :
  b=true∧∀ m∈x2.ms,m.rcd.map Ex.nums=(List.range (i.r.c.st+1)).map (serS i.r i.st):=by
 obtain ⟨hw,hd⟩:=dyn_ini (st:=i.st) h0 hc hm hl
 have hw1:=WorldOk.run _ hw hr
 have hd1:=RunR.dyn hi.st.1 _ hw.ok hd hr
 have hb1:=fin_done (T:=totR i.r) hw1 hf hb ho rfl (Nat.le_refl _)
 exact ⟨hb1,fin_rcd hi.st.1 hw1 hd1 hf (hb.1 hb1)⟩
set_option maxRecDepth 100000 in
theorem topSerial_no {g:Gi} {w:World} (B:Option Addr) (n m:Nat) (CF:∀ W,Below w.heap.size w W→Calls Tryz.prog 6 #[.agg g.cells.toArray,.slice B n m] W fun e w'=>e=.returned (.bool false)∧Below W.heap.size W w') :
  Calls Tryz.prog 3 #[.agg g.cells.toArray,.slice B n m] w fun e w'=>e=.returned (.bool true)∧Below w.heap.size w w':=by
 have HCF:=K1 CF
 have HM:=K1 ((Mem.start w).alloc (.cells g.cells.toArray 29))
 clear CF
 obtain ⟨A,cap,zs,DA,dcap,l,SA,scap,ss,RA,rcap,ds,sh,ra,mo,wo,ba,mi,st,bu,ch,wi,ca⟩:=g
 dsimp only [Gi.cells] at *
 go_enter Tryz.func3,Tryz.ntmps3
 go_wp2_with fail
 refine name_wp fun W0 hW=>?_
 replace HM:=K1 (hW.out.symm ▸ HM.out)
 clear hW
 refine wp_region_stage (.reads [0,1] (.eff 2 (.reads [3,4,5,7,8,9] (.eff 6 (.reads [10,11,12] .fin))))) 13 (fun W'=>(∀ j,W'.cell? ⟨w.heap.size,j,none⟩=([.slice A zs.length cap,.int .i64 sh,.int .i64 ra,.int .i64 mo,.int .i64 wo,.int .i64 ba,.int .i64 mi,.int .i64 st,.int .i64 bu,.int .i64 ch,.int .i64 wi,.int .i64 ca,.slice DA l.length dcap,.slice SA ss.length scap,.slice RA ds.length rcap]:List Value)[j]?))
  (by kernel_rfl) (by kernel_rfl) (by intro d v c a w h;cases d <;> exact h) ?_
 replace HM:=K1 HM.out.drew
 generalize W0.drew=V at *
 refine PlS.reads_ (HM.out.cells 1 rfl) (by kernel_rfl) ?_
 simp only [pickO,p1,p2,p3,p4]
 apply Exists.intro
 apply And.intro
 · intro W' hS
   repeat still_step
   exact wpStill_nil rfl
 refine PlS.eff_ ?_
 simp only [pickO,p1,p2,p3,p4]
 go_wp2_with fail
 refine (HCF.out _ (HM.out.bel 0 rfl)).mono ?_
 rintro e w1 ⟨rfl,hb⟩
 replace HM:=K1 (HM.out.below hb)
 clear hb HCF
 go_wp2_with fail
 refine After.go (HM.out.cells 1 rfl) ?_
 refine PlS.reads_ (HM.out.cells 1 rfl) (by kernel_rfl) ?_
 simp only [pickO,p1,p2,p3,p4]
 apply Exists.intro
 apply And.intro
 · intro W' hS
   repeat still_step
   exact wpStill_nil rfl
 refine PlS.eff_ ?_
 simp only [pickO,p1,p2,p3,p4]
 go_wp2_with fail
 refine After.go (HM.out.cells 1 rfl) ?_
 refine PlS.reads_ (HM.out.cells 1 rfl) (by kernel_rfl) ?_
 simp only [pickO,p1,p2,p3,p4]
 apply Exists.intro
 apply And.intro
 · intro W' hS
   repeat still_step
   exact wpStill_nil rfl
 refine PlS.fin_ ?_
 go_wp2_with fail
 refine (works_val _).mono ?_
 rintro e w2 ⟨rfl,hb⟩
 replace HM:=K1 (HM.out.below hb)
 clear hb
 go_wp2_with fail
 go_ret
 exact ⟨rfl,HM.out.bel 0 rfl⟩
theorem fin_count {r:Rn} {x x':Wv} {most n m:Nat} (h:FinR r x most n x') (hm:x.count+most≤m):x'.count≤m:=by
 obtain ⟨h1,_,_,c,h4⟩:=h
 have h5:=RunR.count _ h4
 have h6:(turns r.c.k n).length=n:=by simp [turns]
 omega
theorem totR_le {r:Rn} (hc:r.c.Ok) (hp:r.p≤60):totR r≤8000000000000:=by
 have h1:∀ k,sumR (lenU r) k≤k*1000000000:=by
  intro k
  induction k with
  | zero=>exact Nat.le_refl _
  | succ k ih =>
    have:=plIts_le hc hp 0 k
    rw [sumR,Nat.succ_mul]
    exact Nat.add_le_add ih this
 have h2:=h1 r.c.k
 have hk:=hc.k.2
 unfold totR
 exact Nat.le_trans (Nat.mul_le_mul hc.st (show sumR (lenU r) r.c.k≤8000000000 by omega)) (by omega)
set_option maxRecDepth 100000 in
theorem topSerial_yes {i:Inp} {w:World} (hi:i.Ok) (ha:i.At w) (ZA:Option Addr) (len cap:Nat) (zs:List Int) (hz:Rd w w.heap.size ZA (zC zs)) (hlen:zs.length=len) (hl:len≤300)
  (CF:∀ W,Below w.heap.size w W→Calls Tryz.prog 6 #[.agg i.cells.toArray,.slice ZA len cap] W fun e w'=>e=.returned (.bool true)∧Below W.heap.size W w')
  (CT:∀ W,Below w.heap.size w W→Calls Tryz.prog 7 #[.agg i.cells.toArray] W fun e w'=>e=.returned (.int .i64 (totR i.r))∧Below W.heap.size W w')
  (CI:∀ W,Below w.heap.size w W→Calls Tryz.prog 22 #[.agg i.cells.toArray] W fun e w'=>e=.returned (.int .i64 0)∧Below W.heap.size W w') :
  Calls Tryz.prog 3 #[.agg i.cells.toArray,.slice ZA len cap] w fun e w'=>e=.returned (.bool true)∧Below w.heap.size w w':=by
 have HCF:=K1 CF
 have HCT:=K1 CT
 have CS:=K1 (fun W (hb:Below w.heap.size w W)=>snew_any W i hi (ha.below hb))
 have CR:=K1 (fun W (hb:Below w.heap.size w W)=>rtrain_any W i hi (ha.below hb) (fun W2 hb2=>CI W2 (hb.trans (hb2.mono hb.size))))
 have HZ:=K1 (fun W (hb:Below w.heap.size w W)=>((hz.below hb).more hb.size:Rd W W.heap.size ZA (zC zs)))
 have HL:=K1 hlen
 have HI:=K1 hi
 have hk8:=hi.c.k
 have hst:=hi.c.st
 have HTB:=K1 (totR_le hi.c (by have:=hi.p;omega))
 have HSE:=K1 (fun x0 x1 x2 n n2 b h0 hc hm hl hr hf hb ho=>serial_end hi (x0:=x0) (x1:=x1) (x2:=x2) (zs:=zs) (n:=n) (n2:=n2) (b:=b) h0 hc hm hl hr hf hb ho)
 obtain ⟨T,hT⟩:∃ T,T=totR i.r:=⟨_,rfl⟩
 obtain ⟨Tk,hTk⟩:∃ Tk,Tk=T*i.r.c.k:=⟨_,rfl⟩
 rw [← hT] at HCT HTB HSE
 rw [← hTk] at HSE
 have eTk:(T:Int)*(i.r.c.k:Int)=(Tk:Int):=by rw [hTk];exact (Int.natCast_mul _ _).symm
 have bTk:Tk≤64000000000000:=by rw [hTk];exact Nat.le_trans (Nat.mul_le_mul HTB.out hk8.2) (by omega)
 have wTk:IntKind.i64.wrap (Tk:Int)=(Tk:Int):=IntWalk.i64_in _ (by omega)
 have HM:=K1 ((Mem.start w).alloc (.cells i.cells.toArray 29))
 clear hi ha CF CT CI hz hlen hT hTk
 dsimp only [Inp.cells] at *
 go_enter Tryz.func3,Tryz.ntmps3
 go_wp2_with fail
 refine name_wp fun W0 hW=>?_
 replace HM:=K1 (hW.out.symm ▸ HM.out)
 clear hW
 refine wp_region_stage (.reads [0,1] (.eff 2 (.reads [3,4,5,7,8,9] (.eff 6 (.reads [10,11,12] .fin))))) 13 (fun W'=>(∀ j,W'.cell? ⟨w.heap.size,j,none⟩=([.slice i.A i.r.ns.length i.cap,.int .i64 i.r.c.sh,.int .i64 i.r.c.ra,.int .i64 i.r.c.mo,.int .i64 i.r.c.k,.int .i64 i.r.c.ba,.int .i64 i.r.c.mi,.int .i64 i.r.c.st,.int .i64 i.r.c.bu,.int .i64 i.r.c.s,.int .i64 i.r.c.wi,.int .i64 i.r.c.ca,.slice i.DA i.r.n i.dcap,.slice i.SA i.r.p i.scap,.slice i.RA i.r.ds.length i.rcap]:List Value)[j]?))
  (by kernel_rfl) (by kernel_rfl) (by intro d v c a w h;cases d <;> exact h) ?_
 replace HM:=K1 HM.out.drew
 generalize W0.drew=V at *
 refine PlS.reads_ (HM.out.cells 1 rfl) (by kernel_rfl) ?_
 simp only [pickO,p1,p2,p3,p4]
 apply Exists.intro
 apply And.intro
 · intro W' hS
   repeat still_step
   exact wpStill_nil rfl
 refine PlS.eff_ ?_
 simp only [pickO,p1,p2,p3,p4]
 go_wp2_with fail
 refine (HCF.out _ (HM.out.bel 0 rfl)).mono ?_
 rintro e w1 ⟨rfl,hb⟩
 replace HM:=K1 (HM.out.below hb)
 clear hb HCF
 go_wp2_with fail
 refine After.go (HM.out.cells 1 rfl) ?_
 refine PlS.reads_ (HM.out.cells 1 rfl) (by kernel_rfl) ?_
 simp only [pickO,p1,p2,p3,p4]
 apply Exists.intro
 apply And.intro
 · intro W' hS
   repeat still_step
   exact wpStill_nil rfl
 refine PlS.eff_ ?_
 simp only [pickO,p1,p2,p3,p4]
 go_wp2_with fail
 refine (HCT.out _ (HM.out.bel 0 rfl)).mono ?_
 rintro e w1 ⟨rfl,hb⟩
 replace HM:=K1 (HM.out.below hb)
 clear hb
 go_wp2_with fail
 refine After.go (HM.out.cells 1 rfl) ?_
 by_cases h4:4000<Tk
 · have h4i:(4000:Int)<(Tk:Int):=by omega
   refine PlS.reads_ (HM.out.cells 1 rfl) (by kernel_rfl) ?_
   simp only [pickO,p1,p2,p3,p4]
   apply Exists.intro
   apply And.intro
   · intro W' hS
     repeat still_step
     exact wpStill_nil rfl
   refine PlS.fin_ ?_
   go_wp2_with fail
   refine (works_val _).mono ?_
   rintro e w2 ⟨rfl,hb⟩
   replace HM:=K1 (HM.out.below hb)
   clear hb
   go_wp2_with fail
   go_ret
   exact ⟨rfl,HM.out.bel 0 rfl⟩
 · have h4i:¬ (4000:Int)<(Tk:Int):=by omega
   refine PlS.reads_ (HM.out.cells 1 rfl) (by kernel_rfl) ?_
   simp only [pickO,p1,p2,p3,p4]
   apply Exists.intro
   apply And.intro
   · intro W' hS
     repeat still_step
     exact wpStill_nil rfl
   refine PlS.fin_ ?_
   have c1:=HM.out.cells 1 rfl
   go_wp2_with fail
   refine name_calls fun W0 hW=>?_
   replace HM:=K1 (HM.out.inW hW.out)
   clear hW c1
   refine (CS.out _ (HM.out.bel 0 rfl)).mono ?_
   rintro e w3 ⟨x,rfl,hx1,hx2,hx3,hx4,hm1⟩
   have hm2:Mem w3 (x.ps++(.rd ZA (zC zs)::[.bel W0.heap.size W0])):=by
    have h1:=hm1.add_rd (i:=x.ps.length) at_mid (HZ.out W0 (HM.out.bel 0 rfl))
    exact h1.perm (by rw [List.append_assoc];exact List.Perm.append_left _ (List.Perm.swap ..))
   have HMB:=K1 (fun W (hb:Below W0.heap.size W0 W)=>HM.out.below hb)
   have CRN:=K1 (run_any w3 x i.r _ ZA cap zs len HL.out hm2 hx1 (by omega))
   have HX:=K1 (And.intro hx1 (And.intro hx2 (And.intro hx3 hx4)))
   clear hm1 hm2 hx1 hx2 hx3 hx4 CS
   go_wp2_with fail
   refine CRN.out.mono ?_
   rintro e w4 ⟨n,x1,rfl,hx1,hg,hR,hm2⟩
   have hb2:Below W0.heap.size W0 w4:=hm2.bel (x1.ps.length+1) (by simp)
   have HM2:=K1 (HM.out.below hb2)
   have hcn:x1.count≤300:=by have:=RunR.count _ hR;have:=HX.out.2.1;have:=HL.out;omega
   have HR:=K1 (And.intro hR (And.intro hx1 hg))
   have HW:=K1 hm2
   clear hx1 hR hm2 hb2 CRN HM
   go_wp2_with fail
   refine name_wp fun W5 hW=>?_
   replace HM2:=K1 (hW.out.symm ▸ HM2.out)
   replace HW:=K1 (hW.out.symm ▸ HW.out)
   clear hW
   refine wp_region_stage (.reads [0,1,3,4,5] (.eff 2 (.reads [6] (.eff 7 (.reads [8,9,10,11,12] .fin))))) 13 (fun W'=>(∀ j,W'.cell? ⟨w.heap.size,j,none⟩=([.slice i.A i.r.ns.length i.cap,.int .i64 i.r.c.sh,.int .i64 i.r.c.ra,.int .i64 i.r.c.mo,.int .i64 i.r.c.k,.int .i64 i.r.c.ba,.int .i64 i.r.c.mi,.int .i64 i.r.c.st,.int .i64 i.r.c.bu,.int .i64 i.r.c.s,.int .i64 i.r.c.wi,.int .i64 i.r.c.ca,.slice i.DA i.r.n i.dcap,.slice i.SA i.r.p i.scap,.slice i.RA i.r.ds.length i.rcap]:List Value)[j]?))
    (by kernel_rfl) (by kernel_rfl) (by intro d v c a w h;cases d <;> exact h) ?_
   replace HM2:=K1 HM2.out.drew
   replace HW:=K1 HW.out.drew
   generalize W5.drew=V5 at *
   refine PlS.reads_ (HM2.out.cells 1 rfl) (by kernel_rfl) ?_
   simp only [pickO,p1,p2,p3,p4]
   apply Exists.intro
   apply And.intro
   · intro W' hS
     repeat still_step
     exact wpStill_nil rfl
   refine PlS.eff_ ?_
   simp only [pickO,p1,p2,p3,p4]
   go_wp2_with fail
   refine (HCT.out _ (HM2.out.bel 0 rfl)).mono ?_
   rintro e w6 ⟨rfl,hb⟩
   replace HM2:=K1 (HM2.out.below hb)
   replace HW:=K1 (HW.out.below hb)
   clear hb HCT
   go_wp2_with fail
   refine After.go (HM2.out.cells 1 rfl) ?_
   refine PlS.reads_ (HM2.out.cells 1 rfl) (by kernel_rfl) ?_
   simp only [pickO,p1,p2,p3,p4]
   apply Exists.intro
   apply And.intro
   · intro W' hS
     repeat still_step
     exact wpStill_nil rfl
   refine PlS.eff_ ?_
   simp only [pickO,p1,p2,p3,p4]
   have CFN:=K1 (finish_any w6 x1 i.r _ HW.out HR.out.2.1 Tk (by omega))
   rw [HR.out.2.2] at CFN
   go_wp2_with fail
   refine CFN.out.mono ?_
   rintro e w7 ⟨n2,bf,x2,rfl,hf,hbf,hor,hm7⟩
   obtain ⟨hbt,hall⟩:=HSE.out x x1 x2 n n2 bf HX.out.1 HX.out.2.1 HX.out.2.2.1 HX.out.2.2.2 HR.out.1 hf hbf hor
   subst hbt
   have hb7:Below W0.heap.size W0 w7:=hm7.bel (x2.ps.length+1) (by simp)
   have hx2o:=hf.2.1
   have hx2g:=hf.2.2.1.trans HR.out.2.2
   have hcn2:x2.count≤1000000:=fin_count hf (by omega)
   have HM3:=K1 (HMB.out _ hb7)
   have HF:=K1 (And.intro hall (And.intro hx2o (And.intro hx2g hcn2)))
   have HW3:=K1 hm7
   clear hf hbf hor hm7 hall hb7 hx2o hcn2 CFN HSE HX HR HW HM2
   go_wp2_with fail
   refine After.go (HM3.out.cells 1 rfl) ?_
   refine PlS.reads_ (HM3.out.cells 1 rfl) (by kernel_rfl) ?_
   simp only [pickO,p1,p2,p3,p4]
   apply Exists.intro
   apply And.intro
   · intro W' hS
     repeat still_step
     exact wpStill_nil rfl
   refine PlS.fin_ ?_
   have c1:=HM3.out.cells 1 rfl
   go_wp2_with fail
   refine (CR.out _ (HM3.out.bel 0 rfl)).mono ?_
   rintro e w8 ⟨WA,wc,want,rfl,hser,hm8⟩
   have hb8:=hm8.bel 0 rfl
   have HWT:=K1 (And.intro (show RSt w8 WA want from ⟨hm8.rd 1 rfl,hm8.st 2 rfl⟩) hser)
   replace HM3:=K1 (HM3.out.below hb8)
   replace HW3:=K1 (HW3.out.below hb8)
   clear hm8 hb8 hser CR c1
   go_wp2_with fail
   refine (works_val _).mono ?_
   rintro e w9 ⟨rfl,hb9⟩
   replace HM3:=K1 (HM3.out.below hb9)
   replace HW3:=K1 (HW3.out.below hb9)
   have HWT9:=K1 (And.intro (HWT.out.1.below hb9) HWT.out.2)
   clear hb9 HWT
   have c1:=HM3.out.cells 1 rfl
   have CA:=K1 (all_any w9 x2 i.r _ HW3.out HF.out.2.1 HF.out.2.2.2 WA (i.r.c.st+1) wc want HWT9.out.1 HWT9.out.2.len (by omega) (fun m hm=>(HF.out.1 m hm).trans HWT9.out.2.symm))
   rw [HF.out.2.2.1] at CA
   clear hx2g
   go_wp2_with fail
   refine CA.out.mono ?_
   rintro e w10 ⟨rfl,hb10⟩
   replace HM3:=K1 (HM3.out.below hb10)
   clear hb10 CA c1
   go_wp2_with fail
   go_ret
   exact ⟨rfl,HM3.out.bel 0 rfl⟩
theorem topSerial_any {g:Gi} {w:World} (ha:g.At w) (ZA:Option Addr) (cap:Nat) (zs:List Int) (hz:Rd w w.heap.size ZA (zC zs)) (hm:zs.length≤9223372036854775807) :
  Calls Tryz.prog 3 #[.agg g.cells.toArray,.slice ZA zs.length cap] w fun e w'=>e=.returned (.bool true)∧Below w.heap.size w w':=by
 have CF0:∀ W,Below w.heap.size w W→Calls Tryz.prog 6 #[.agg g.cells.toArray,.slice ZA zs.length cap] W fun e w'=>e=.returned (.bool (g.few zs.length))∧Below W.heap.size W w':=fun W hb=>Gi.few_any (ha.below hb) ZA zs.length cap hm
 cases hf:g.few zs.length
 · rw [hf] at CF0
   exact topSerial_no ZA zs.length cap CF0
 · rw [hf] at CF0
   obtain ⟨hs,hl⟩:=Gi.few_small hf
   obtain ⟨i,hcells,hi,hia,_,hpl⟩:=Gi.inp hs ha
   have CT:∀ W,Below w.heap.size w W→Calls Tryz.prog 7 #[.agg g.cells.toArray] W fun e w'=>e=.returned (.int .i64 (totR i.r))∧Below W.heap.size W w':=fun W _ =>
    topTotal_any W hi.c (by have:=hi.p;omega) hpl
   have CI:∀ W,Below w.heap.size w W→Calls Tryz.prog 22 #[.agg g.cells.toArray] W fun e w'=>e=.returned (.int .i64 0)∧Below W.heap.size W w':=fun W hb=>by
    have:=Gi.input (ha.below hb)
    rw [hs.code] at this
    exact this
   rw [← hcells] at CF0 CT CI ⊢
   exact topSerial_yes hi hia ZA zs.length cap zs hz rfl hl CF0 CT CI
end Go.Proofs.YtdpojpcoghcieaaGreat
namespace Go.Proofs.YtdpojpcoghcieaaGreat
open Go.ChangeShapes Go.WideShapes Go.ChangeAt Go.RowKit Go.Deep
section
variable {H:Type} {enc:TypeId × Value→H} {P:Program}
theorem trodAll_stays (hl:laidOutB P=true) {W W':World} {sp:Nat→Bool}:∀ {ts:List TypeId} {vs:List Value} {ds:List (DataW H)} {ps:List MemPlace},(∀ t∈ts,P.readableRec t=true∧t<P.types.size) →
  DataW.TrodAll enc P W 0 (fun _=>true) true ts vs ds ps→(∀ p∈ps,W.sameAt W' p)→(∀ p∈ps,sp p.block=true)→DataW.TrodAll enc P W' 0 sp true ts vs ds ps
 | [],[],[],_,_,h,_,_=>h
 | t::ts,v::vs,d::ds,ps,ht,h,hs,hp=>by
   obtain ⟨p,q,h1,h2,rfl⟩:=h
   exact ⟨p,q,WideElems.Trod_stays hl (ht t (by simp)).1 (ht t (by simp)).2 h1 (fun x hx=>hs x (by simp [hx])) (fun x hx=>hp x (by simp [hx])),
    trodAll_stays hl (fun t' h'=>ht t' (by simp [h'])) h2 (fun x hx=>hs x (by simp [hx])) (fun x hx=>hp x (by simp [hx])),rfl⟩
 | [],_::_,_,_,_,h,_,_=>h.elim
 | [],[],_::_,_,_,h,_,_=>h.elim
 | _::_,[],_,_,_,h,_,_=>h.elim
 | _::_,_::_,[],_,_,h,_,_=>h.elim
theorem law_post {f:Func} {s:ChangeSpec} {apart fresh handsOn again:Bool} {W W':World} {args:Array Value} {ds gs:List (DataW H)} {before:List MemPlace} {tb:TypeId}
  (hl:laidOutB P=true) (hpb:(f.params.toList.all fun t=>P.readableRec t && decide (t<P.types.size))=true) (hrt:f.resultTypes=#[tb]) (htb:P.underlying tb=some .bool) (hv:s.vars=[])
  (hs:s.fn H (ds++gs)={ results:=[.lit (.bool true)],args:=ds })
  (hW:DataW.Whole enc P f.params.toList s.vars apart W args.toList ds gs before) (hb:Below W.heap.size W W'):s.post enc P f apart fresh handsOn again W args (.bool true) W':=by
 have hp:∀ t∈f.params.toList,P.readableRec t=true∧t<P.types.size:=fun t ht=>by
  have:=List.all_eq_true.1 hpb t ht
  simpa using this
 have hW':=hW
 obtain ⟨p,q,hA,hV,rfl,hfz,hnd⟩:=hW
 rw [hv] at hV
 obtain ⟨rfl,rfl⟩:=trodVars_none hV
 have hlt:∀ x∈p++([]:List MemPlace),x.block<W.heap.size:=fun x hx=>hW'.lt x hx
 have hlt':∀ x∈p,x.block<W.heap.size:=fun x hx=>hlt x (by simp [hx])
 have hargs:∀ sp:Nat→Bool,(∀ x∈p++([]:List MemPlace),sp x.block=true)→DataW.TrodAll enc P W' 0 sp true f.params.toList args.toList (s.fn H (ds++[])).args p:=fun sp hsp=>by
  rw [hs]
  exact trodAll_stays hl hp hA (fun x hx=>hb.same (hlt' x hx)) (fun x hx=>hsp x (by simp [hx]))
 have hres:∀ (b:Nat) (sp:Nat→Bool) (hd:Bool),DataW.TrodAll enc P W' b sp hd f.resultTypes.toList ((Value.bool true).resultList f.resultTypes.size) (s.fn H (ds++[])).results []:=fun _ _ _=>by
  rw [hs,hrt]
  exact trodAll_mk1 (shut_bool htb true)
 have hvars:∀ sp:Nat→Bool,(∀ x∈p++([]:List MemPlace),sp x.block=true)→DataW.TrodVars enc P W' sp s.vars (s.fn H (ds++[])).vars []:=fun _ _=>by
  rw [hv,hs]
  exact rfl
 have hold:∀ x∈p++([]:List MemPlace),(fun b=>decide (b<W.heap.size)) x.block=true:=fun x hx=>by simpa using hlt x hx
 refine ⟨ds,[],p++[],[],p,[],hW',hres _ _ _,hargs _ hold,hvars _ hold,World.keptBut_mono (fun x hx=>⟨hx,?_⟩) (hb.frame (·∈p++[])),fun _=>?_⟩
 · right;simpa using hx
 · refine ⟨?_,_,_,([]++p)++[],⟨[]++p,[],trodAll_append (hargs _ (fun _ _=>rfl)) (hres _ _ _),hvars _ (fun _ _=>rfl),rfl,?_,?_⟩,?_⟩
   · intro j t r ht hr
     rw [hrt] at ht hr
     match j with
     | 0 =>
       simp at ht
       subst ht
       simp [Value.resultList] at hr
       subst hr
       exact okWide_bool_mk htb true
     | j+1=>simp at ht
   · intro b off hx
     have hin:MemPlace.cell b off∈p++[]:=by simpa using hx
     rw [hb.frozen (hlt _ hin)]
     exact hfz b off hin
   · intro ha
     have:=hnd ha
     simpa using this
   · intro x hx _
     simpa using hx
theorem list12 {l:List Value} (h:l.length=12):∃ a0 a1 a2 a3 a4 a5 a6 a7 a8 a9 a10 a11,l=[a0,a1,a2,a3,a4,a5,a6,a7,a8,a9,a10,a11]:=by
 match l,h with
 | [a0,a1,a2,a3,a4,a5,a6,a7,a8,a9,a10,a11],_=>exact ⟨_,_,_,_,_,_,_,_,_,_,_,_,rfl⟩
theorem open_slice_int {w:World} {base:Nat} {spare:Nat→Bool} {held:Bool} {t e:TypeId} {k:IntKind} {fuel:Nat} {c:Value} {y:DataW H × List MemPlace} (ht:P.underlying t=some (.slice e)) (he:P.underlying e=some (.int k)) (hc:P.cellsOf e=1)
  (h:DataW.trod enc P w base spare held fuel t [c]=some y) :
  ∃ (A:Option Addr) (zs:List Int) (cap:Nat),c=.slice A zs.length cap∧zs.length≤cap∧zs.length≤9223372036854775807∧Rd w w.heap.size A (zs.map (Value.int k))∧∀ z∈zs,(Lit.int k z).wf=true:=by
 rcases open_ints ht he hc h with ⟨hcs,hx⟩ | ⟨a,len,cap,zs,hcs,_,hl,hm,hz,hx,hcell,hwz⟩
 · injection hcs with hcs _
   exact ⟨none,[],0,hcs,by simp,by simp,Rd.nil_ _ _ _,by simp⟩
 · injection hcs with hcs _
   have hlz:len≤zs.length:=by rw [hz];split <;> omega
   have htl:(zs.take len).length=len:=by simp;omega
   unfold maxLen at hm
   refine ⟨some a,zs.take len,cap,by rw [htl];exact hcs,by omega,by omega,fun h0=>?_,fun z hz=>hwz z (List.mem_of_mem_take hz)⟩
   have h0':0<zs.length:=by simp at h0;omega
   have c0:=hcell 0 h0'
   obtain ⟨b,off,spot⟩:=a
   have hsp:spot=none:=by
    cases spot with
    | none=>rfl
    | some s =>
      simp only [Addr.add,if_true,World.cell?] at c0
      split at c0 <;> simp at c0
   subst hsp
   refine ⟨b,off,rfl,World.block_lt_of_cell? w _ (by simpa [Addr.add] using c0),fun j u hu=>?_⟩
   rw [List.getElem?_map,List.getElem?_take] at hu
   split at hu
   · rename_i hj
     have hjz:j<zs.length:=by omega
     have:=hcell j hjz
     rw [show (⟨b,off,none⟩:Addr).add j=⟨b,off+j,none⟩ from by unfold Addr.add;split <;> simp_all] at this
     rw [this]
     simpa [List.getD,hjz] using hu
   · cases hu
end
end Go.Proofs.YtdpojpcoghcieaaGreat
