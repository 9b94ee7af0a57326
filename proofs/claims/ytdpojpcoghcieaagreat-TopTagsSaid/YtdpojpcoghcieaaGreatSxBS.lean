/- A part of the proof of TopTags: RefDoF, RefWNew. Conditions: none. -/
import Derived.Deep.CutBlock
import Derived.Great.BuildSlice
import Derived.Test.YtdpojpcoghcieaaGreatSxBP
set_option maxHeartbeats 8000000
set_option linter.all false
namespace Go.Proofs.YtdpojpcoghcieaaGreat
open Lib renaming hid → K1
open List renaming filterMap_cons → p1, filterMap_nil → p2, getElem?_cons_zero → p3, getElem?_cons_succ → p4
open Go.RowKit
set_option maxRecDepth 100000
open Value renaming int → U, slice → Us
open IntKind renaming i64 → O
open List renaming cons_append → Aj4, nil_append → Aj5, set_cons_zero → Aj6, set_cons_succ → Aj7, setIfInBounds_toArray → Aj8
open PlS renaming ef_ → Aj9, fin_ → Akf, reads_ → Akg
open After renaming go → Aka
open World renaming size_alloc → Akb
open And renaming intro → Akc
open Mem renaming start → Akd
open Inp renaming cells → Ake
open Nat renaming le_refl → Akh
section
theorem U1 (w:World) (i:Inp) (u:Nat) (m:Rm) (li lo:Rl) (hx:(Ak i.r.c i.r.p u)[m.d]?=none) (hd:m.d<=1000000) :
  Calls Tryz.prog 83 #[.agg (m.cells i u).toArray,.agg (li.cells i.r.c.ca).toArray,.agg (lo.cells i.r.c.ca).toArray] w fun e w'=>e=.returned (.tuple #[.agg (m.cells i u).toArray,.agg (li.cells i.r.c.ca).toArray,.agg (lo.cells i.r.c.ca).toArray,U O 13])/\Below w.heap.size w w':=by
 obtain ⟨AP,cP,AM,cM,AG,cG,AR,nR,cR,AI,cI,d⟩:=m;obtain ⟨lA,lc,lr,lp,lms⟩:=li;obtain ⟨oA,oc,orr,opp,oms⟩:=lo;have hq1:(Ak i.r.c i.r.p u).length<=d:=List.getElem?_eq_none_iff.1 hx
 have hm0:=((((((Akd w).alloc (.cells #[Us i.A i.r.ns.length i.cap,U O i.r.c.sh,U O i.r.c.ra,U O i.r.c.mo,U O i.r.c.k,U O i.r.c.ba,U O i.r.c.mi,U O i.r.c.st,U O i.r.c.bu,U O i.r.c.s,U O i.r.c.wi,U O i.r.c.ca,Us i.DA i.r.n i.dcap,Us i.SA i.r.p i.scap,Us i.RA i.r.ds.length i.rcap,U O u,Us AP i.r.p cP,Us AM i.r.p cM,Us AG i.r.p cG,Us AR nR cR,Us AI (Ak i.r.c i.r.p u).length cI,U O d] 69)).alloc (.cells #[U O i.r.c.ca,Us lA lms.length lc,U O lr,U O lp] 125)).alloc (.cells #[U O i.r.c.ca,Us oA oms.length oc,U O orr,U O opp] 125)).alloc (.cells #[Us none 0 0,U O 0,U O 0,U O 0,U O 0,U O 0,U O 0,U O 0,U O 0,U O 0,U O 0,U O 0,Us none 0 0,Us none 0 0,Us none 0 0,U O 0,Us none 0 0,Us none 0 0,Us none 0 0,Us none 0 0,Us none 0 0,U O 0] 69)).alloc (.cells #[U O 0,Us none 0 0,U O 0,U O 0] 125)).alloc (.cells #[U O 0,Us none 0 0,U O 0,U O 0] 125)
 simp only [Akb] at hm0;have hnn:=hm0
 try simp only [Aj4,Aj5,Aj6,Aj7,Aj8] at hnn
 have HM:=K1 hnn;clear hnn;dsimp only [Rm.cells,Ake,Rl.cells] at *;simp only [Aj4,Aj5];clear hm0 hx;go_enter Tryz.func83,Tryz.ntmps83;go_upto_region 1 with fail
 refine A9 fun W0 hW=>?_;replace HM:=K1 (hW.out.symm ▸ HM.out);clear hW;have c1:=HM.out.cells 1 rfl;go_upto_region 2 with fail
 clear c1;refine A9 fun WR hW=>?_;replace HM:=K1 (hW.out.symm ▸ HM.out);clear hW
 refine AC (.reads [0,1,2] (.eff 3 (.eff 4 (.eff 5 (.reads [6] (.fin)))))) 7 (fun W'=>W'.heap[w.heap.size]?=some (.cells #[Us i.A i.r.ns.length i.cap,U O i.r.c.sh,U O i.r.c.ra,U O i.r.c.mo,U O i.r.c.k,U O i.r.c.ba,U O i.r.c.mi,U O i.r.c.st,U O i.r.c.bu,U O i.r.c.s,U O i.r.c.wi,U O i.r.c.ca,Us i.DA i.r.n i.dcap,Us i.SA i.r.p i.scap,Us i.RA i.r.ds.length i.rcap,U O u,Us AP i.r.p cP,Us AM i.r.p cM,Us AG i.r.p cG,Us AR nR cR,Us AI (Ak i.r.c i.r.p u).length cI,U O d] 69 (0,0))/\W'.heap[(w.heap.size+1)]?=some (.cells #[U O i.r.c.ca,Us lA lms.length lc,U O lr,U O lp] 125 (0,0))/\W'.heap[(w.heap.size+1+1)]?=some (.cells #[U O i.r.c.ca,Us oA oms.length oc,U O orr,U O opp] 125 (0,0))) ?_
 replace HM:=K1 HM.out.drew;generalize WR.drew=VR at *;refine Akg ⟨HM.out.obj 1 rfl,HM.out.obj 2 rfl,HM.out.obj 3 rfl⟩ (by kernel_rfl) ?_;simp only [AW,p1,p2,p3,p4];apply Exists.intro;apply Akc
 . intro W' hS;obtain ⟨s1,s2,s3⟩:=hS;refine Du rfl _ _ rfl w.heap.size rfl _ _ _ s1 Tryz.underlying69 rfl (by kernel_rfl) ?_;refine Du rfl _ _ rfl (w.heap.size+1) rfl _ _ _ s2 Tryz.underlying125 rfl (by kernel_rfl) ?_;refine Du rfl _ _ rfl (w.heap.size+1+1) rfl _ _ _ s3 Tryz.underlying125 rfl (by kernel_rfl) ?_
   repeat still_step
   exact wpStill_nil rfl
 refine Aj9 ?_;refine Bt rfl _ _ _ rfl HM.out 4 rfl #[Us i.A i.r.ns.length i.cap,U O i.r.c.sh,U O i.r.c.ra,U O i.r.c.mo,U O i.r.c.k,U O i.r.c.ba,U O i.r.c.mi,U O i.r.c.st,U O i.r.c.bu,U O i.r.c.s,U O i.r.c.wi,U O i.r.c.ca,Us i.DA i.r.n i.dcap,Us i.SA i.r.p i.scap,Us i.RA i.r.ds.length i.rcap,U O u,Us AP i.r.p cP,Us AM i.r.p cM,Us AG i.r.p cG,Us AR nR cR,Us AI (Ak i.r.c i.r.p u).length cI,U O d] rfl rfl (by kernel_rfl) rfl rfl ?_;intro WS hmS;clear HM;have hnn:=hmS
 try simp only [Aj4,Aj5,Aj6,Aj7,Aj8] at hnn
 have HM:=K1 hnn;clear hnn;clear hmS;go_wp2_with fail;refine Aka ⟨HM.out.obj 1 rfl,HM.out.obj 2 rfl,HM.out.obj 3 rfl⟩ ?_;refine Aj9 ?_;refine Bt rfl _ _ _ rfl HM.out 5 rfl #[U O i.r.c.ca,Us lA lms.length lc,U O lr,U O lp] rfl rfl (by kernel_rfl) rfl rfl ?_;intro WS hmS;clear HM;have hnn:=hmS
 try simp only [Aj4,Aj5,Aj6,Aj7,Aj8] at hnn
 have HM:=K1 hnn;clear hnn;clear hmS;go_wp2_with fail;refine Aka ⟨HM.out.obj 1 rfl,HM.out.obj 2 rfl,HM.out.obj 3 rfl⟩ ?_;refine Aj9 ?_;refine Bt rfl _ _ _ rfl HM.out 6 rfl #[U O i.r.c.ca,Us oA oms.length oc,U O orr,U O opp] rfl rfl (by kernel_rfl) rfl rfl ?_;intro WS hmS;clear HM;have hnn:=hmS
 try simp only [Aj4,Aj5,Aj6,Aj7,Aj8] at hnn
 have HM:=K1 hnn;clear hnn;clear hmS;go_wp2_with fail;refine Aka ⟨HM.out.obj 1 rfl,HM.out.obj 2 rfl,HM.out.obj 3 rfl⟩ ?_;refine PlS.rc_ ⟨HM.out.obj 1 rfl,HM.out.obj 2 rfl,HM.out.obj 3 rfl⟩ ?_;refine Akf ?_;go_wp2_with fail;have o4:=HM.out.obj 4 rfl;have o5:=HM.out.obj 5 rfl;have o6:=HM.out.obj 6 rfl
 refine bodyPost_ret (v:=.tuple #[.agg #[Us i.A i.r.ns.length i.cap,U O i.r.c.sh,U O i.r.c.ra,U O i.r.c.mo,U O i.r.c.k,U O i.r.c.ba,U O i.r.c.mi,U O i.r.c.st,U O i.r.c.bu,U O i.r.c.s,U O i.r.c.wi,U O i.r.c.ca,Us i.DA i.r.n i.dcap,Us i.SA i.r.p i.scap,Us i.RA i.r.ds.length i.rcap,U O u,Us AP i.r.p cP,Us AM i.r.p cM,Us AG i.r.p cG,Us AR nR cR,Us AI (Ak i.r.c i.r.p u).length cI,U O d],.agg #[U O i.r.c.ca,Us lA lms.length lc,U O lr,U O lp],.agg #[U O i.r.c.ca,Us oA oms.length oc,U O orr,U O opp],U O 13]) (G3 Tryz.results83 _ _ _ _ _ _ _ _ _ _ _ _ _ _ rfl rfl rfl rfl o4 Tryz.underlying69 rfl (by kernel_rfl) o5 Tryz.underlying125 rfl (by kernel_rfl) o6 Tryz.underlying125 rfl (by kernel_rfl)) rfl ⟨?_,HM.out.bel 0 rfl⟩
 rfl
theorem U2 (w:World) (i:Inp) (hi:i.Ok) (ha:i.At w) (u v:Nat) (hu:u<i.r.c.k) (hv:v=(u+i.r.c.k-1) % i.r.c.k) (F:Nat->Prop) (m:Rm) (li lo:Rl) (x:It) (hm:Rm.In i u m F w) (hli:Rl.In i v li F w) (hlo:Rl.In i u lo F w) (hx:(Ak i.r.c i.r.p u)[m.d]?=some x) (hd:m.d<=1000000) (hb:li.ms.length<=1000000/\lo.ms.length<=1000000) (hk:x.kind=3) (hf:lo.re+i.r.c.ca<=lo.ms.length) :
  Calls Tryz.prog 83 #[.agg (m.cells i u).toArray,.agg (li.cells i.r.c.ca).toArray,.agg (lo.cells i.r.c.ca).toArray] w fun e w'=>e=.returned (.tuple #[.agg (m.cells i u).toArray,.agg (li.cells i.r.c.ca).toArray,.agg (lo.cells i.r.c.ca).toArray,U O 11])/\Below w.heap.size w w':=by
 have HKK:=K1 (Akc hk hf);clear hk hf;have hp60:=hi.p;obtain ⟨t,hts,hxi⟩:=Iw hx;obtain ⟨hst,hkd⟩:=FY hi.c hi.p.2 x hxi;have hrng:=Ie _ _ _ _ x hxi;unfold F2 at hrng;rw [<- hv] at hrng;have hnx:=(List.getElem?_eq_some_iff.1 hx).1;obtain ⟨AP,cP,AM,cM,AG,cG,AR,nR,cR,AI,cI,d⟩:=m;obtain ⟨lA,lc,lr,lp,lms⟩:=li;obtain ⟨oA,oc,orr,opp,oms⟩:=lo;obtain ⟨⟨hcP,hcM,hcG,hnR⟩,hP,hMo,hG,hR,hI⟩:=hm;dsimp only at *;obtain ⟨ps,hps,hpr⟩:=id hP;obtain ⟨mos,hms,hmr⟩:=id hMo;obtain ⟨gs,hgs,hgr⟩:=id hG;obtain ⟨bp,op,rfl,_,_⟩:=hpr.rd (by rw [Br];omega);obtain ⟨bm,om,rfl,_,_⟩:=hmr.rd (by rw [Br];omega)
 obtain ⟨bg,og,rfl,_,_⟩:=hgr.rd (by rw [Br];omega);have hil:(icells (Ak i.r.c i.r.p u)).length=(Ak i.r.c i.r.p u).length*12:=Dx It.cells 12 (fun _=>rfl) _;obtain ⟨bi,oi,rfl,_,_⟩:=hI.rd (by omega);have HI:=K1 (fun W (hb:Below w.heap.size w W)=>Gq ((hI.rd.below hb).more hb.size) hx);have HPR:=K1 (fun W (hb:Below w.heap.size w W)=>(hpr.rd.below hb).more hb.size);have HMR:=K1 (fun W (hb:Below w.heap.size w W)=>(hmr.rd.below hb).more hb.size);have HGR:=K1 (fun W (hb:Below w.heap.size w W)=>(hgr.rd.below hb).more hb.size);have KP:=K1 (fun W (hb:Below w.heap.size w W)=>(DB _ _).up hP hb)
 have KM:=K1 (fun W (hb:Below w.heap.size w W)=>(DB _ _).up hMo hb);have KG:=K1 (fun W (hb:Below w.heap.size w W)=>(DB _ _).up hG hb);have KGR:=K1 (fun W (hb:Below w.heap.size w W)=>(C8 _ _).up hgr hb);have KR:=K1 (fun W (hb:Below w.heap.size w W)=>(Iu _ _).up hR hb);have KI:=K1 (fun W (hb:Below w.heap.size w W)=>(C8 _ _).up hI hb);have KLI:=K1 (fun W (hb:Below w.heap.size w W)=>(Ck _ _ _).up hli hb);have KLO:=K1 (fun W (hb:Below w.heap.size w W)=>(Ck _ _ _).up hlo hb);have HLE:=K1 (show i.r.p<=cP/\i.r.p<=cM/\i.r.p<=cG/\nR<=d+1 from ⟨hcP,hcM,hcG,hnR⟩);have HPS:=K1 hps;have HMS:=K1 hms
 have HGS:=K1 hgs;have HLI:=K1 hli;have HLO:=K1 hlo;have HIO:=K1 hi;have HAT:=K1 (fun W (hb:Below w.heap.size w W)=>ha.below hb);have HR2:=K1 hR;have HBD:=K1 hb;obtain ⟨kd,xt,xn,⟨sd,aa,t1,t2,t3,t4,t5,x1,x2⟩⟩:=x;have HRG:=K1 hrng;have HXT:=K1 (show xt<i.r.c.st by have hst:xt=t:=hst;omega);have HKD:=K1 hkd
 have hm0:=((((((Akd w).alloc (.cells #[Us i.A i.r.ns.length i.cap,U O i.r.c.sh,U O i.r.c.ra,U O i.r.c.mo,U O i.r.c.k,U O i.r.c.ba,U O i.r.c.mi,U O i.r.c.st,U O i.r.c.bu,U O i.r.c.s,U O i.r.c.wi,U O i.r.c.ca,Us i.DA i.r.n i.dcap,Us i.SA i.r.p i.scap,Us i.RA i.r.ds.length i.rcap,U O u,Us (some ⟨bp,op,none⟩) i.r.p cP,Us (some ⟨bm,om,none⟩) i.r.p cM,Us (some ⟨bg,og,none⟩) i.r.p cG,Us AR nR cR,Us (some ⟨bi,oi,none⟩) (Ak i.r.c i.r.p u).length cI,U O d] 69)).alloc (.cells #[U O i.r.c.ca,Us lA lms.length lc,U O lr,U O lp] 125)).alloc (.cells #[U O i.r.c.ca,Us oA oms.length oc,U O orr,U O opp] 125)).alloc (.cells #[Us none 0 0,U O 0,U O 0,U O 0,U O 0,U O 0,U O 0,U O 0,U O 0,U O 0,U O 0,U O 0,Us none 0 0,Us none 0 0,Us none 0 0,U O 0,Us none 0 0,Us none 0 0,Us none 0 0,Us none 0 0,Us none 0 0,U O 0] 69)).alloc (.cells #[U O 0,Us none 0 0,U O 0,U O 0] 125)).alloc (.cells #[U O 0,Us none 0 0,U O 0,U O 0] 125)
 simp only [Akb] at hm0;have hnn:=hm0
 try simp only [Aj4,Aj5,Aj6,Aj7,Aj8] at hnn
 have HM:=K1 hnn;clear hnn;have hq1:¬ (Ak i.r.c i.r.p u).length<=d:=by omega
 have hq2:decide ((Ak i.r.c i.r.p u).length<=d)=false:=decide_eq_false hq1;dsimp only [Rm.cells,Ake,Rl.cells,itAt] at *;simp only [Aj4,Aj5];clear hm0 hP hMo hG hR hI hps hms hgs hpr hmr hgr hli hlo hi ha hx hxi hrng hkd hst hil hcP hcM hcG hnR hb hts;go_enter Tryz.func83,Tryz.ntmps83;go_upto_region 1 with fail
 refine A9 fun W0 hW=>?_;replace HM:=K1 (hW.out.symm ▸ HM.out);clear hW;have c1:=HM.out.cells 1 rfl;obtain ⟨i0,i1,i2,i3,i4,i5,i6,i7,i8,i9,i10,i11⟩:=HI.out _ (HM.out.bel 0 rfl);go_upto_region 4 with fail
 clear c1 i0 i1 i2 i3 i4 i5 i6 i7 i8 i9 i10 i11 HI;refine A9 fun W3 hW=>?_
 have hnn:=(hW.out.symm ▸ (HM.out.alloc (.cells #[U O kd,U O xt,U O xn,.bool sd,.bool aa,U O t1,U O t2,U O t3,U O t4,U O t5,U O x1,U O x2] 76)))
 try simp only [Aj4,Aj5,Aj6,Aj7,Aj8] at hnn
 replace HM:=K1 hnn;clear hnn;clear hW;generalize hg10:W0.heap.size=g10 at *;clear hg10;have c7:=HM.out.cells 7 rfl;go_upto_region 5 with fail
 clear c7;refine A9 fun W5 hW=>?_
 have hnn:=(hW.out.symm ▸ (HM.out.alloc (.cells #[U O x1,U O x2] 72)))
 try simp only [Aj4,Aj5,Aj6,Aj7,Aj8] at hnn
 replace HM:=K1 hnn;clear hnn;clear hW;generalize hg11:W3.heap.size=g11 at *;clear hg11;have c7:=HM.out.cells 7 rfl
 go_upto_block 0 with fail
 clear c7;have c7:=HM.out.cells 7 rfl
 go_upto_if 42 with fail
 clear c7;have hk:kd=3:=HKK.out.1;have hf:orr+i.r.c.ca<=oms.length:=HKK.out.2;subst hk
 have hn:AcOk i.r.p (plBs i.r.c i.r.p).length i.r.c.k t ⟨sd,aa,t1,t2,t3,t4,t5,x1,x2⟩:=by
  rcases HKD.out with ⟨h,_⟩ | ⟨h,_⟩ | ⟨_,h⟩ | ⟨h,_⟩ | ⟨h,_⟩ | h
  . exact absurd (show 3=1 from h) (by decide)
  . exact absurd (show 3=2 from h) (by decide)
  . exact h
  . exact absurd (show 3=4 from h) (by decide)
  . exact absurd (show 3=5 from h) (by decide)
  . exact absurd (show 3=6 from h) (by decide)
 have CS:=K1 (fun W=>So W oA (some ⟨bg,og+x1,none⟩) i.r.c.ca oms.length oc orr opp (oms.length-orr) (x2-x1) (cG-x1) ⟨t1,t2,t3,t4,t5⟩ (by have h1:orr<=oms.length:=HLO.out.1.1;omega) (by have h2:oms.length<=1000000:=HBD.out.2;omega) (by have h1:orr+i.r.c.ca<=oms.length:=hf;omega));have hcg:=HLE.out.2.2.1;have hlt:x1<x2:=hn.lt;have hhi:x2<=i.r.p:=hn.hi;have hlc:x1≠cG:=by omega
 have hlc2:¬ cG=x1:=by omega
 have hle:x1<=x2:=by omega
 have hhc:x2<=cG:=by omega
 clear hn hcg hf;have hnn:=HM.out.hole_
 try simp only [Aj4,Aj5,Aj6,Aj7,Aj8] at hnn
 replace HM:=K1 hnn;clear hnn;go_upto_region 12 with fail
 refine A9 fun W8 hW=>?_;replace HM:=K1 (hW.out.symm ▸ HM.out);clear hW
 refine AC (.reads [0,1,2,3,4,5,6,7,8,9,10,11] (.two 12 16 (.reads [13,14,15] (.eff 16 (.eff 17 (.reads [18] (.fin))))) (.eff 12 (.reads [13,14,15] (.eff 17 (.reads [18] (.fin))))))) 19 (fun W'=>(∀ zz,W'.cell? ⟨w.heap.size,zz,none⟩=([Us i.A i.r.ns.length i.cap,U O i.r.c.sh,U O i.r.c.ra,U O i.r.c.mo,U O i.r.c.k,U O i.r.c.ba,U O i.r.c.mi,U O i.r.c.st,U O i.r.c.bu,U O i.r.c.s,U O i.r.c.wi,U O i.r.c.ca,Us i.DA i.r.n i.dcap,Us i.SA i.r.p i.scap,Us i.RA i.r.ds.length i.rcap,U O u,Us (some ⟨bp,op,none⟩) i.r.p cP,Us (some ⟨bm,om,none⟩) i.r.p cM,Us (some ⟨bg,og,none⟩) i.r.p cG,Us AR nR cR,Us (some ⟨bi,oi,none⟩) (Ak i.r.c i.r.p u).length cI,U O d]:List Value)[zz]?)/\(∀ zz,W'.cell? ⟨(w.heap.size+1+1),zz,none⟩=([U O i.r.c.ca,Us oA oms.length oc,U O orr,U O opp]:List Value)[zz]?)/\(∀ zz,W'.cell? ⟨g10,zz,none⟩=([U O (3:Nat),U O xt,U O xn,.bool sd,.bool aa,U O t1,U O t2,U O t3,U O t4,U O t5,U O x1,U O x2]:List Value)[zz]?)/\(∀ zz,W'.cell? ⟨g11,zz,none⟩=([U O x1,U O x2]:List Value)[zz]?)) ?_
 replace HM:=K1 HM.out.drew;generalize W8.drew=V8 at *
 repeat' (first
  | (refine PlS.two_ ?_ ?_
     skip)
  | (refine PlS.rd_ ⟨HM.out.cells 1 rfl,HM.out.cells 3 rfl,HM.out.cells 7 rfl,HM.out.cells 8 rfl⟩ ?_)
  | (refine Aj9 (k:=12) ?_
     go_wp2_with fail;refine (CS.out _).mono ?_;rintro e w9 ⟨rfl,hb⟩;replace HM:=K1 (HM.out.below hb);clear hb;go_wp2_with fail
     refine Aka ⟨HM.out.cells 1 rfl,HM.out.cells 3 rfl,HM.out.cells 7 rfl,HM.out.cells 8 rfl⟩ ?_)
  | (refine Aj9 (k:=16) ?_
     obtain ⟨g16,hgg,Hg16,hmm⟩:=HM.out.allocFit rfl (.cells #[U O 0,Us none 0 0,U O 0,U O 0] 125) 9 rfl;go_wp2_with fail;rw [<- hgg];refine AH fun W16 hW=>?_
     have hnn:=(hW.out.symm ▸ hmm)
     try simp only [Aj4,Aj5,Aj6,Aj7,Aj8] at hnn
     have HM:=K1 hnn;clear hnn;clear hW hmm hgg
     refine Aka ⟨HM.out.cells 1 rfl,HM.out.cells 3 rfl,HM.out.cells 7 rfl,HM.out.cells 8 rfl⟩ ?_)
  | (refine Aj9 (k:=17) ?_
     refine Bt rfl _ _ _ rfl HM.out 9 rfl #[U O i.r.c.ca,Us oA oms.length oc,U O orr,U O opp] rfl rfl (by kernel_rfl) rfl rfl ?_;intro W17 hm17;have hnn:=hm17
     try simp only [Aj4,Aj5,Aj6,Aj7,Aj8] at hnn
     have HM:=K1 hnn;clear hnn;clear hm17;go_wp2_with fail
     refine Aka ⟨HM.out.cells 1 rfl,HM.out.cells 3 rfl,HM.out.cells 7 rfl,HM.out.cells 8 rfl⟩ ?_)
  | (refine Akf ?_
     go_wp2_with fail;refine A9 fun WR hW=>?_;replace HM:=K1 (hW.out.symm ▸ HM.out);clear hW
     refine AC (.reads [0,1,2,3] (.eff 4 (.eff 5 (.eff 6 (.reads [7] (.fin)))))) 8 (fun W'=>W'.heap[w.heap.size]?=some (.cells #[Us i.A i.r.ns.length i.cap,U O i.r.c.sh,U O i.r.c.ra,U O i.r.c.mo,U O i.r.c.k,U O i.r.c.ba,U O i.r.c.mi,U O i.r.c.st,U O i.r.c.bu,U O i.r.c.s,U O i.r.c.wi,U O i.r.c.ca,Us i.DA i.r.n i.dcap,Us i.SA i.r.p i.scap,Us i.RA i.r.ds.length i.rcap,U O u,Us (some ⟨bp,op,none⟩) i.r.p cP,Us (some ⟨bm,om,none⟩) i.r.p cM,Us (some ⟨bg,og,none⟩) i.r.p cG,Us AR nR cR,Us (some ⟨bi,oi,none⟩) (Ak i.r.c i.r.p u).length cI,U O d] 69 (0,0))/\W'.heap[(w.heap.size+1)]?=some (.cells #[U O i.r.c.ca,Us lA lms.length lc,U O lr,U O lp] 125 (0,0))/\W'.heap[(w.heap.size+1+1)]?=some (.cells #[U O i.r.c.ca,Us oA oms.length oc,U O orr,U O opp] 125 (0,0))) ?_
     replace HM:=K1 HM.out.drew;generalize WR.drew=VR at *;refine Akg ⟨HM.out.obj 1 rfl,HM.out.obj 2 rfl,HM.out.obj 3 rfl⟩ (by kernel_rfl) ?_;simp only [AW,p1,p2,p3,p4];apply Exists.intro;apply Akc
     . intro W' hS;obtain ⟨s1,s2,s3⟩:=hS;refine Du rfl _ _ rfl w.heap.size rfl _ _ _ s1 Tryz.underlying69 rfl (by kernel_rfl) ?_;refine Du rfl _ _ rfl (w.heap.size+1) rfl _ _ _ s2 Tryz.underlying125 rfl (by kernel_rfl) ?_;refine Du rfl _ _ rfl (w.heap.size+1+1) rfl _ _ _ s3 Tryz.underlying125 rfl (by kernel_rfl) ?_
       repeat still_step
       exact wpStill_nil rfl
     refine Aj9 ?_;refine Bt rfl _ _ _ rfl HM.out 4 rfl #[Us i.A i.r.ns.length i.cap,U O i.r.c.sh,U O i.r.c.ra,U O i.r.c.mo,U O i.r.c.k,U O i.r.c.ba,U O i.r.c.mi,U O i.r.c.st,U O i.r.c.bu,U O i.r.c.s,U O i.r.c.wi,U O i.r.c.ca,Us i.DA i.r.n i.dcap,Us i.SA i.r.p i.scap,Us i.RA i.r.ds.length i.rcap,U O u,Us (some ⟨bp,op,none⟩) i.r.p cP,Us (some ⟨bm,om,none⟩) i.r.p cM,Us (some ⟨bg,og,none⟩) i.r.p cG,Us AR nR cR,Us (some ⟨bi,oi,none⟩) (Ak i.r.c i.r.p u).length cI,U O d] rfl rfl (by kernel_rfl) rfl rfl ?_;intro WS hmS;clear HM;have hnn:=hmS
     try simp only [Aj4,Aj5,Aj6,Aj7,Aj8] at hnn
     have HM:=K1 hnn;clear hnn;clear hmS;go_wp2_with fail;refine Aka ⟨HM.out.obj 1 rfl,HM.out.obj 2 rfl,HM.out.obj 3 rfl⟩ ?_;refine Aj9 ?_;refine Bt rfl _ _ _ rfl HM.out 5 rfl #[U O i.r.c.ca,Us lA lms.length lc,U O lr,U O lp] rfl rfl (by kernel_rfl) rfl rfl ?_;intro WS hmS;clear HM;have hnn:=hmS
     try simp only [Aj4,Aj5,Aj6,Aj7,Aj8] at hnn
     have HM:=K1 hnn;clear hnn;clear hmS;go_wp2_with fail;refine Aka ⟨HM.out.obj 1 rfl,HM.out.obj 2 rfl,HM.out.obj 3 rfl⟩ ?_;refine Aj9 ?_;refine Bt rfl _ _ _ rfl HM.out 6 rfl #[U O i.r.c.ca,Us oA oms.length oc,U O orr,U O opp] rfl rfl (by kernel_rfl) rfl rfl ?_;intro WS hmS;clear HM;have hnn:=hmS
     try simp only [Aj4,Aj5,Aj6,Aj7,Aj8] at hnn
     have HM:=K1 hnn;clear hnn;clear hmS;go_wp2_with fail;refine Aka ⟨HM.out.obj 1 rfl,HM.out.obj 2 rfl,HM.out.obj 3 rfl⟩ ?_;refine PlS.rc_ ⟨HM.out.obj 1 rfl,HM.out.obj 2 rfl,HM.out.obj 3 rfl⟩ ?_;refine Akf ?_;go_wp2_with fail;have o4:=HM.out.obj 4 rfl;have o5:=HM.out.obj 5 rfl;have o6:=HM.out.obj 6 rfl
     refine bodyPost_ret (v:=.tuple #[.agg #[Us i.A i.r.ns.length i.cap,U O i.r.c.sh,U O i.r.c.ra,U O i.r.c.mo,U O i.r.c.k,U O i.r.c.ba,U O i.r.c.mi,U O i.r.c.st,U O i.r.c.bu,U O i.r.c.s,U O i.r.c.wi,U O i.r.c.ca,Us i.DA i.r.n i.dcap,Us i.SA i.r.p i.scap,Us i.RA i.r.ds.length i.rcap,U O u,Us (some ⟨bp,op,none⟩) i.r.p cP,Us (some ⟨bm,om,none⟩) i.r.p cM,Us (some ⟨bg,og,none⟩) i.r.p cG,Us AR nR cR,Us (some ⟨bi,oi,none⟩) (Ak i.r.c i.r.p u).length cI,U O d],.agg #[U O i.r.c.ca,Us lA lms.length lc,U O lr,U O lp],.agg #[U O i.r.c.ca,Us oA oms.length oc,U O orr,U O opp],U O 11]) (G3 Tryz.results83 _ _ _ _ _ _ _ _ _ _ _ _ _ _ rfl rfl rfl rfl o4 Tryz.underlying69 rfl (by kernel_rfl) o5 Tryz.underlying125 rfl (by kernel_rfl) o6 Tryz.underlying125 rfl (by kernel_rfl)) rfl ⟨?_,HM.out.bel 0 rfl⟩
     rfl))
theorem U3 (w:World) (i:Inp) (hi:i.Ok) (ha:i.At w) (u v:Nat) (hu:u<i.r.c.k) (hv:v=(u+i.r.c.k-1) % i.r.c.k) (F:Nat->Prop) (m:Rm) (li lo:Rl) (x:It) (hm:Rm.In i u m F w) (hli:Rl.In i v li F w) (hlo:Rl.In i u lo F w) (hx:(Ak i.r.c i.r.p u)[m.d]?=some x) (hd:m.d<=1000000) (hb:li.ms.length<=1000000/\lo.ms.length<=1000000) (hk:x.kind=4) (hf:li.re=li.ms.length) :
  Calls Tryz.prog 83 #[.agg (m.cells i u).toArray,.agg (li.cells i.r.c.ca).toArray,.agg (lo.cells i.r.c.ca).toArray] w fun e w'=>e=.returned (.tuple #[.agg (m.cells i u).toArray,.agg (li.cells i.r.c.ca).toArray,.agg (lo.cells i.r.c.ca).toArray,U O 12])/\Below w.heap.size w w':=by
 have HKK:=K1 (Akc hk hf);clear hk hf;have hp60:=hi.p;obtain ⟨t,hts,hxi⟩:=Iw hx;obtain ⟨hst,hkd⟩:=FY hi.c hi.p.2 x hxi;have hrng:=Ie _ _ _ _ x hxi;unfold F2 at hrng;rw [<- hv] at hrng;have hnx:=(List.getElem?_eq_some_iff.1 hx).1;obtain ⟨AP,cP,AM,cM,AG,cG,AR,nR,cR,AI,cI,d⟩:=m;obtain ⟨lA,lc,lr,lp,lms⟩:=li;obtain ⟨oA,oc,orr,opp,oms⟩:=lo;obtain ⟨⟨hcP,hcM,hcG,hnR⟩,hP,hMo,hG,hR,hI⟩:=hm;dsimp only at *;obtain ⟨ps,hps,hpr⟩:=id hP;obtain ⟨mos,hms,hmr⟩:=id hMo;obtain ⟨gs,hgs,hgr⟩:=id hG;obtain ⟨bp,op,rfl,_,_⟩:=hpr.rd (by rw [Br];omega);obtain ⟨bm,om,rfl,_,_⟩:=hmr.rd (by rw [Br];omega)
 obtain ⟨bg,og,rfl,_,_⟩:=hgr.rd (by rw [Br];omega);have hil:(icells (Ak i.r.c i.r.p u)).length=(Ak i.r.c i.r.p u).length*12:=Dx It.cells 12 (fun _=>rfl) _;obtain ⟨bi,oi,rfl,_,_⟩:=hI.rd (by omega);have HI:=K1 (fun W (hb:Below w.heap.size w W)=>Gq ((hI.rd.below hb).more hb.size) hx);have HPR:=K1 (fun W (hb:Below w.heap.size w W)=>(hpr.rd.below hb).more hb.size);have HMR:=K1 (fun W (hb:Below w.heap.size w W)=>(hmr.rd.below hb).more hb.size);have HGR:=K1 (fun W (hb:Below w.heap.size w W)=>(hgr.rd.below hb).more hb.size);have KP:=K1 (fun W (hb:Below w.heap.size w W)=>(DB _ _).up hP hb)
 have KM:=K1 (fun W (hb:Below w.heap.size w W)=>(DB _ _).up hMo hb);have KG:=K1 (fun W (hb:Below w.heap.size w W)=>(DB _ _).up hG hb);have KGR:=K1 (fun W (hb:Below w.heap.size w W)=>(C8 _ _).up hgr hb);have KR:=K1 (fun W (hb:Below w.heap.size w W)=>(Iu _ _).up hR hb);have KI:=K1 (fun W (hb:Below w.heap.size w W)=>(C8 _ _).up hI hb);have KLI:=K1 (fun W (hb:Below w.heap.size w W)=>(Ck _ _ _).up hli hb);have KLO:=K1 (fun W (hb:Below w.heap.size w W)=>(Ck _ _ _).up hlo hb);have HLE:=K1 (show i.r.p<=cP/\i.r.p<=cM/\i.r.p<=cG/\nR<=d+1 from ⟨hcP,hcM,hcG,hnR⟩);have HPS:=K1 hps;have HMS:=K1 hms
 have HGS:=K1 hgs;have HLI:=K1 hli;have HLO:=K1 hlo;have HIO:=K1 hi;have HAT:=K1 (fun W (hb:Below w.heap.size w W)=>ha.below hb);have HR2:=K1 hR;have HBD:=K1 hb;obtain ⟨kd,xt,xn,⟨sd,aa,t1,t2,t3,t4,t5,x1,x2⟩⟩:=x;have HRG:=K1 hrng;have HXT:=K1 (show xt<i.r.c.st by have hst:xt=t:=hst;omega);have HKD:=K1 hkd
 have hm0:=((((((Akd w).alloc (.cells #[Us i.A i.r.ns.length i.cap,U O i.r.c.sh,U O i.r.c.ra,U O i.r.c.mo,U O i.r.c.k,U O i.r.c.ba,U O i.r.c.mi,U O i.r.c.st,U O i.r.c.bu,U O i.r.c.s,U O i.r.c.wi,U O i.r.c.ca,Us i.DA i.r.n i.dcap,Us i.SA i.r.p i.scap,Us i.RA i.r.ds.length i.rcap,U O u,Us (some ⟨bp,op,none⟩) i.r.p cP,Us (some ⟨bm,om,none⟩) i.r.p cM,Us (some ⟨bg,og,none⟩) i.r.p cG,Us AR nR cR,Us (some ⟨bi,oi,none⟩) (Ak i.r.c i.r.p u).length cI,U O d] 69)).alloc (.cells #[U O i.r.c.ca,Us lA lms.length lc,U O lr,U O lp] 125)).alloc (.cells #[U O i.r.c.ca,Us oA oms.length oc,U O orr,U O opp] 125)).alloc (.cells #[Us none 0 0,U O 0,U O 0,U O 0,U O 0,U O 0,U O 0,U O 0,U O 0,U O 0,U O 0,U O 0,Us none 0 0,Us none 0 0,Us none 0 0,U O 0,Us none 0 0,Us none 0 0,Us none 0 0,Us none 0 0,Us none 0 0,U O 0] 69)).alloc (.cells #[U O 0,Us none 0 0,U O 0,U O 0] 125)).alloc (.cells #[U O 0,Us none 0 0,U O 0,U O 0] 125)
 simp only [Akb] at hm0;have hnn:=hm0
 try simp only [Aj4,Aj5,Aj6,Aj7,Aj8] at hnn
 have HM:=K1 hnn;clear hnn;have hq1:¬ (Ak i.r.c i.r.p u).length<=d:=by omega
 have hq2:decide ((Ak i.r.c i.r.p u).length<=d)=false:=decide_eq_false hq1;dsimp only [Rm.cells,Ake,Rl.cells,itAt] at *;simp only [Aj4,Aj5];clear hm0 hP hMo hG hR hI hps hms hgs hpr hmr hgr hli hlo hi ha hx hxi hrng hkd hst hil hcP hcM hcG hnR hb hts;go_enter Tryz.func83,Tryz.ntmps83;go_upto_region 1 with fail
 refine A9 fun W0 hW=>?_;replace HM:=K1 (hW.out.symm ▸ HM.out);clear hW;have c1:=HM.out.cells 1 rfl;obtain ⟨i0,i1,i2,i3,i4,i5,i6,i7,i8,i9,i10,i11⟩:=HI.out _ (HM.out.bel 0 rfl);go_upto_region 4 with fail
 clear c1 i0 i1 i2 i3 i4 i5 i6 i7 i8 i9 i10 i11 HI;refine A9 fun W3 hW=>?_
 have hnn:=(hW.out.symm ▸ (HM.out.alloc (.cells #[U O kd,U O xt,U O xn,.bool sd,.bool aa,U O t1,U O t2,U O t3,U O t4,U O t5,U O x1,U O x2] 76)))
 try simp only [Aj4,Aj5,Aj6,Aj7,Aj8] at hnn
 replace HM:=K1 hnn;clear hnn;clear hW;generalize hg10:W0.heap.size=g10 at *;clear hg10;have c7:=HM.out.cells 7 rfl;go_upto_region 5 with fail
 clear c7;refine A9 fun W5 hW=>?_
 have hnn:=(hW.out.symm ▸ (HM.out.alloc (.cells #[U O x1,U O x2] 72)))
 try simp only [Aj4,Aj5,Aj6,Aj7,Aj8] at hnn
 replace HM:=K1 hnn;clear hnn;clear hW;generalize hg11:W3.heap.size=g11 at *;clear hg11;have c7:=HM.out.cells 7 rfl
 go_upto_block 0 with fail
 clear c7;have c7:=HM.out.cells 7 rfl
 go_upto_if 42 with fail
 clear c7;have hk:kd=4:=HKK.out.1;subst hk;have hf:lr=lms.length:=HKK.out.2;subst hf;have CR:=K1 (fun W=>Sq W lA i.r.c.ca lms.length lc lp ⟨t1,t2,t3,t4,t5⟩ HBD.out.1);have b1:=HM.out.cells 2 rfl;have b2:=HM.out.cells 7 rfl;go_wp2_with fail;clear b1 b2;refine (CR.out _).mono ?_;rintro e w9 ⟨rfl,hb⟩;have hma:=((HM.out.below hb).alloc (.cells #[U O 0,Us none 0 0,U O 0,U O 0] 125)).alloc (.cells #[U O 0,U O 0,U O 0,U O 0,U O 0,Us none 0 0] 78);simp only [Akb] at hma;have hnn:=hma
 try simp only [Aj4,Aj5,Aj6,Aj7,Aj8] at hnn
 have HMa:=K1 hnn;clear hnn;clear hma hb CR HM
 go_upto_region 19 with (first | (refine Bt rfl _ _ _ rfl HMa.out 9 rfl #[U O i.r.c.ca,Us lA lms.length lc,U O lms.length,U O lp] rfl rfl (by kernel_rfl) rfl rfl ?_;intro Wa hm1;have HMb:=K1 hm1;clear hm1) | (refine Bt rfl _ _ _ rfl HMb.out 10 rfl #[U O 0,U O 0,U O 0,U O 0,U O 0,Us none 0 0] rfl rfl (by kernel_rfl) rfl rfl ?_;intro Wb hm1;have HMc:=K1 hm1;clear hm1))
 clear HMa HMb;have HM:=K1 HMc.out;clear HMc;refine A9 fun WR hW=>?_;replace HM:=K1 (hW.out.symm ▸ HM.out);clear hW
 refine AC (.reads [0,1,2,3] (.eff 4 (.eff 5 (.eff 6 (.reads [7] (.fin)))))) 8 (fun W'=>W'.heap[w.heap.size]?=some (.cells #[Us i.A i.r.ns.length i.cap,U O i.r.c.sh,U O i.r.c.ra,U O i.r.c.mo,U O i.r.c.k,U O i.r.c.ba,U O i.r.c.mi,U O i.r.c.st,U O i.r.c.bu,U O i.r.c.s,U O i.r.c.wi,U O i.r.c.ca,Us i.DA i.r.n i.dcap,Us i.SA i.r.p i.scap,Us i.RA i.r.ds.length i.rcap,U O u,Us (some ⟨bp,op,none⟩) i.r.p cP,Us (some ⟨bm,om,none⟩) i.r.p cM,Us (some ⟨bg,og,none⟩) i.r.p cG,Us AR nR cR,Us (some ⟨bi,oi,none⟩) (Ak i.r.c i.r.p u).length cI,U O d] 69 (0,0))/\W'.heap[(w.heap.size+1)]?=some (.cells #[U O i.r.c.ca,Us lA lms.length lc,U O lms.length,U O lp] 125 (0,0))/\W'.heap[(w.heap.size+1+1)]?=some (.cells #[U O i.r.c.ca,Us oA oms.length oc,U O orr,U O opp] 125 (0,0))) ?_
 replace HM:=K1 HM.out.drew;generalize WR.drew=VR at *;refine Akg ⟨HM.out.obj 1 rfl,HM.out.obj 2 rfl,HM.out.obj 3 rfl⟩ (by kernel_rfl) ?_;simp only [AW,p1,p2,p3,p4];apply Exists.intro;apply Akc
 . intro W' hS;obtain ⟨s1,s2,s3⟩:=hS;refine Du rfl _ _ rfl w.heap.size rfl _ _ _ s1 Tryz.underlying69 rfl (by kernel_rfl) ?_;refine Du rfl _ _ rfl (w.heap.size+1) rfl _ _ _ s2 Tryz.underlying125 rfl (by kernel_rfl) ?_;refine Du rfl _ _ rfl (w.heap.size+1+1) rfl _ _ _ s3 Tryz.underlying125 rfl (by kernel_rfl) ?_
   repeat still_step
   exact wpStill_nil rfl
 refine Aj9 ?_;refine Bt rfl _ _ _ rfl HM.out 4 rfl #[Us i.A i.r.ns.length i.cap,U O i.r.c.sh,U O i.r.c.ra,U O i.r.c.mo,U O i.r.c.k,U O i.r.c.ba,U O i.r.c.mi,U O i.r.c.st,U O i.r.c.bu,U O i.r.c.s,U O i.r.c.wi,U O i.r.c.ca,Us i.DA i.r.n i.dcap,Us i.SA i.r.p i.scap,Us i.RA i.r.ds.length i.rcap,U O u,Us (some ⟨bp,op,none⟩) i.r.p cP,Us (some ⟨bm,om,none⟩) i.r.p cM,Us (some ⟨bg,og,none⟩) i.r.p cG,Us AR nR cR,Us (some ⟨bi,oi,none⟩) (Ak i.r.c i.r.p u).length cI,U O d] rfl rfl (by kernel_rfl) rfl rfl ?_;intro WS hmS;clear HM;have hnn:=hmS
 try simp only [Aj4,Aj5,Aj6,Aj7,Aj8] at hnn
 have HM:=K1 hnn;clear hnn;clear hmS;go_wp2_with fail;refine Aka ⟨HM.out.obj 1 rfl,HM.out.obj 2 rfl,HM.out.obj 3 rfl⟩ ?_;refine Aj9 ?_;refine Bt rfl _ _ _ rfl HM.out 5 rfl #[U O i.r.c.ca,Us lA lms.length lc,U O lms.length,U O lp] rfl rfl (by kernel_rfl) rfl rfl ?_;intro WS hmS;clear HM;have hnn:=hmS
 try simp only [Aj4,Aj5,Aj6,Aj7,Aj8] at hnn
 have HM:=K1 hnn;clear hnn;clear hmS;go_wp2_with fail;refine Aka ⟨HM.out.obj 1 rfl,HM.out.obj 2 rfl,HM.out.obj 3 rfl⟩ ?_;refine Aj9 ?_;refine Bt rfl _ _ _ rfl HM.out 6 rfl #[U O i.r.c.ca,Us oA oms.length oc,U O orr,U O opp] rfl rfl (by kernel_rfl) rfl rfl ?_;intro WS hmS;clear HM;have hnn:=hmS
 try simp only [Aj4,Aj5,Aj6,Aj7,Aj8] at hnn
 have HM:=K1 hnn;clear hnn;clear hmS;go_wp2_with fail;refine Aka ⟨HM.out.obj 1 rfl,HM.out.obj 2 rfl,HM.out.obj 3 rfl⟩ ?_;refine PlS.rc_ ⟨HM.out.obj 1 rfl,HM.out.obj 2 rfl,HM.out.obj 3 rfl⟩ ?_;refine Akf ?_;go_wp2_with fail;have o4:=HM.out.obj 4 rfl;have o5:=HM.out.obj 5 rfl;have o6:=HM.out.obj 6 rfl
 refine bodyPost_ret (v:=.tuple #[.agg #[Us i.A i.r.ns.length i.cap,U O i.r.c.sh,U O i.r.c.ra,U O i.r.c.mo,U O i.r.c.k,U O i.r.c.ba,U O i.r.c.mi,U O i.r.c.st,U O i.r.c.bu,U O i.r.c.s,U O i.r.c.wi,U O i.r.c.ca,Us i.DA i.r.n i.dcap,Us i.SA i.r.p i.scap,Us i.RA i.r.ds.length i.rcap,U O u,Us (some ⟨bp,op,none⟩) i.r.p cP,Us (some ⟨bm,om,none⟩) i.r.p cM,Us (some ⟨bg,og,none⟩) i.r.p cG,Us AR nR cR,Us (some ⟨bi,oi,none⟩) (Ak i.r.c i.r.p u).length cI,U O d],.agg #[U O i.r.c.ca,Us lA lms.length lc,U O lms.length,U O lp],.agg #[U O i.r.c.ca,Us oA oms.length oc,U O orr,U O opp],U O 12]) (G3 Tryz.results83 _ _ _ _ _ _ _ _ _ _ _ _ _ _ rfl rfl rfl rfl o4 Tryz.underlying69 rfl (by kernel_rfl) o5 Tryz.underlying125 rfl (by kernel_rfl) o6 Tryz.underlying125 rfl (by kernel_rfl)) rfl ⟨?_,HM.out.bel 0 rfl⟩
 rfl
theorem N4:(Tryz.prog.info? 69).map (fun i=>(i.zero,i.size,i.bytes))=some (some (.agg #[Us none 0 0,U O 0,U O 0,U O 0,U O 0,U O 0,U O 0,U O 0,U O 0,U O 0,U O 0,U O 0,Us none 0 0,Us none 0 0,Us none 0 0,U O 0,Us none 0 0,Us none 0 0,Us none 0 0,Us none 0 0,Us none 0 0,U O 0]),22,320):=by kernel_rfl
theorem N6:RowT Tryz.prog 53 69 22 320:=by
 obtain ⟨i0,hi,hz0,hz1,hz2⟩:=info_parts N4;exact ⟨i0,_,Tryz.underlying53,hi,hz0,hz1,hz2,rfl,by decide,by decide⟩
theorem U4:(Tryz.prog.info? 125).map (fun i=>(i.zero,i.size,i.bytes))=some (some (.agg #[U O 0,Us none 0 0,U O 0,U O 0]),4,48):=by kernel_rfl
theorem N7:RowT Tryz.prog 54 125 4 48:=by
 obtain ⟨i0,hi,hz0,hz1,hz2⟩:=info_parts U4;exact ⟨i0,_,Tryz.underlying54,hi,hz0,hz1,hz2,rfl,by decide,by decide⟩
section
variable {ops:Array Oper} {rest:List Oper} {o:Oper} {a:Act} {w:World} {Q:Exit->Act->World->Prop}
theorem U5 (hg:o.guard=none) (x:Operand) (ho:o.op=.buildSlice 53 1 #[(0,x)]) (i:Inp) (u:Nat) (m:Rm) (hx:a.eval x=.agg (m.cells i u).toArray)
  (h:wpList Tryz.prog ops Q rest (a.put o.dst (Us (some ⟨w.heap.size,0,none⟩) 1 1)) (w.alloc (.cells (m.cells i u).toArray 69))):wpList Tryz.prog ops Q (o::rest) a w:=by
 obtain ⟨i0,hi,hz0,hz1,hz2⟩:=info_parts N4;refine wpList_buildSlice hg _ _ 1 _ ho _ i0 _ Tryz.underlying53 hi hz0 (by rw [hz1];decide) (by rw [hz1];decide) ?_ h;rw [hz1];have e:((#[(0,x)]:Array (Nat × Operand)).map fun (i,x)=>(i,a.eval x)).toList=[(0,.agg (m.cells i u).toArray)]:=by simp [hx]
 have key:∀ z:Value,z=.agg #[Us none 0 0,U O 0,U O 0,U O 0,U O 0,U O 0,U O 0,U O 0,U O 0,U O 0,U O 0,U O 0,Us none 0 0,Us none 0 0,Us none 0 0,U O 0,Us none 0 0,Us none 0 0,Us none 0 0,Us none 0 0,Us none 0 0,U O 0]->Instr.fill (fun i=>some (i*22,22)) ((Array.range (1*22)).map (fun x=>z.cells[x % z.cells.size]!)) [(0,.agg (m.cells i u).toArray)]=some (m.cells i u).toArray:=by
  intro z hz;subst hz
  kernel_rfl
 rw [e];exact key _ rfl
end
theorem U6 (w:World) (i:Inp) (hi:i.Ok) (ha:i.At w) (hsc:i.r.p<=i.scap) (h5:i.r.c.st<=5) (F:Nat->Prop) (hF:RdF i.SA (zC i.st) F w) (hFl:∀ g,F g->g<w.heap.size) (CI:∀ W,Below w.heap.size w W->Calls Tryz.prog 22 #[.agg i.cells.toArray] W fun e w'=>e=.returned (U O 0)/\Below W.heap.size W w') :
  Calls Tryz.prog 17 #[.agg i.cells.toArray] w fun e w'=>∃ y:Rw,e=.returned (.tuple #[.agg (y.cells i).toArray,U O 0])/\y.Ok i 0/\Rw.In i y (fun g=>F g\/w.heap.size<=g) w'/\Below w.heap.size w w':=by
 have hk:=hi.c.k;have CN:=K1 (fun W (hb:Below w.heap.size w W) u (hu:u<i.r.c.k)=>Uc W i hi (ha.below hb) hsc h5 u hu F ((C8 _ _).keep F w W hb.size (fun g hg=>hb.block g (hFl g hg)) hF) (fun W2 hb2=>CI W2 (hb.trans (hb2.mono hb.size))));have CI:=K1 CI;have HFL:=K1 hFl;have hm:=((Akd w).alloc (.cells i.cells.toArray 29)).alloc (.cells #[Us none 0 0,Us none 0 0,U O 0] 56);simp only [Akb] at hm;have HM:=K1 hm;dsimp only [Ake] at *;clear hm ha hF hFl hi hsc h5;go_enter Tryz.func17,Tryz.ntmps17;have c1:=HM.out.cells 1 rfl;go_wp2_with fail;refine (CI.out _ (HM.out.bel 0 rfl)).mono ?_
 rintro e w1 ⟨rfl,hb⟩;replace HM:=K1 ((HM.out.below hb).alloc (.cells #[Us none 0 0,Us none 0 0,U O 0] 56));clear hb CI c1;go_wp2_with fail;generalize hg5:w1.heap.size=g5 at *;clear hg5
 have hm0:=((HM.out.add (c:=.own w.heap.size 69 22 (Us none 0 0) 0 []) ⟨Bh _ _ _ _,(HM.out.bel 0 rfl).size⟩ (fun _ _ _ _ g hg=>by cases hg)).add (c:=.own w.heap.size 125 4 (Us none 0 0) 0 []) ⟨Bh _ _ _ _,(HM.out.bel 0 rfl).size⟩ (fun _ _ _ _ g hg=>by cases hg)).add (c:=BI (fun F W=>∀ a,a<0->Rm.In i a ((fun _=>⟨none,0,none,0,none,0,none,0,0,none,0,0⟩:Nat->Rm) a) F W) (fun _=>False)) (G4 (.all fun _=>.all fun _=>Dh _ _ _) (fun a ha=>absurd ha (Nat.not_lt_zero _)) (fun _ h=>h.elim)) (fun _ _ _ _ g hg=>hg.elim);clear HM;have HM:=K1 hm0;clear hm0
 go_loopw [6] (fun s6 wr=>∃ (t:Nat) (A B:Option Addr) (c d:Nat) (ms:Nat->Rm) (Fx:Nat->Prop),t<=i.r.c.k/\s6=U O t/\Hid ((∀ g,Fx g->F g\/w.heap.size<=g)/\∀ a,(ms a).d=0)/\Hid (Mem wr [.bel w.heap.size w,.obj w.heap.size (.cells #[Us i.A i.r.ns.length i.cap,U O i.r.c.sh,U O i.r.c.ra,U O i.r.c.mo,U O i.r.c.k,U O i.r.c.ba,U O i.r.c.mi,U O i.r.c.st,U O i.r.c.bu,U O i.r.c.s,U O i.r.c.wi,U O i.r.c.ca,Us i.DA i.r.n i.dcap,Us i.SA i.r.p i.scap,Us i.RA i.r.ds.length i.rcap] 29 (0,0)),.obj (w.heap.size+1) (.cells #[Us none 0 0,Us none 0 0,U O 0] 56 (0,0)),.obj g5 (.cells #[Us A t c,Us B t d,U O 0] 56 (0,0)),.own w.heap.size 69 22 (Us A t c) t (mrow i ms t),.own w.heap.size 125 4 (Us B t d) t (lrow i (fun _=>⟨none,0,0,0,[]⟩) t),BI (fun F W=>∀ a,a<t->Rm.In i a (ms a) F W) Fx])) (fun s6 _=>i.r.c.k-(intOf s6).toNat)
 case atStart=>exact ⟨0,none,none,0,0,_,_,Nat.zero_le _,rfl,K1 ⟨fun _ h=>h.elim,fun _=>rfl⟩,HM⟩
 case round =>
  clear HM;obtain ⟨t,A,B,c,d,ms,Fx,ht,rfl,HF,HM⟩:=hrel;have c1:=HM.out.cells 1 rfl;have c3:=HM.out.cells 3 rfl
  by_cases hlt:t<i.r.c.k
  . go_wp2_with fail;clear c1 c3;refine (CN.out _ (HM.out.bel 0 rfl) t hlt).mono ?_;rintro e w4 ⟨m,rfl,hd0,hin,hb⟩;have HD0:=K1 hd0;have HL:=K1 (show (∀ a,a<t->upd ms t m a=ms a)/\upd ms t m t=m from ⟨fun a h=>by unfold upd;rw [if_neg (by omega)],by unfold upd;rw [if_pos rfl]⟩)
    have hm5:=(HM.out.widenF (.all fun _=>.all fun _=>Dh _ _ _) (i:=6) rfl (j:=0) rfl HFL.out).resetF (P':=fun F W=>∀ a,a<t+1->Rm.In i a (upd ms t m a) F W) (.all fun _=>.all fun _=>Dh _ _ _) (i:=6) rfl hb (fun a ha=>by
     by_cases e:a=t
     . subst e;rw [HL.out.2];exact (Dh _ _ _).mono _ _ _ (fun g h=>h.imp Or.inr id) hin
     . rw [HL.out.1 a (by omega)];exact (Dh _ _ _).mono _ _ _ (fun g h=>.inl (.inl h)) ((Dh _ _ _).below ((HM.out.holds 6 _ rfl).now a (by omega)) hb))
    have HHI:=K1 (show w.heap.size<=wr.heap.size from (HM.out.bel 0 rfl).size);have HMz:=K1 (hm5.alloc (.cells #[Us none 0 0,U O 0,U O 0,U O 0,U O 0,U O 0,U O 0,U O 0,U O 0,U O 0,U O 0,U O 0,Us none 0 0,Us none 0 0,Us none 0 0,U O 0,Us none 0 0,Us none 0 0,Us none 0 0,Us none 0 0,Us none 0 0,U O 0] 69));have HR1:=K1 (show mrow i (upd ms t m) (t+1)=mrow i ms t++m.cells i t by rw [JH,HL.out.2,show mrow i (upd ms t m) t=mrow i ms t from G9 fun a ha=>by rw [HL.out.1 a (List.mem_range.1 ha)]])
    have HR2:=K1 (show lrow i (fun _=>⟨none,0,0,0,[]⟩) (t+1)=lrow i (fun _=>⟨none,0,0,0,[]⟩) t++[U O i.r.c.ca,Us none 0 0,U O 0,U O 0] from JI i (fun _=>⟨none,0,0,0,[]⟩) t);clear hm5 hb hin HM hd0
    go_upto_region 9 with (refine Bt rfl _ _ _ rfl HMz.out 7 rfl (m.cells i t).toArray rfl rfl (by kernel_rfl) rfl rfl ?_;intro W7 hm7;have HM7:=K1 hm7;clear hm7)
    clear HMz;generalize hg7:w4.heap.size=g7 at *;clear hg7;have HM8:=K1 (HM7.out.alloc (.cells (m.cells i t).toArray 69));have c3:=HM7.out.cells 3 rfl;have c9:=HM8.out.cells 3 rfl
    go_upto_region 10 with (first | (refine wpList_load_row rfl _ _ rfl g7 rfl _ _ _ _ (HM7.out.obj 7 rfl) Tryz.underlying69 rfl (by kernel_rfl) ?_) | (refine U5 rfl _ rfl i t m rfl ?_) | (at_builtin;refine AQ (n:=t) rfl _ _ 53 rfl HM8.out 4 N6 rfl rfl _ 1 _ (m.cells i t) rfl (HM8.out.box 8 rfl) rfl (Nw _ _ _) (by omega) ?_;intro A2 c2 W9 hM9;rw [<- HR1.out] at hM9;have HM9:=K1 hM9;clear hM9;have c8:=HM9.out.cells 3 rfl;have f8:=fun j=>HM9.out.frozen 3 j rfl;have HMA:=K1 (HM9.out.set (i:=3) (j:=0) rfl (Us A2 (t+1) c2))))
    clear c3 c9 HM8 HM7;refine A9 fun WA hW=>?_;have hmA:=hW.out.symm ▸ HMA.out;clear hW HMA;have HMA:=K1 hmA;clear hmA;have HMB:=K1 (HMA.out.alloc (.cells #[U O i.r.c.ca,Us none 0 0,U O 0,U O 0] 125));have c3:=HMA.out.cells 3 rfl;have c1:=HMA.out.cells 1 rfl;have c9:=HMB.out.cells 3 rfl
    go_wp2_with (at_builtin;refine AQ (n:=t) rfl _ _ 54 rfl HMB.out 5 N7 rfl rfl _ 1 _ [U O i.r.c.ca,Us none 0 0,U O 0,U O 0] rfl (HMB.out.box 9 rfl) rfl (by intro v hv;simp at hv;rcases hv with rfl | rfl | rfl | rfl <;> rfl) (by omega) ?_;intro B2 d2 W9 hM9;rw [<- HR2.out] at hM9;have HM9:=K1 hM9;clear hM9;have c8:=HM9.out.cells 3 rfl;have f8:=fun j=>HM9.out.frozen 3 j rfl;have HMC:=K1 (HM9.out.set (i:=3) (j:=1) rfl (Us B2 (t+1) d2)))
    go_roundw
    case rel =>
     refine ⟨t+1,A2,B2,c2,d2,upd ms t m,_,by omega,by go_num,K1 ⟨?_,fun a=>?_⟩,K1 (HMC.out.pick [0,1,2,3,4,5,6] _ rfl (by decide))⟩
     . rintro g ⟨h,_⟩
       rcases h with (h | h) | h
       . exact HF.out.1 g h
       . exact .inl h
       . exact .inr (Nat.le_trans HHI.out h)
     . by_cases e:a=t
       . subst e;rw [HL.out.2];exact HD0.out
       . unfold upd;rw [if_neg e];exact HF.out.2 a
    case measure=>simp [intOf];omega
  . have htk:t=i.r.c.k:=by omega
    subst htk;clear CN
    go_wp2_with (first | (refine wpList_load_row rfl _ _ rfl g5 rfl _ _ _ _ (HM.out.obj 3 rfl) Tryz.underlying56 rfl (by kernel_rfl) ?_) | (refine Bt rfl _ _ _ rfl HM.out 2 rfl #[Us A i.r.c.k c,Us B i.r.c.k d,U O 0] rfl rfl (by kernel_rfl) rfl rfl ?_;intro W12 hm12))
    have HX:=K1 hm12;clear hm12 c1 c3;have H2:=HX.out.obj 2 rfl
    refine bodyPost_ret (v:=.tuple #[.agg #[Us A i.r.c.k c,Us B i.r.c.k d,U O 0],U O 0]) (EV Tryz.results17 _ _ _ _ _ _ rfl rfl H2 Tryz.underlying56 rfl (by kernel_rfl)) rfl ⟨⟨A,c,B,d,0,ms,fun _=>⟨none,0,0,0,[]⟩⟩,rfl,⟨fun a _=>Nat.le_of_eq (HF.out.2 a),fun v _=>⟨?_,?_⟩,Akh _⟩,⟨⟨AJ (HX.out.own 4 rfl),fun _ q hq=>.inr (AF (HX.out.own 4 rfl) q hq)⟩,⟨AJ (HX.out.own 5 rfl),fun _ q hq=>.inr (AF (HX.out.own 5 rfl) q hq)⟩,fun a ha=>⟨(Dh _ _ _).mono _ _ _ HF.out.1 ((HX.out.holds 6 _ rfl).now a ha),⟨⟨Akh _,Akh _⟩,⟨Rd.nil_ _ _ _,fun h=>absurd h (Nat.lt_irrefl 0)⟩,fun j m hm=>by cases hm⟩⟩⟩,HX.out.bel 0 rfl⟩
    . show []=sndT ((Ak i.r.c i.r.p v).take (ms v).d);rw [HF.out.2];rfl
    . show 0=rcvN _ _ _;unfold rcvN;show 0=(rcvT ((Ak i.r.c i.r.p ((v+1) % i.r.c.k)).take (ms ((v+1) % i.r.c.k)).d)).length;rw [HF.out.2];rfl
end
end Go.Proofs.YtdpojpcoghcieaaGreat
