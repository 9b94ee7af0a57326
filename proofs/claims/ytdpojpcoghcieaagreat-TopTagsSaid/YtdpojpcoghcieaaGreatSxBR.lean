/- A part of the proof of TopTags: RefDo. Conditions: none. -/
import Derived.Deep.CutBlock
import Derived.Test.YtdpojpcoghcieaaGreatSxBP
import Derived.Test.YtdpojpcoghcieaaGreatSxBM
set_option maxHeartbeats 8000000
set_option linter.all false
namespace Go.Proofs.YtdpojpcoghcieaaGreat
open Lib renaming hid → K1
open List renaming filterMap_cons → p1, filterMap_nil → p2, getElem?_cons_zero → p3, getElem?_cons_succ → p4
open Go.RowKit
open Value renaming int → U, slice → Us
open IntKind renaming i64 → O
open List renaming nil_append → Ajm, cons_append → Ajn, set_cons_zero → Ajo, set_cons_succ → Ajp, setIfInBounds_toArray → Ajq, mem_cons → Ajz, not_mem_nil → Aj0
open PlS renaming ef_ → Ajr, fin_ → Ajv, reads_ → Ajy, two_ → Aj1
open After renaming go → Ajs
open And renaming intro → Ajt
open Rl renaming In → Aju
open Nat renaming le_succ_of_le → Ajw, zero_add → Aj2
open Inp renaming cells → Ajx
open World renaming size_alloc → Aj3
section
set_option maxRecDepth 100000 in
theorem U0 (w:World) (i:Inp) (hi:i.Ok) (ha:i.At w) (u v:Nat) (hu:u<i.r.c.k) (hv:v=(u+i.r.c.k-1) % i.r.c.k) (F:Nat->Prop) (m:Rm) (li lo:Rl) (x:It) (hm:Rm.In i u m F w) (hli:Aju i v li F w) (hlo:Aju i u lo F w) (hx:(Ak i.r.c i.r.p u)[m.d]?=some x) (hd:m.d<=1000000) (hb:li.ms.length<=1000000/\lo.ms.length<=1000000) (h3:x.kind=3->lo.ms.length<lo.re+i.r.c.ca) (h4:x.kind=4->∃ g,li.ms[li.re]?=some g/\g.t=tgOf x.a) :
  Calls Tryz.prog 83 #[.agg (m.cells i u).toArray,.agg (li.cells i.r.c.ca).toArray,.agg (lo.cells i.r.c.ca).toArray] w fun e w'=>∃ m' li' lo',e=.returned (.tuple #[.agg (m'.cells i u).toArray,.agg (li'.cells i.r.c.ca).toArray,.agg (lo'.cells i.r.c.ca).toArray,U O 0])/\m'.d=m.d+1/\Ix x li lo li' lo'/\(Rm.In i u m' (fun g=>F g\/w.heap.size<=g) w'/\Aju i v li' (fun g=>F g\/w.heap.size<=g) w'/\Aju i u lo' (fun g=>F g\/w.heap.size<=g) w')/\Below w.heap.size w w':=by
 have H3:=K1 h3;have H4:=K1 h4;clear h3 h4;have hp60:=hi.p;obtain ⟨t,hts,hxi⟩:=Iw hx;obtain ⟨hst,hkd⟩:=FY hi.c hi.p.2 x hxi;have hrng:=Ie _ _ _ _ x hxi;unfold F2 at hrng;rw [<- hv] at hrng;have hnx:=(List.getElem?_eq_some_iff.1 hx).1;obtain ⟨AP,cP,AM,cM,AG,cG,AR,nR,cR,AI,cI,d⟩:=m;obtain ⟨lA,lc,lr,lp,lms⟩:=li;obtain ⟨oA,oc,orr,opp,oms⟩:=lo;obtain ⟨⟨hcP,hcM,hcG,hnR⟩,hP,hMo,hG,hR,hI⟩:=hm;dsimp only at *;obtain ⟨ps,hps,hpr⟩:=id hP;obtain ⟨mos,hms,hmr⟩:=id hMo;obtain ⟨gs,hgs,hgr⟩:=id hG;obtain ⟨bp,op,rfl,_,_⟩:=hpr.rd (by rw [Br];omega);obtain ⟨bm,om,rfl,_,_⟩:=hmr.rd (by rw [Br];omega)
 obtain ⟨bg,og,rfl,_,_⟩:=hgr.rd (by rw [Br];omega);have hil:(icells (Ak i.r.c i.r.p u)).length=(Ak i.r.c i.r.p u).length*12:=Dx It.cells 12 (fun _=>rfl) _;obtain ⟨bi,oi,rfl,_,_⟩:=hI.rd (by omega);have HI:=K1 (fun W (hb:Below w.heap.size w W)=>Gq ((hI.rd.below hb).more hb.size) hx);have HPR:=K1 (fun W (hb:Below w.heap.size w W)=>(hpr.rd.below hb).more hb.size);have HMR:=K1 (fun W (hb:Below w.heap.size w W)=>(hmr.rd.below hb).more hb.size);have HGR:=K1 (fun W (hb:Below w.heap.size w W)=>(hgr.rd.below hb).more hb.size);have KP:=K1 (fun W (hb:Below w.heap.size w W)=>(DB _ _).up hP hb)
 have KM:=K1 (fun W (hb:Below w.heap.size w W)=>(DB _ _).up hMo hb);have KG:=K1 (fun W (hb:Below w.heap.size w W)=>(DB _ _).up hG hb);have KGR:=K1 (fun W (hb:Below w.heap.size w W)=>(C8 _ _).up hgr hb);have KR:=K1 (fun W (hb:Below w.heap.size w W)=>(Iu _ _).up hR hb);have KI:=K1 (fun W (hb:Below w.heap.size w W)=>(C8 _ _).up hI hb);have KLI:=K1 (fun W (hb:Below w.heap.size w W)=>(Ck _ _ _).up hli hb);have KLO:=K1 (fun W (hb:Below w.heap.size w W)=>(Ck _ _ _).up hlo hb);have HLE:=K1 (show i.r.p<=cP/\i.r.p<=cM/\i.r.p<=cG/\nR<=d+1 from ⟨hcP,hcM,hcG,hnR⟩);have HPS:=K1 hps;have HMS:=K1 hms
 have HGS:=K1 hgs;have HLI:=K1 hli;have HLO:=K1 hlo;have HIO:=K1 hi;have HAT:=K1 (fun W (hb:Below w.heap.size w W)=>ha.below hb);have HR2:=K1 hR;have HBD:=K1 hb;obtain ⟨kd,xt,xn,⟨sd,aa,t1,t2,t3,t4,t5,x1,x2⟩⟩:=x;have HRG:=K1 hrng;have HXT:=K1 (show xt<i.r.c.st by have hst:xt=t:=hst;omega);have HKD:=K1 hkd
 have hm0:=((((((Mem.start w).alloc (.cells #[Us i.A i.r.ns.length i.cap,U O i.r.c.sh,U O i.r.c.ra,U O i.r.c.mo,U O i.r.c.k,U O i.r.c.ba,U O i.r.c.mi,U O i.r.c.st,U O i.r.c.bu,U O i.r.c.s,U O i.r.c.wi,U O i.r.c.ca,Us i.DA i.r.n i.dcap,Us i.SA i.r.p i.scap,Us i.RA i.r.ds.length i.rcap,U O u,Us (some ⟨bp,op,none⟩) i.r.p cP,Us (some ⟨bm,om,none⟩) i.r.p cM,Us (some ⟨bg,og,none⟩) i.r.p cG,Us AR nR cR,Us (some ⟨bi,oi,none⟩) (Ak i.r.c i.r.p u).length cI,U O d] 69)).alloc (.cells #[U O i.r.c.ca,Us lA lms.length lc,U O lr,U O lp] 125)).alloc (.cells #[U O i.r.c.ca,Us oA oms.length oc,U O orr,U O opp] 125)).alloc (.cells #[Us none 0 0,U O 0,U O 0,U O 0,U O 0,U O 0,U O 0,U O 0,U O 0,U O 0,U O 0,U O 0,Us none 0 0,Us none 0 0,Us none 0 0,U O 0,Us none 0 0,Us none 0 0,Us none 0 0,Us none 0 0,Us none 0 0,U O 0] 69)).alloc (.cells #[U O 0,Us none 0 0,U O 0,U O 0] 125)).alloc (.cells #[U O 0,Us none 0 0,U O 0,U O 0] 125)
 simp only [Aj3] at hm0;have hnn:=hm0
 try simp only [Ajn,Ajm,Ajo,Ajp,Ajq] at hnn
 have HM:=K1 hnn;clear hnn;have hq1:¬ (Ak i.r.c i.r.p u).length<=d:=by omega
 have hq2:decide ((Ak i.r.c i.r.p u).length<=d)=false:=decide_eq_false hq1;dsimp only [Rm.cells,Ajx,Rl.cells,itAt] at *;simp only [Ajn,Ajm];clear hm0 hP hMo hG hR hI hps hms hgs hpr hmr hgr hli hlo hi ha hx hxi hrng hkd hst hil hcP hcM hcG hnR hb hts;go_enter Tryz.func83,Tryz.ntmps83;go_upto_region 1 with fail
 refine A9 fun W0 hW=>?_;replace HM:=K1 (hW.out.symm ▸ HM.out);clear hW;have c1:=HM.out.cells 1 rfl;obtain ⟨i0,i1,i2,i3,i4,i5,i6,i7,i8,i9,i10,i11⟩:=HI.out _ (HM.out.bel 0 rfl);go_upto_region 4 with fail
 clear c1 i0 i1 i2 i3 i4 i5 i6 i7 i8 i9 i10 i11 HI;refine A9 fun W3 hW=>?_
 have hnn:=(hW.out.symm ▸ (HM.out.alloc (.cells #[U O kd,U O xt,U O xn,.bool sd,.bool aa,U O t1,U O t2,U O t3,U O t4,U O t5,U O x1,U O x2] 76)))
 try simp only [Ajn,Ajm,Ajo,Ajp,Ajq] at hnn
 replace HM:=K1 hnn;clear hnn;clear hW;generalize hg10:W0.heap.size=g10 at *;clear hg10;have c7:=HM.out.cells 7 rfl;go_upto_region 5 with fail
 clear c7;refine A9 fun W5 hW=>?_
 have hnn:=(hW.out.symm ▸ (HM.out.alloc (.cells #[U O x1,U O x2] 72)))
 try simp only [Ajn,Ajm,Ajo,Ajp,Ajq] at hnn
 replace HM:=K1 hnn;clear hnn;clear hW;generalize hg11:W3.heap.size=g11 at *;clear hg11;have c7:=HM.out.cells 7 rfl
 go_upto_block 0 with fail
 clear c7
 go_cut [] from 10 to 174 (fun W=>∃ (m2:Rm) (li2 lo2:Rl) (T1 T2:Ch),Hid (m2.d=d/\Ix ⟨kd,xt,xn,⟨sd,aa,t1,t2,t3,t4,t5,x1,x2⟩⟩ ⟨lA,lc,lr,lp,lms⟩ ⟨oA,oc,orr,opp,oms⟩ li2 lo2)/\Hid (∀ W,Mem W [.bel w.heap.size w,T1,T2]->Rm.In i u { m2 with d:=d+1 } (fun g=>F g\/w.heap.size<=g) W/\Aju i v li2 (fun g=>F g\/w.heap.size<=g) W/\Aju i u lo2 (fun g=>F g\/w.heap.size<=g) W)/\Hid (Mem W [.bel w.heap.size w,.obj w.heap.size (.cells (m2.cells i u).toArray 69 (0,0)),.obj (w.heap.size+1) (.cells (li2.cells i.r.c.ca).toArray 125 (0,0)),.obj (w.heap.size+1+1) (.cells (lo2.cells i.r.c.ca).toArray 125 (0,0)),.obj (w.heap.size+1+1+1) (.cells #[Us none 0 0,U O 0,U O 0,U O 0,U O 0,U O 0,U O 0,U O 0,U O 0,U O 0,U O 0,U O 0,Us none 0 0,Us none 0 0,Us none 0 0,U O 0,Us none 0 0,Us none 0 0,Us none 0 0,Us none 0 0,Us none 0 0,U O 0] 69 (0,0)),.obj (w.heap.size+1+1+1+1) (.cells #[U O 0,Us none 0 0,U O 0,U O 0] 125 (0,0)),.obj (w.heap.size+1+1+1+1+1) (.cells #[U O 0,Us none 0 0,U O 0,U O 0] 125 (0,0)),T1,T2]))
 case first =>
  have c7:=HM.out.cells 7 rfl
  go_upto_if 42 with fail
  clear c7;have hnn:=HM.out.hole_.hole_
  try simp only [Ajn,Ajm,Ajo,Ajp,Ajq] at hnn
  replace HM:=K1 hnn;clear hnn
  rcases HKD.out with ⟨hk,hn⟩ | ⟨hk,hn⟩ | ⟨hk,hn⟩ | ⟨hk,hn⟩ | ⟨hk,hn⟩ | hk
  . replace hk:kd=1:=hk;subst hk;have hmi:=HIO.out.c.mi;have hcb:=HIO.out.c.ba;have hck:=HIO.out.c.k;have hcs:=HIO.out.c.st;have hn0:=HIO.out.n;have CS:=K1 (fun W (hb:Below w.heap.size w W)=>Tz W i HIO.out (HAT.out W hb));have CM:=K1 (fun W co Ao (h:RSamp W i.r.n i.r.c.ba i.r.c.st Ao i.r.ds)=>Xst W i.r.n i.r.c.ba i.r.c.st co xt u i.r.c.k xn i.r.c.mi Ao i.r.ds h (by omega) hn0.1 HXT.out (by omega) ⟨hu,by omega⟩ ⟨hn,by omega⟩)
    have CG:=K1 (fun W (hb:Below w.heap.size w W) A1 nb c1 hr hl=>TN W i HIO.out (HAT.out W hb) (some ⟨bp,op,none⟩) cP ps (HPR.out W hb) HPS.out A1 nb c1 (Ci i.r.ds i.r.n i.r.c.ba xt u i.r.c.k xn i.r.c.mi) hr hl (Mp (by omega)) (by rw [<- hl];exact Nat.le_trans (Mq hu hn) hn0.1))
    have CH:=K1 (fun W (hb:Below w.heap.size w W) g c hr=>(show Calls Tryz.prog 125 #[Us (some ⟨bg,og,none⟩) i.r.p cG,U O 0,Us g i.r.p c,.bool true] W _ from MZ W (some ⟨bg,og,none⟩) g i.r.p cG 0 i.r.p c true gs (BH i.r.ns i.r.c.sh ps i.r.p (exD i.r.dat (Ci i.r.ds i.r.n i.r.c.ba xt u i.r.c.k xn i.r.c.mi)) (AE i.r.p)) (HGR.out W hb) hr HGS.out ⟨(Gu _ _ _ _ _ _).trans (by simp [AE]),Ih _ _ _ _ _ _ (Fl _)⟩ (by omega) (by omega)));dsimp only [Ajx,rsC] at CS CM CG;clear hmi hcb hck hcs hn0;have c1:=HM.out.cells 1 rfl;go_upto_region 8 with fail
    clear c1;refine A9 fun W7 hW=>?_
    have hnn:=(hW.out.symm ▸ (HM.out.alloc (.cells #[Us i.A i.r.ns.length i.cap,U O i.r.c.sh,U O i.r.c.ra,U O i.r.c.mo,U O i.r.c.k,U O i.r.c.ba,U O i.r.c.mi,U O i.r.c.st,U O i.r.c.bu,U O i.r.c.s,U O i.r.c.wi,U O i.r.c.ca] 24)))
    try simp only [Ajn,Ajm,Ajo,Ajp,Ajq] at hnn
    replace HM:=K1 hnn;clear hnn;clear hW;generalize hg12:W5.heap.size=g12 at *;clear hg12;refine A9 fun W8 hW=>?_;replace HM:=K1 (hW.out.symm ▸ HM.out);clear hW
    refine AC (.reads [0,1,3,4,5,6,7,8,9,10,11,12] (.eff 2 (.eff 13 (.reads [14] (.fin))))) 15 (fun W'=>(∀ zz,W'.cell? ⟨w.heap.size,zz,none⟩=([Us i.A i.r.ns.length i.cap,U O i.r.c.sh,U O i.r.c.ra,U O i.r.c.mo,U O i.r.c.k,U O i.r.c.ba,U O i.r.c.mi,U O i.r.c.st,U O i.r.c.bu,U O i.r.c.s,U O i.r.c.wi,U O i.r.c.ca,Us i.DA i.r.n i.dcap,Us i.SA i.r.p i.scap,Us i.RA i.r.ds.length i.rcap,U O u,Us (some ⟨bp,op,none⟩) i.r.p cP,Us (some ⟨bm,om,none⟩) i.r.p cM,Us (some ⟨bg,og,none⟩) i.r.p cG,Us AR nR cR,Us (some ⟨bi,oi,none⟩) (Ak i.r.c i.r.p u).length cI,U O d]:List Value)[zz]?)/\(∀ zz,W'.cell? ⟨g10,zz,none⟩=([U O (1:Nat),U O xt,U O xn,.bool sd,.bool aa,U O t1,U O t2,U O t3,U O t4,U O t5,U O x1,U O x2]:List Value)[zz]?)/\(∀ zz,W'.cell? ⟨g12,zz,none⟩=([Us i.A i.r.ns.length i.cap,U O i.r.c.sh,U O i.r.c.ra,U O i.r.c.mo,U O i.r.c.k,U O i.r.c.ba,U O i.r.c.mi,U O i.r.c.st,U O i.r.c.bu,U O i.r.c.s,U O i.r.c.wi,U O i.r.c.ca]:List Value)[zz]?)) ?_
    replace HM:=K1 HM.out.drew;generalize W8.drew=V8 at *;refine Ajy ⟨HM.out.cells 1 rfl,HM.out.cells 7 rfl,HM.out.cells 11 rfl⟩ (by kernel_rfl) ?_;simp only [AW,p1,p2,p3,p4];apply Exists.intro;apply Ajt
    . intro W' hS;obtain ⟨s1,s2,s3⟩:=hS
      still_step
      refine Ea rfl _ _ rfl w.heap.size 0 rfl [Us i.A i.r.ns.length i.cap,U O i.r.c.sh,U O i.r.c.ra,U O i.r.c.mo,U O i.r.c.k,U O i.r.c.ba,U O i.r.c.mi,U O i.r.c.st,U O i.r.c.bu,U O i.r.c.s,U O i.r.c.wi,U O i.r.c.ca,Us i.DA i.r.n i.dcap,Us i.SA i.r.p i.scap,Us i.RA i.r.ds.length i.rcap] _ Tryz.underlying29 rfl (by kernel_rfl) (Nt s1 [U O u,Us (some ⟨bp,op,none⟩) i.r.p cP,Us (some ⟨bm,om,none⟩) i.r.p cM,Us (some ⟨bg,og,none⟩) i.r.p cG,Us AR nR cR,Us (some ⟨bi,oi,none⟩) (Ak i.r.c i.r.p u).length cI,U O d] rfl) ?_
      repeat still_step
      exact wpStill_nil rfl
    refine Ajr ?_;go_wp2_with fail;refine (CS.out _ (HM.out.bel 0 rfl)).mono ?_;rintro e w8 ⟨Ao,co,rfl,hs,hb⟩
    have hnn:=(HM.out.push (c:=rsCh _ _ _ _ _ Ao i.r.ds) hb (ME hs (Nat.le_refl _)) (fun g hg=>hg.1))
    try simp only [Ajn,Ajm,Ajo,Ajp,Ajq] at hnn
    replace HM:=K1 hnn;clear hnn;clear hs hb CS;go_wp2_with fail;refine Ajs ⟨HM.out.cells 1 rfl,HM.out.cells 7 rfl,HM.out.cells 11 rfl⟩ ?_;refine Ajr ?_;go_wp2_with fail;refine (CM.out _ _ _ (HM.out.rsamp (i:=12) rfl)).mono ?_;rintro e w9 ⟨A1,nb,cb,rfl,_,hl1,hr1,hb⟩;replace HM:=K1 (HM.out.below hb);have HR1:=K1 (Ajt hr1 hl1);clear hb hr1 hl1 CM;go_wp2_with fail;refine Ajs ⟨HM.out.cells 1 rfl,HM.out.cells 7 rfl,HM.out.cells 11 rfl⟩ ?_;refine PlS.rc_ ⟨HM.out.cells 1 rfl,HM.out.cells 7 rfl,HM.out.cells 11 rfl⟩ ?_;refine Ajv ?_;have c1:=HM.out.cells 1 rfl;go_wp2_with fail;clear c1
    refine (CG.out _ (HM.out.bel 0 rfl) A1 nb cb HR1.out.1 HR1.out.2).mono ?_;rintro e w10 ⟨g,c,rfl,_,hf,hr,hb⟩
    have hnn:=(HM.out.push_rd hb hr hf)
    try simp only [Ajn,Ajm,Ajo,Ajp,Ajq] at hnn
    replace HM:=K1 hnn;clear hnn;clear hf hr hb CG HR1;have c1:=HM.out.cells 1 rfl;go_wp2_with fail;clear c1;refine (CH.out _ (HM.out.bel 0 rfl) g c (HM.out.rd 13 rfl)).mono ?_;rintro e w11 ⟨A2,c2,zs,rfl,hz1,hz2,hm⟩;have hlo11:=(HM.out.bel 0 rfl).size
    have hnn:=((HM.out.join hm (fun c hc hmu g hg=>by simp only [Ajz,Aj0,or_false] at hc;rcases hc with rfl;exact absurd trivial hmu)).lower (i:=14) (base':=w.heap.size) rfl hlo11)
    try simp only [Ajn,Ajm,Ajo,Ajp,Ajq] at hnn
    have HM2:=K1 hnn;clear hnn;have HZ:=K1 (show (zs.length=i.r.p/\In64 zs)/\∀ q,A2=some q->w.heap.size<=q.block from ⟨⟨hz1,hz2⟩,AF (HM2.out.own 14 rfl)⟩);have HC2:=K1 (Be (HM2.out.own 14 rfl));clear hm HM hlo11 hz1 hz2
    have hnn:=(HM2.out.freeze (i:=14) rfl)
    try simp only [Ajn,Ajm,Ajo,Ajp,Ajq] at hnn
    have HM:=K1 hnn;clear hnn;clear HM2;have b1:=HM.out.cells 1 rfl;have f1:=fun j=>HM.out.frozen 1 j rfl
    have hnn:=(HM.out.set (i:=1) (j:=18) rfl (Us A2 i.r.p c2))
    try simp only [Ajn,Ajm,Ajo,Ajp,Ajq] at hnn
    have HF:=K1 hnn;clear hnn;clear HM;go_wp2_with fail;clear b1 f1;have HM:=K1 HF.out;clear HF;go_meet;refine ⟨⟨some ⟨bp,op,none⟩,cP,some ⟨bm,om,none⟩,cM,A2,c2,AR,nR,cR,some ⟨bi,oi,none⟩,cI,d⟩,⟨lA,lc,lr,lp,lms⟩,⟨oA,oc,orr,opp,oms⟩,_,_,K1 ⟨rfl,⟨fun _=>rfl,fun _=>rfl,fun h=>absurd (show 1=3 from h) (by decide),fun h=>absurd (show 1=4 from h) (by decide)⟩⟩,K1 (fun W hM=>?_),K1 (HM.out.pick [0,1,2,3,4,5,6,14,9] _ rfl (by decide))⟩;have hb:=hM.bel 0 rfl
    exact ⟨⟨⟨HLE.out.1,HLE.out.2.1,HC2.out,Ajw HLE.out.2.2.2⟩,KP.out W hb,KM.out W hb,G8 HZ.out.1 (hM.rd 1 rfl) HZ.out.2,KR.out W hb,KI.out W hb⟩,KLI.out W hb,KLO.out W hb⟩
  . replace hk:kd=2:=hk;subst hk;go_wp2_with fail;go_meet;refine ⟨⟨some ⟨bp,op,none⟩,cP,some ⟨bm,om,none⟩,cM,some ⟨bg,og,none⟩,cG,AR,nR,cR,some ⟨bi,oi,none⟩,cI,d⟩,⟨lA,lc,lr,lp,lms⟩,⟨oA,oc,orr,opp,oms⟩,_,_,K1 ⟨rfl,⟨fun _=>rfl,fun _=>rfl,fun h=>absurd (show 2=3 from h) (by decide),fun h=>absurd (show 2=4 from h) (by decide)⟩⟩,K1 (fun W hM=>?_),K1 (HM.out.pick [0,1,2,3,4,5,6,9,10] _ rfl (by decide))⟩;have hb:=hM.bel 0 rfl;exact ⟨⟨⟨HLE.out.1,HLE.out.2.1,HLE.out.2.2.1,Ajw HLE.out.2.2.2⟩,KP.out W hb,KM.out W hb,KG.out W hb,KR.out W hb,KI.out W hb⟩,KLI.out W hb,KLO.out W hb⟩
  . replace hk:kd=3:=hk;subst hk;have CS:=K1 (fun W (hb:Below w.heap.size w W)=>Sp W oA (some ⟨bg,og+x1,none⟩) i.r.c.ca oms.length oc orr opp (oms.length-orr) (x2-x1) (cG-x1) ⟨t1,t2,t3,t4,t5⟩ (subL gs x1 x2) oms ((HLO.out.2.1.rd.below hb).more hb.size) rfl (Dc (Nat.le_of_lt hn.lt) (by rw [HGS.out.1];exact hn.hi)) (by have h1:orr<=oms.length:=HLO.out.1.1;omega) HBD.out.2 (by have h1:opp<=oms.length:=HLO.out.1.2;have h2:oms.length<=1000000:=HBD.out.2;omega) (by have h1:oms.length<orr+i.r.c.ca:=H3.out rfl;have h2:orr<=oms.length:=HLO.out.1.1;omega))
    have HX12:=K1 (show x1<x2/\x2<=i.r.p from ⟨hn.lt,hn.hi⟩);have hcg:=HLE.out.2.2.1;have hlt:x1<x2:=hn.lt;have hhi:x2<=i.r.p:=hn.hi;have hlc:x1≠cG:=by omega
    have hlc2:¬ cG=x1:=by omega
    have hle:x1<=x2:=by omega
    have hhc:x2<=cG:=by omega
    clear hn hcg;have hnn:=HM.out.hole_
    try simp only [Ajn,Ajm,Ajo,Ajp,Ajq] at hnn
    replace HM:=K1 hnn;clear hnn;go_upto_region 12 with fail
    refine A9 fun W8 hW=>?_;replace HM:=K1 (hW.out.symm ▸ HM.out);clear hW
    refine AC (.reads [0,1,2,3,4,5,6,7,8,9,10,11] (.two 12 16 (.reads [13,14,15] (.eff 16 (.eff 17 (.reads [18] (.fin))))) (.eff 12 (.reads [13,14,15] (.eff 17 (.reads [18] (.fin))))))) 19 (fun W'=>(∀ zz,W'.cell? ⟨w.heap.size,zz,none⟩=([Us i.A i.r.ns.length i.cap,U O i.r.c.sh,U O i.r.c.ra,U O i.r.c.mo,U O i.r.c.k,U O i.r.c.ba,U O i.r.c.mi,U O i.r.c.st,U O i.r.c.bu,U O i.r.c.s,U O i.r.c.wi,U O i.r.c.ca,Us i.DA i.r.n i.dcap,Us i.SA i.r.p i.scap,Us i.RA i.r.ds.length i.rcap,U O u,Us (some ⟨bp,op,none⟩) i.r.p cP,Us (some ⟨bm,om,none⟩) i.r.p cM,Us (some ⟨bg,og,none⟩) i.r.p cG,Us AR nR cR,Us (some ⟨bi,oi,none⟩) (Ak i.r.c i.r.p u).length cI,U O d]:List Value)[zz]?)/\(∀ zz,W'.cell? ⟨(w.heap.size+1+1),zz,none⟩=([U O i.r.c.ca,Us oA oms.length oc,U O orr,U O opp]:List Value)[zz]?)/\(∀ zz,W'.cell? ⟨g10,zz,none⟩=([U O (3:Nat),U O xt,U O xn,.bool sd,.bool aa,U O t1,U O t2,U O t3,U O t4,U O t5,U O x1,U O x2]:List Value)[zz]?)/\(∀ zz,W'.cell? ⟨g11,zz,none⟩=([U O x1,U O x2]:List Value)[zz]?)) ?_
    replace HM:=K1 HM.out.drew;generalize W8.drew=V8 at *
    repeat' (first
     | (refine Aj1 ?_ ?_
        skip)
     | (refine PlS.rd_ ⟨HM.out.cells 1 rfl,HM.out.cells 3 rfl,HM.out.cells 7 rfl,HM.out.cells 8 rfl⟩ ?_)
     | (refine Ajr (k:=12) ?_
        go_wp2_with fail;refine (CS.out _ (HM.out.bel 0 rfl)).mono ?_;rintro e w9 ⟨A2,c2,px,rfl,hpx,hf,hr,hb⟩;have HPX:=K1 (Ajt hpx (fun q hq=>Nat.le_trans (HM.out.bel 0 rfl).size (hf q hq)))
        have hnn:=((HM.out.push_rd hb hr hf).fit 9 rfl)
        try simp only [Ajn,Ajm,Ajo,Ajp,Ajq] at hnn
        replace HM:=K1 hnn;clear hnn;clear hb hr hf hpx;go_wp2_with fail
        refine Ajs ⟨HM.out.cells 1 rfl,HM.out.cells 3 rfl,HM.out.cells 7 rfl,HM.out.cells 8 rfl⟩ ?_)
     | (refine Ajr (k:=16) ?_
        obtain ⟨g16,hgg,Hg16,hmm⟩:=HM.out.allocFit rfl (.cells #[U O 0,Us none 0 0,U O 0,U O 0] 125) 11 rfl;go_wp2_with fail;rw [<- hgg];refine AH fun W16 hW=>?_
        have hnn:=(hW.out.symm ▸ hmm)
        try simp only [Ajn,Ajm,Ajo,Ajp,Ajq] at hnn
        have HM:=K1 hnn;clear hnn;clear hW hmm hgg
        refine Ajs ⟨HM.out.cells 1 rfl,HM.out.cells 3 rfl,HM.out.cells 7 rfl,HM.out.cells 8 rfl⟩ ?_)
     | (refine Ajr (k:=17) ?_
        refine Bt rfl _ _ _ rfl HM.out 11 rfl #[U O i.r.c.ca,Us A2 (oms.length+1) c2,U O orr,U O px] rfl rfl (by kernel_rfl) rfl rfl ?_;intro W17 hm17;have hnn:=hm17
        try simp only [Ajn,Ajm,Ajo,Ajp,Ajq] at hnn
        have HM:=K1 hnn;clear hnn;clear hm17;go_wp2_with fail
        refine Ajs ⟨HM.out.cells 1 rfl,HM.out.cells 3 rfl,HM.out.cells 7 rfl,HM.out.cells 8 rfl⟩ ?_)
     | (refine Ajv ?_
        go_wp2_with (first | (refine wpList_load_row rfl _ _ rfl g16 rfl _ _ _ _ (HM.out.obj 11 rfl) Tryz.underlying125 rfl (by kernel_rfl) ?_) | (refine Bt rfl _ _ _ rfl HM.out 3 rfl #[U O i.r.c.ca,Us A2 (oms.length+1) c2,U O orr,U O px] rfl rfl (by kernel_rfl) rfl rfl ?_;intro W9 hm9))
        have hnn:=hm9
        try simp only [Ajn,Ajm,Ajo,Ajp,Ajq] at hnn
        have HMX:=K1 hnn;clear hnn;clear hm9 HM;have HM:=K1 (show Mem W9 _ from HMX.out);clear HMX;have HLN:=K1 (show (oms++[(⟨⟨t1,t2,t3,t4,t5⟩,some ⟨bg,og+x1,none⟩,cG-x1,subL gs x1 x2⟩:Ms)]).length=oms.length+1 by simp);have hmz:=HM.out;rw [<- HLN.out] at hmz;clear HM;have HM:=K1 (show Mem W9 _ from hmz);clear hmz;go_meet
        refine ⟨⟨some ⟨bp,op,none⟩,cP,some ⟨bm,om,none⟩,cM,some ⟨bg,og,none⟩,cG,AR,nR,cR,some ⟨bi,oi,none⟩,cI,d⟩,⟨lA,lc,lr,lp,lms⟩,⟨A2,c2,orr,px,oms++[⟨⟨t1,t2,t3,t4,t5⟩,some ⟨bg,og+x1,none⟩,cG-x1,subL gs x1 x2⟩]⟩,_,_,K1 ⟨rfl,⟨fun h=>absurd (show 3=3 from rfl) h,fun _=>rfl,fun _=>⟨by simp [tgOf],rfl⟩,fun h=>absurd (show 3=4 from h) (by decide)⟩⟩,K1 (fun W hM=>?_),K1 (HM.out.pick [0,1,2,3,4,5,6,9,10] _ rfl (by decide))⟩;have hb:=hM.bel 0 rfl
        exact ⟨⟨⟨HLE.out.1,HLE.out.2.1,HLE.out.2.2.1,Ajw HLE.out.2.2.2⟩,KP.out W hb,KM.out W hb,KG.out W hb,KR.out W hb,KI.out W hb⟩,KLI.out W hb,Uf (KLO.out W hb) (by have h1:px<=max opp (oms.length+1):=HPX.out.1;have h2:opp<=oms.length:=HLO.out.1.2;show px<=oms.length+1;omega) (hM.rd 1 rfl) HPX.out.2 ⟨HGS.out.2.sub x1 x2,x1,x2,HRG.out.1 (by simp),Dc (Nat.le_of_lt HX12.out.1) (by rw [HGS.out.1];exact HX12.out.2)⟩ (Ue (KGR.out W hb) HX12.out.1 (by rw [HGS.out.1];exact HX12.out.2))⟩))
  . replace hk:kd=4:=hk;subst hk;obtain ⟨⟨gt,gA,gc,gv⟩,hg,hgt⟩:=H4.out rfl;have hgt:gt=⟨t1,t2,t3,t4,t5⟩:=hgt;subst hgt;obtain ⟨⟨hgin,ga,gb,hgr,hgl⟩,hgd⟩:=HLI.out.2.2 lr _ hg;have hr4:=HRG.out.2 rfl;have hab:(ga,gb)=(x1,x2):=by have h9:=hgr.symm.trans hr4;injection h9
    injection hab with hga hgb
    subst hga;subst hgb;have hgl:gv.length=gb-ga:=hgl;have hglt:ga<gb:=hn.lt;have hghi:gb<=i.r.p:=hn.hi;have hlr:=(List.getElem?_eq_some_iff.1 hg).1
    obtain ⟨r1,hr1⟩:∃ r1,r1=lr+1:=⟨_,rfl⟩
    have CR:=K1 (fun W (hb:Below w.heap.size w W)=>Sr W lA gA i.r.c.ca lms.length lc lr r1 lp (gb-ga) gc ⟨t1,t2,t3,t4,t5⟩ gv lms ((HLI.out.2.1.rd.below hb).more hb.size) hg rfl hgl hr1 HBD.out.1);have CH:=K1 (fun W (hb:Below w.heap.size w W)=>MZ W (some ⟨bg,og,none⟩) gA i.r.p cG ga (gb-ga) gc aa gs gv (HGR.out W hb) ((hgd.rd.below hb).more hb.size) HGS.out ⟨hgl,hgin⟩ (by omega) (by omega));have HR1:=K1 (show r1<=lms.length/\r1=lr+1 by omega);clear hg hgin hgr hgl hgd hr4 hn hglt hghi hlr hr1;have b1:=HM.out.cells 2 rfl;have b2:=HM.out.cells 7 rfl;go_wp2_with fail;clear b1 b2
    refine (CR.out _ (HM.out.bel 0 rfl)).mono ?_;rintro e w9 ⟨rfl,hb⟩;have hma:=((HM.out.below hb).alloc (.cells #[U O 0,Us none 0 0,U O 0,U O 0] 125)).alloc (.cells #[U O 0,U O 0,U O 0,U O 0,U O 0,Us none 0 0] 78);simp only [Aj3] at hma;have hnn:=hma
    try simp only [Ajn,Ajm,Ajo,Ajp,Ajq] at hnn
    have HMa:=K1 hnn;clear hnn;clear hma hb CR HM
    go_upto_region 21 with (first | (refine Bt rfl _ _ _ rfl HMa.out 11 rfl #[U O i.r.c.ca,Us lA lms.length lc,U O r1,U O lp] rfl rfl (by kernel_rfl) rfl rfl ?_;intro Wa hm1;have HMb:=K1 hm1;clear hm1) | (refine Bt rfl _ _ _ rfl HMb.out 12 rfl #[U O t1,U O t2,U O t3,U O t4,U O t5,Us gA (gb-ga) gc] rfl rfl (by kernel_rfl) rfl rfl ?_;intro Wb hm1;have HMc:=K1 hm1;clear hm1) | (refine wpList_load_row rfl _ _ rfl w9.heap.size rfl _ _ _ _ (HMc.out.obj 11 rfl) Tryz.underlying125 rfl (by kernel_rfl) ?_) | (refine Bt rfl _ _ _ rfl HMc.out 2 rfl #[U O i.r.c.ca,Us lA lms.length lc,U O r1,U O lp] rfl rfl (by kernel_rfl) rfl rfl ?_;intro Wd hm1;have HMd:=K1 hm1;clear hm1))
    clear HMa HMb HMc;have HM:=K1 HMd.out;clear HMd;have b1:=HM.out.cells 1 rfl;have b2:=HM.out.cells 7 rfl;have b3:=HM.out.cells 8 rfl;have b4:=HM.out.cells 12 rfl;go_wp2_with fail;clear b1 b2 b3 b4;refine (CH.out _ (HM.out.bel 0 rfl)).mono ?_;rintro e w11 ⟨A2,c2,zs,rfl,hz1,hz2,hm⟩;clear CH;have hlo11:=(HM.out.bel 0 rfl).size
    have hnn:=((HM.out.join hm (fun c hc hmu g hg=>by simp only [Ajz,Aj0,or_false] at hc;rcases hc with rfl;exact absurd trivial hmu)).lower (i:=13) (base':=w.heap.size) rfl hlo11)
    try simp only [Ajn,Ajm,Ajo,Ajp,Ajq] at hnn
    have HM2:=K1 hnn;clear hnn;have HZ:=K1 (show (zs.length=i.r.p/\In64 zs)/\∀ q,A2=some q->w.heap.size<=q.block from ⟨⟨hz1,hz2⟩,AF (HM2.out.own 13 rfl)⟩);have HC2:=K1 (Be (HM2.out.own 13 rfl));clear hm HM hlo11 hz1 hz2
    have hnn:=(HM2.out.freeze (i:=13) rfl)
    try simp only [Ajn,Ajm,Ajo,Ajp,Ajq] at hnn
    have HM:=K1 hnn;clear hnn;clear HM2;have b1:=HM.out.cells 1 rfl;have f1:=fun j=>HM.out.frozen 1 j rfl
    have hnn:=(HM.out.set (i:=1) (j:=18) rfl (Us A2 i.r.p c2))
    try simp only [Ajn,Ajm,Ajo,Ajp,Ajq] at hnn
    have HF:=K1 hnn;clear hnn;clear HM;go_wp2_with fail;clear b1 f1;have HM:=K1 HF.out;clear HF;go_meet;refine ⟨⟨some ⟨bp,op,none⟩,cP,some ⟨bm,om,none⟩,cM,A2,c2,AR,nR,cR,some ⟨bi,oi,none⟩,cI,d⟩,⟨lA,lc,r1,lp,lms⟩,⟨oA,oc,orr,opp,oms⟩,_,_,K1 ⟨rfl,⟨fun _=>rfl,fun h=>absurd (show 4=4 from rfl) h,fun h=>absurd (show 4=3 from h) (by decide),fun _=>⟨rfl,HR1.out.2⟩⟩⟩,K1 (fun W hM=>?_),K1 (HM.out.pick [0,1,2,3,4,5,6,13,9] _ rfl (by decide))⟩;have hb:=hM.bel 0 rfl
    exact ⟨⟨⟨HLE.out.1,HLE.out.2.1,HC2.out,Ajw HLE.out.2.2.2⟩,KP.out W hb,KM.out W hb,G8 HZ.out.1 (hM.rd 1 rfl) HZ.out.2,KR.out W hb,KI.out W hb⟩,Ug (KLI.out W hb) HR1.out.1,KLO.out W hb⟩
  . replace hk:kd=5:=hk;subst hk;replace hn:xn<(plBs i.r.c i.r.p).length:=hn;have hcb:=HIO.out.c.bu;obtain ⟨⟨x,y⟩,hxy⟩:=Au (plBs i.r.c i.r.p) xn hn;have hlt:=Mm HIO.out.c _ (List.mem_of_getElem? hxy);have hxl:x<y:=hlt.1;have hyp:y<=i.r.p:=hlt.2;have hru:=HIO.out.ru;have CP:=K1 (fun W=>Ns W i);have CB:=K1 (fun W=>J9 W i.r.c i.r.p (Us i.A i.r.ns.length i.cap) hcb (by omega));have CR:=K1 (fun W=>Ty W i)
    have CA:=K1 (fun W (hb:Below w.heap.size w W)=>TU W i.r.c.ra i.r.c.mo i.r.c.sh i.r.p cP cM (y-x) (cG-x) x y bp op bm om (some ⟨bg,og+x,none⟩) ps mos (subL gs x y) (HPR.out W hb) (HMR.out W hb) (by have h2:=(HGR.out W hb).sub x y (by rw [Br,HGS.out.1];exact hyp);rw [if_neg (by omega),<- EJ] at h2;rw [Option.map_some,Cg] at h2;exact h2) ⟨HPS.out.1,HMS.out.1,Dc (by omega) (by rw [HGS.out.1];exact hyp)⟩ ⟨HPS.out.2,HMS.out.2,HGS.out.2.sub x y⟩ (by omega) hxl hyp (by omega) HLE.out.1 HLE.out.2.1 hru.q hru.ra hru.mo);have HXY:=K1 hxy
    have HBL:=K1 (show (plBs i.r.c i.r.p).length<=60 from (DU HIO.out.c hp60.2).2.1)
    obtain ⟨nb,hnb⟩:∃ nb,nb=(plBs i.r.c i.r.p).length:=⟨_,rfl⟩
    have hnx2:xn<nb:=by omega
    dsimp only [Ajx,Inp.conf,rpC] at CP CB CR;rw [<- hnb] at CB;have hcg:=HLE.out.2.2.1;have hlc:x≠cG:=by omega
    have hlc2:¬ cG=x:=by omega
    have hle:x<=y:=by omega
    have hhc:y<=cG:=by omega
    have hnb60:nb<=60:=by have:=HBL.out;omega
    clear hxy hlt hcb hru hcg hn hnb;have hnn:=HM.out.hole_.hole_
    try simp only [Ajn,Ajm,Ajo,Ajp,Ajq] at hnn
    replace HM:=K1 hnn;clear hnn;go_upto_region 23 with fail
    go_cut [21] from 132 to 139 (fun s21 W=>∃ g21:Nat,s21=.pointer (some ⟨g21,0,none⟩)/\Hid (Mem W [.bel w.heap.size w,.obj w.heap.size (.cells #[Us i.A i.r.ns.length i.cap,U O i.r.c.sh,U O i.r.c.ra,U O i.r.c.mo,U O i.r.c.k,U O i.r.c.ba,U O i.r.c.mi,U O i.r.c.st,U O i.r.c.bu,U O i.r.c.s,U O i.r.c.wi,U O i.r.c.ca,Us i.DA i.r.n i.dcap,Us i.SA i.r.p i.scap,Us i.RA i.r.ds.length i.rcap,U O u,Us (some ⟨bp,op,none⟩) i.r.p cP,Us (some ⟨bm,om,none⟩) i.r.p cM,Us (some ⟨bg,og,none⟩) i.r.p cG,Us AR nR cR,Us (some ⟨bi,oi,none⟩) (Ak i.r.c i.r.p u).length cI,U O d] 69 (0,0)),.obj (w.heap.size+1) (.cells #[U O i.r.c.ca,Us lA lms.length lc,U O lr,U O lp] 125 (0,0)),.obj (w.heap.size+1+1) (.cells #[U O i.r.c.ca,Us oA oms.length oc,U O orr,U O opp] 125 (0,0)),.obj (w.heap.size+1+1+1) (.cells #[Us none 0 0,U O 0,U O 0,U O 0,U O 0,U O 0,U O 0,U O 0,U O 0,U O 0,U O 0,U O 0,Us none 0 0,Us none 0 0,Us none 0 0,U O 0,Us none 0 0,Us none 0 0,Us none 0 0,Us none 0 0,Us none 0 0,U O 0] 69 (0,0)),.obj (w.heap.size+1+1+1+1) (.cells #[U O 0,Us none 0 0,U O 0,U O 0] 125 (0,0)),.obj (w.heap.size+1+1+1+1+1) (.cells #[U O 0,Us none 0 0,U O 0,U O 0] 125 (0,0)),.obj g10 (.cells #[U O (5:Nat),U O xt,U O xn,.bool sd,.bool aa,U O t1,U O t2,U O t3,U O t4,U O t5,U O x1,U O x2] 76 (0,0)),.obj g11 (.cells #[U O x1,U O x2] 72 (0,0)),hole,hole,.obj g21 (.cells #[U O x,U O y] 72 (0,0))]))
    case first =>
     refine A9 fun W8 hW=>?_;replace HM:=K1 (hW.out.symm ▸ HM.out);clear hW
     refine AC (.reads [0,1,4,5] (.two 2 8 (.two 3 8 (.two 6 8 (.two 7 8 (.eff 8 (.eff 9 (.fin))) (.eff 7 (.eff 9 (.fin)))) (.eff 6 (.eff 7 (.eff 9 (.fin))))) (.eff 3 (.eff 6 (.eff 7 (.eff 9 (.fin)))))) (.eff 2 (.eff 3 (.eff 6 (.eff 7 (.eff 9 (.fin)))))))) 10 (fun W'=>(∀ zz,W'.cell? ⟨w.heap.size,zz,none⟩=([Us i.A i.r.ns.length i.cap,U O i.r.c.sh,U O i.r.c.ra,U O i.r.c.mo,U O i.r.c.k,U O i.r.c.ba,U O i.r.c.mi,U O i.r.c.st,U O i.r.c.bu,U O i.r.c.s,U O i.r.c.wi,U O i.r.c.ca,Us i.DA i.r.n i.dcap,Us i.SA i.r.p i.scap,Us i.RA i.r.ds.length i.rcap,U O u,Us (some ⟨bp,op,none⟩) i.r.p cP,Us (some ⟨bm,om,none⟩) i.r.p cM,Us (some ⟨bg,og,none⟩) i.r.p cG,Us AR nR cR,Us (some ⟨bi,oi,none⟩) (Ak i.r.c i.r.p u).length cI,U O d]:List Value)[zz]?)/\(∀ zz,W'.cell? ⟨g10,zz,none⟩=([U O (5:Nat),U O xt,U O xn,.bool sd,.bool aa,U O t1,U O t2,U O t3,U O t4,U O t5,U O x1,U O x2]:List Value)[zz]?)) ?_
     replace HM:=K1 HM.out.drew;generalize W8.drew=V8 at *;refine Ajy ⟨HM.out.cells 1 rfl,HM.out.cells 7 rfl⟩ (by kernel_rfl) ?_;simp only [AW,p1,p2,p3,p4];apply Exists.intro;apply Ajt
     . intro W' hS;obtain ⟨s1,s2⟩:=hS
       still_step
       refine Ea rfl _ _ rfl w.heap.size 0 rfl [Us i.A i.r.ns.length i.cap,U O i.r.c.sh,U O i.r.c.ra,U O i.r.c.mo,U O i.r.c.k,U O i.r.c.ba,U O i.r.c.mi,U O i.r.c.st,U O i.r.c.bu,U O i.r.c.s,U O i.r.c.wi,U O i.r.c.ca,Us i.DA i.r.n i.dcap,Us i.SA i.r.p i.scap,Us i.RA i.r.ds.length i.rcap] _ Tryz.underlying29 rfl (by kernel_rfl) (Nt s1 [U O u,Us (some ⟨bp,op,none⟩) i.r.p cP,Us (some ⟨bm,om,none⟩) i.r.p cM,Us (some ⟨bg,og,none⟩) i.r.p cG,Us AR nR cR,Us (some ⟨bi,oi,none⟩) (Ak i.r.c i.r.p u).length cI,U O d] rfl) ?_
       repeat still_step
       exact wpStill_nil rfl
     repeat' (first
      | (refine Aj1 ?_ ?_
         skip)
      | (refine Ajr (k:=2) ?_
         go_wp2_with fail;refine (CP.out _).mono ?_;rintro e w9 ⟨rfl,hb⟩;replace HM:=K1 (HM.out.below hb);clear hb;go_wp2_with fail
         refine Ajs ⟨HM.out.cells 1 rfl,HM.out.cells 7 rfl⟩ ?_)
      | (refine Ajr (k:=3) ?_
         go_wp2_with fail;refine (CB.out _).mono ?_;rintro e w9 ⟨AB,cB,rfl,_,hm⟩;obtain ⟨bb,rfl⟩:=hm.ownA 1 rfl (by omega)
         have hnn:=((HM.out.join hm (fun c hc hmu g hg=>by simp only [Ajz,Aj0,or_false] at hc;rcases hc with rfl;exact absurd trivial hmu)).fit 11 rfl)
         try simp only [Ajn,Ajm,Ajo,Ajp,Ajq] at hnn
         have HM2:=K1 hnn;clear hnn;clear hm HM
         have hnn:=(HM2.out.freeze (i:=11) rfl)
         try simp only [Ajn,Ajm,Ajo,Ajp,Ajq] at hnn
         have HM:=K1 hnn;clear hnn;clear HM2;go_wp2_with fail
         refine Ajs ⟨HM.out.cells 1 rfl,HM.out.cells 7 rfl⟩ ?_)
      | (refine Ajr (k:=6) ?_
         go_wp2_with fail
         refine Ajs ⟨HM.out.cells 1 rfl,HM.out.cells 7 rfl⟩ ?_)
      | (refine Ajr (k:=7) ?_
         have z0:=HM.out.rdAt 11 rfl (Ed _ _ _ HXY.out).1;have z1:=HM.out.rdAt 11 rfl (Ed _ _ _ HXY.out).2;simp only [Aj2] at z0 z1;go_wp2_with fail;clear z0 z1
         refine Ajs ⟨HM.out.cells 1 rfl,HM.out.cells 7 rfl⟩ ?_)
      | (refine Ajr (k:=8) ?_
         obtain ⟨g21,hgg,Hg21,hmm⟩:=HM.out.allocFit rfl (.cells #[U O 0,U O 0] 72) 12 rfl;go_wp2_with fail;rw [<- hgg];refine AH fun W16 hW=>?_
         have hnn:=(hW.out.symm ▸ hmm)
         try simp only [Ajn,Ajm,Ajo,Ajp,Ajq] at hnn
         have HM:=K1 hnn;clear hnn;clear hW hmm hgg
         refine Ajs ⟨HM.out.cells 1 rfl,HM.out.cells 7 rfl⟩ ?_)
      | (refine Ajr (k:=9) ?_
         refine Bt rfl _ _ _ rfl HM.out 12 rfl #[U O x,U O y] rfl rfl (by kernel_rfl) rfl rfl ?_;intro W17 hm17;have hnn:=hm17
         try simp only [Ajn,Ajm,Ajo,Ajp,Ajq] at hnn
         have HM:=K1 hnn;clear hnn;clear hm17;go_wp2_with fail
         refine Ajs ⟨HM.out.cells 1 rfl,HM.out.cells 7 rfl⟩ ?_)
      | (refine Ajv ?_
         go_wp2_with fail;go_meet
         exact ⟨g21,rfl,K1 (HM.out.pick [0,1,2,3,4,5,6,7,8,9,10,12] _ rfl (by decide))⟩))
    case rest =>
     obtain ⟨g21,rfl,HMB⟩:=hcut;clear HM;have HM:=K1 HMB.out;clear HMB;clear CP CB;go_upto_region 24 with fail
     refine A9 fun W18 hW=>?_;replace HM:=K1 (hW.out.symm ▸ HM.out);clear hW
     refine AC (.reads [0,1,2,4,6,7,8,9,10,11,12,13] (.two 3 5 (.eff 5 (.eff 14 (.reads [15,16,17,18] (.eff 19 (.fin))))) (.eff 3 (.eff 14 (.reads [15,16,17,18] (.eff 19 (.fin))))))) 20 (fun W'=>(∀ j v,([Us i.A i.r.ns.length i.cap,U O i.r.c.sh,U O i.r.c.ra,U O i.r.c.mo,U O i.r.c.k,U O i.r.c.ba,U O i.r.c.mi,U O i.r.c.st,U O i.r.c.bu,U O i.r.c.s,U O i.r.c.wi,U O i.r.c.ca]:List Value)[j]?=some v->W'.cell? ⟨w.heap.size,j,none⟩=some v)/\W'.cell? ⟨w.heap.size,18,none⟩=some (Us (some ⟨bg,og,none⟩) i.r.p cG)/\(∀ zz,W'.cell? ⟨g21,zz,none⟩=([U O x,U O y]:List Value)[zz]?)) ?_;replace HM:=K1 HM.out.drew
     generalize W18.drew=V18 at *;refine Ajy ⟨F6 (HM.out.cells 1 rfl) [Us i.DA i.r.n i.dcap,Us i.SA i.r.p i.scap,Us i.RA i.r.ds.length i.rcap,U O u,Us (some ⟨bp,op,none⟩) i.r.p cP,Us (some ⟨bm,om,none⟩) i.r.p cM,Us (some ⟨bg,og,none⟩) i.r.p cG,Us AR nR cR,Us (some ⟨bi,oi,none⟩) (Ak i.r.c i.r.p u).length cI,U O d] rfl,HM.out.cells 1 rfl 18,HM.out.cells 11 rfl⟩ (by kernel_rfl) ?_;simp only [AW,p1,p2,p3,p4];apply Exists.intro;apply Ajt
     . intro W' hS;obtain ⟨s1,s2,s3⟩:=hS
       still_step
       still_step
       refine Ea rfl _ _ rfl w.heap.size 0 rfl [Us i.A i.r.ns.length i.cap,U O i.r.c.sh,U O i.r.c.ra,U O i.r.c.mo,U O i.r.c.k,U O i.r.c.ba,U O i.r.c.mi,U O i.r.c.st,U O i.r.c.bu,U O i.r.c.s,U O i.r.c.wi,U O i.r.c.ca] _ Tryz.underlying24 rfl (by kernel_rfl) (Ud s1) ?_
       still_step
       still_step
       still_step
       still_step
       still_step
       still_step
       still_step
       still_step
       still_step
       exact wpStill_nil rfl
     repeat' (first
      | (refine Aj1 ?_ ?_
         skip)
      | (refine Ajr (k:=3) ?_
         go_wp2_with fail;refine (CR.out _).mono ?_;rintro e w9 ⟨rfl,hb⟩;replace HM:=K1 (HM.out.below hb);clear hb;go_wp2_with fail
         refine Ajs ⟨F6 (HM.out.cells 1 rfl) [Us i.DA i.r.n i.dcap,Us i.SA i.r.p i.scap,Us i.RA i.r.ds.length i.rcap,U O u,Us (some ⟨bp,op,none⟩) i.r.p cP,Us (some ⟨bm,om,none⟩) i.r.p cM,Us (some ⟨bg,og,none⟩) i.r.p cG,Us AR nR cR,Us (some ⟨bi,oi,none⟩) (Ak i.r.c i.r.p u).length cI,U O d] rfl,HM.out.cells 1 rfl 18,HM.out.cells 11 rfl⟩ ?_)
      | (refine Ajr (k:=5) ?_
         have b1:=HM.out.cells 1 rfl;go_wp2_with fail;clear b1
         refine Ajs ⟨F6 (HM.out.cells 1 rfl) [Us i.DA i.r.n i.dcap,Us i.SA i.r.p i.scap,Us i.RA i.r.ds.length i.rcap,U O u,Us (some ⟨bp,op,none⟩) i.r.p cP,Us (some ⟨bm,om,none⟩) i.r.p cM,Us (some ⟨bg,og,none⟩) i.r.p cG,Us AR nR cR,Us (some ⟨bi,oi,none⟩) (Ak i.r.c i.r.p u).length cI,U O d] rfl,HM.out.cells 1 rfl 18,HM.out.cells 11 rfl⟩ ?_)
      | (refine Ajr (k:=14) ?_
         go_wp2_with fail;refine (CA.out _ (HM.out.bel 0 rfl)).mono ?_;rintro e w10 ⟨A6,c6,A7,c7,xs,ys,rfl,hc6,hc7,hx1,hx2,hy1,hy2,hm⟩;have hlo11:=(HM.out.bel 0 rfl).size
         have hnn:=(((HM.out.join hm (fun c hc hmu g hg=>by simp only [Ajz,Aj0,or_false] at hc;rcases hc with rfl | rfl <;> exact absurd trivial hmu)).lower (i:=12) (base':=w.heap.size) rfl hlo11).lower (i:=13) (base':=w.heap.size) rfl hlo11)
         try simp only [Ajn,Ajm,Ajo,Ajp,Ajq] at hnn
         have HM2:=K1 hnn;clear hnn;have HZ:=K1 (show ((xs.length=i.r.p/\In64 xs)/\∀ q,A6=some q->w.heap.size<=q.block)/\((ys.length=i.r.p/\In64 ys)/\∀ q,A7=some q->w.heap.size<=q.block)/\i.r.p<=c6/\i.r.p<=c7 from ⟨⟨⟨hx1,hx2⟩,AF (HM2.out.own 12 rfl)⟩,⟨⟨hy1,hy2⟩,AF (HM2.out.own 13 rfl)⟩,hc6,hc7⟩);clear hm HM hlo11 hx1 hx2 hy1 hy2 hc6 hc7
         have hnn:=((HM2.out.freeze (i:=12) rfl).freeze (i:=13) rfl)
         try simp only [Ajn,Ajm,Ajo,Ajp,Ajq] at hnn
         have HM:=K1 hnn;clear hnn;clear HM2;go_wp2_with fail
         refine Ajs ⟨F6 (HM.out.cells 1 rfl) [Us i.DA i.r.n i.dcap,Us i.SA i.r.p i.scap,Us i.RA i.r.ds.length i.rcap,U O u,Us (some ⟨bp,op,none⟩) i.r.p cP,Us (some ⟨bm,om,none⟩) i.r.p cM,Us (some ⟨bg,og,none⟩) i.r.p cG,Us AR nR cR,Us (some ⟨bi,oi,none⟩) (Ak i.r.c i.r.p u).length cI,U O d] rfl,HM.out.cells 1 rfl 18,HM.out.cells 11 rfl⟩ ?_)
      | (refine PlS.rc_ ⟨F6 (HM.out.cells 1 rfl) [Us i.DA i.r.n i.dcap,Us i.SA i.r.p i.scap,Us i.RA i.r.ds.length i.rcap,U O u,Us (some ⟨bp,op,none⟩) i.r.p cP,Us (some ⟨bm,om,none⟩) i.r.p cM,Us (some ⟨bg,og,none⟩) i.r.p cG,Us AR nR cR,Us (some ⟨bi,oi,none⟩) (Ak i.r.c i.r.p u).length cI,U O d] rfl,HM.out.cells 1 rfl 18,HM.out.cells 11 rfl⟩ ?_)
      | (refine Ajr (k:=19) ?_
         have b1:=HM.out.cells 1 rfl;have f1:=fun j=>HM.out.frozen 1 j rfl
         have hnn:=((HM.out.set (i:=1) (j:=16) rfl (Us A6 i.r.p c6)).set (i:=1) (j:=17) rfl (Us A7 i.r.p c7))
         try simp only [Ajn,Ajm,Ajo,Ajp,Ajq] at hnn
         have HF:=K1 hnn;clear hnn;clear HM;go_wp2_with fail;clear b1 f1;have HM:=K1 HF.out;clear HF
         refine Ajs ⟨F6 (HM.out.cells 1 rfl) [Us i.DA i.r.n i.dcap,Us i.SA i.r.p i.scap,Us i.RA i.r.ds.length i.rcap,U O u,Us A6 i.r.p c6,Us A7 i.r.p c7,Us (some ⟨bg,og,none⟩) i.r.p cG,Us AR nR cR,Us (some ⟨bi,oi,none⟩) (Ak i.r.c i.r.p u).length cI,U O d] rfl,HM.out.cells 1 rfl 18,HM.out.cells 11 rfl⟩ ?_)
      | (refine Ajv ?_
         go_wp2_with fail;go_meet;refine ⟨⟨A6,c6,A7,c7,some ⟨bg,og,none⟩,cG,AR,nR,cR,some ⟨bi,oi,none⟩,cI,d⟩,⟨lA,lc,lr,lp,lms⟩,⟨oA,oc,orr,opp,oms⟩,_,_,K1 ⟨rfl,⟨fun _=>rfl,fun _=>rfl,fun h=>absurd (show 5=3 from h) (by decide),fun h=>absurd (show 5=4 from h) (by decide)⟩⟩,K1 (fun W hM=>?_),K1 (HM.out.pick [0,1,2,3,4,5,6,12,13] _ rfl (by decide))⟩;have hb:=hM.bel 0 rfl
         exact ⟨⟨⟨HZ.out.2.2.1,HZ.out.2.2.2,HLE.out.2.2.1,Ajw HLE.out.2.2.2⟩,G8 HZ.out.1.1 (hM.rd 1 rfl) HZ.out.1.2,G8 HZ.out.2.1.1 (hM.rd 2 rfl) HZ.out.2.1.2,KG.out W hb,KR.out W hb,KI.out W hb⟩,KLI.out W hb,KLO.out W hb⟩))
  . replace hk:kd=6:=hk;subst hk;obtain ⟨rs,hrs,hrr⟩:=HR2.out;have HRR:=K1 (fun W (hb:Below w.heap.size w W)=>(hrr.rd.below hb).more hb.size);have HRS:=K1 hrs;have hnr:=HLE.out.2.2.2;have hmk:=Gw i.r.p (by omega);clear hrs hrr;have hnn:=HM.out.hole_
    try simp only [Ajn,Ajm,Ajo,Ajp,Ajq] at hnn
    replace HM:=K1 hnn;clear hnn;go_upto_region 26 with fail
    refine A9 fun W8 hW=>?_;replace HM:=K1 (hW.out.symm ▸ HM.out);clear hW
    refine AC (.reads [1,2,4,5] (.two 0 6 (.two 3 6 (.eff 6 (.eff 7 (.reads [8] (.eff 9 (.fin))))) (.eff 3 (.eff 7 (.reads [8] (.eff 9 (.fin)))))) (.eff 0 (.eff 3 (.eff 7 (.reads [8] (.eff 9 (.fin)))))))) 9 (fun W'=>(∀ zz,W'.cell? ⟨w.heap.size,zz,none⟩=([Us i.A i.r.ns.length i.cap,U O i.r.c.sh,U O i.r.c.ra,U O i.r.c.mo,U O i.r.c.k,U O i.r.c.ba,U O i.r.c.mi,U O i.r.c.st,U O i.r.c.bu,U O i.r.c.s,U O i.r.c.wi,U O i.r.c.ca,Us i.DA i.r.n i.dcap,Us i.SA i.r.p i.scap,Us i.RA i.r.ds.length i.rcap,U O u,Us (some ⟨bp,op,none⟩) i.r.p cP,Us (some ⟨bm,om,none⟩) i.r.p cM,Us (some ⟨bg,og,none⟩) i.r.p cG,Us AR nR cR,Us (some ⟨bi,oi,none⟩) (Ak i.r.c i.r.p u).length cI,U O d]:List Value)[zz]?)) ?_
    replace HM:=K1 HM.out.drew;generalize W8.drew=V8 at *
    repeat' (first
     | (refine Aj1 ?_ ?_
        skip)
     | (refine PlS.rd_ (HM.out.cells 1 rfl) ?_)
     | (refine Ajr (k:=0) ?_
        obtain ⟨g0,hgg,hmm⟩:=HM.out.emptyFit rfl 66 2 9 rfl;go_wp2_with fail;rw [<- hgg];refine AH fun W10 hW=>?_
        have hnn:=(hW.out.symm ▸ hmm)
        try simp only [Ajn,Ajm,Ajo,Ajp,Ajq] at hnn
        have HM:=K1 hnn;clear hnn;clear hW hmm hgg
        refine Ajs (HM.out.cells 1 rfl) ?_)
     | (refine Ajr (k:=3) ?_
        refine AQ (n:=0) rfl _ _ 40 rfl HM.out 9 Nm rfl rfl AR nR cR rs rfl (HRR.out _ (HM.out.bel 0 rfl)) HRS.out.1 HRS.out.2 (by omega) ?_;intro A3 c3 W13 hm13;simp only [Aj2,Ajm] at hm13;have hnn:=hm13
        try simp only [Ajn,Ajm,Ajo,Ajp,Ajq] at hnn
        have HM:=K1 hnn;clear hnn;clear hm13;simp only [Aj2];go_wp2_with fail
        refine Ajs (HM.out.cells 1 rfl) ?_)
     | (refine Ajr (k:=6) ?_
        obtain ⟨g6,hgg,_,hmm⟩:=HM.out.rowFit rfl #[Us (some ⟨bp,op,none⟩) i.r.p cP,Us (some ⟨bm,om,none⟩) i.r.p cM] 66 11 rfl;go_wp2_with fail;rw [<- hgg];refine AH fun W16 hW=>?_
        have hnn:=(hW.out.symm ▸ hmm)
        try simp only [Ajn,Ajm,Ajo,Ajp,Ajq] at hnn
        have HM:=K1 hnn;clear hnn;clear hW hmm hgg
        refine Ajs (HM.out.cells 1 rfl) ?_)
     | (refine Ajr (k:=7) ?_
        refine AQ (n:=nR) rfl _ _ 40 rfl HM.out 9 Nm rfl rfl _ 1 _ [Us (some ⟨bp,op,none⟩) i.r.p cP,Us (some ⟨bm,om,none⟩) i.r.p cM] rfl (HM.out.rd 11 rfl) rfl (by intro v hv;simp at hv;rcases hv with rfl | rfl <;> rfl) (by omega) ?_;intro A4 c4 W17 hm17;have hnn:=hm17
        try simp only [Ajn,Ajm,Ajo,Ajp,Ajq] at hnn
        have HM:=K1 hnn;clear hnn;clear hm17;go_wp2_with fail
        refine Ajs (HM.out.cells 1 rfl) ?_)
     | (refine Ajr (k:=9) ?_
        have b1:=HM.out.cells 1 rfl;have f1:=fun j=>HM.out.frozen 1 j rfl
        have hnn:=(HM.out.set (i:=1) (j:=19) rfl (Us A4 (nR+1) c4))
        try simp only [Ajn,Ajm,Ajo,Ajp,Ajq] at hnn
        have HF:=K1 hnn;clear hnn;clear HM;go_wp2_with fail;clear b1 f1;have HM:=K1 HF.out;clear HF;refine After.last (by decide) (Ajv ?_);have HRN:=K1 (Ajt (HM.out.own 9 rfl).1 (AF (HM.out.own 9 rfl)))
        have hnn:=(HM.out.freeze (i:=9) rfl)
        try simp only [Ajn,Ajm,Ajo,Ajp,Ajq] at hnn
        replace HM:=K1 hnn;clear hnn;have b1:=HM.out.cells 1 rfl;obtain ⟨gZ,hgg,HgZ,hmm⟩:=HM.out.zeroFit rfl i.r.p (by omega) 10 rfl;simp only [World.size_setCell] at hgg;have hmm2:=hmm.set (i:=1) (j:=18) rfl (Us (some ⟨gZ,0,none⟩) i.r.p i.r.p);have b2:=hmm.cells 1 rfl;have f2:=fun j=>hmm.frozen 1 j rfl
        rw [hgg] at hmm2;have hnn:=hmm2
        try simp only [Ajn,Ajm,Ajo,Ajp,Ajq] at hnn
        have HM2:=K1 hnn;clear hnn;clear hmm hmm2 HM;have HGZ:=K1 (Ajt hgg HgZ);clear hgg HgZ;go_wp2_with fail;clear b1 b2 f2;have HM:=K1 HM2.out;clear HM2;go_meet;refine ⟨⟨some ⟨bp,op,none⟩,cP,some ⟨bm,om,none⟩,cM,some ⟨_,0,none⟩,i.r.p,A4,nR+1,c4,some ⟨bi,oi,none⟩,cI,d⟩,⟨lA,lc,lr,lp,lms⟩,⟨oA,oc,orr,opp,oms⟩,_,_,K1 ⟨rfl,⟨fun _=>rfl,fun _=>rfl,fun h=>absurd (show 6=3 from h) (by decide),fun h=>absurd (show 6=4 from h) (by decide)⟩⟩,K1 (fun W hM=>?_),K1 (HM.out.pick [0,1,2,3,4,5,6,9,10] _ rfl (by decide))⟩;have hb:=hM.bel 0 rfl
        exact ⟨⟨⟨HLE.out.1,HLE.out.2.1,Nat.le_refl _,Nat.succ_le_succ HLE.out.2.2.2⟩,KP.out W hb,KM.out W hb,G8 ⟨by simp [AE],Fl _⟩ (hM.rd 2 rfl) (fun q hq=>by cases hq;rw [<- HGZ.out.1];exact HGZ.out.2),⟨rs++[Us (some ⟨bp,op,none⟩) i.r.p cP,Us (some ⟨bm,om,none⟩) i.r.p cM],⟨by rw [List.length_append,HRS.out.1];simp;omega,fun u hu=>by rcases List.mem_append.1 hu with h | h;exact HRS.out.2 u h;simp at h;rcases h with rfl | rfl <;> rfl⟩,hM.rd 1 rfl,fun _ q hq=>.inr (HRN.out.2 q hq)⟩,KI.out W hb⟩,KLI.out W hb,KLO.out W hb⟩))
 case rest =>
  obtain ⟨m2,li2,lo2,T1,T2,HQ,HT,HMB⟩:=hcut;clear HM;have HM:=K1 HMB.out;clear HMB HKD HRG H3 H4 HPR HMR HGR KP KM KG KGR KR KI KLI KLO HPS HMS HGS HLI HLO HIO HAT HR2 HLE HXT HBD;obtain ⟨AP2,cP2,AM2,cM2,AG2,cG2,AR2,nR2,cR2,AI2,cI2,d2⟩:=m2;obtain ⟨A4,c4,r4,p4,ms4⟩:=li2;obtain ⟨A5,c5,r5,p5,ms5⟩:=lo2;have hd2:d2=d:=HQ.out.1;subst hd2;dsimp only [Rm.cells,Rl.cells,Ajx] at HM;simp only [Ajn,Ajm] at HM
  obtain ⟨d1,hd1⟩:∃ d1,d1=d2+1:=⟨_,rfl⟩
  have e1:(d2:Int)+1=(d1:Int):=by omega
  have e2:IntKind.i64.wrap (d1:Int)=(d1:Int):=IntWalk.i64_in _ (by omega);have HD1:=K1 hd1;clear hd1;have b1:=HM.out.cells 1 rfl;have f1:=fun j=>HM.out.frozen 1 j rfl
  have hnn:=(HM.out.set (i:=1) (j:=21) rfl (U O d1))
  try simp only [Ajn,Ajm,Ajo,Ajp,Ajq] at hnn
  have HF:=K1 hnn;clear hnn;clear HM;go_wp2_with fail;clear b1 f1;have HM:=K1 HF.out;clear HF;refine A9 fun WR hW=>?_;replace HM:=K1 (hW.out.symm ▸ HM.out);clear hW
  refine AC (.reads [0,1,2] (.eff 3 (.eff 4 (.eff 5 (.reads [6] (.fin)))))) 7 (fun W'=>W'.heap[w.heap.size]?=some (.cells #[Us i.A i.r.ns.length i.cap,U O i.r.c.sh,U O i.r.c.ra,U O i.r.c.mo,U O i.r.c.k,U O i.r.c.ba,U O i.r.c.mi,U O i.r.c.st,U O i.r.c.bu,U O i.r.c.s,U O i.r.c.wi,U O i.r.c.ca,Us i.DA i.r.n i.dcap,Us i.SA i.r.p i.scap,Us i.RA i.r.ds.length i.rcap,U O u,Us AP2 i.r.p cP2,Us AM2 i.r.p cM2,Us AG2 i.r.p cG2,Us AR2 nR2 cR2,Us AI2 (Ak i.r.c i.r.p u).length cI2,U O d1] 69 (0,0))/\W'.heap[(w.heap.size+1)]?=some (.cells #[U O i.r.c.ca,Us A4 ms4.length c4,U O r4,U O p4] 125 (0,0))/\W'.heap[(w.heap.size+1+1)]?=some (.cells #[U O i.r.c.ca,Us A5 ms5.length c5,U O r5,U O p5] 125 (0,0))) ?_
  replace HM:=K1 HM.out.drew;generalize WR.drew=VR at *;refine Ajy ⟨HM.out.obj 1 rfl,HM.out.obj 2 rfl,HM.out.obj 3 rfl⟩ (by kernel_rfl) ?_;simp only [AW,List.filterMap_cons,List.filterMap_nil,List.getElem?_cons_zero,List.getElem?_cons_succ];apply Exists.intro;apply Ajt
  . intro W' hS;obtain ⟨s1,s2,s3⟩:=hS;refine Du rfl _ _ rfl w.heap.size rfl _ _ _ s1 Tryz.underlying69 rfl (by kernel_rfl) ?_;refine Du rfl _ _ rfl (w.heap.size+1) rfl _ _ _ s2 Tryz.underlying125 rfl (by kernel_rfl) ?_;refine Du rfl _ _ rfl (w.heap.size+1+1) rfl _ _ _ s3 Tryz.underlying125 rfl (by kernel_rfl) ?_
    repeat still_step
    exact wpStill_nil rfl
  refine Ajr ?_;refine Bt rfl _ _ _ rfl HM.out 4 rfl #[Us i.A i.r.ns.length i.cap,U O i.r.c.sh,U O i.r.c.ra,U O i.r.c.mo,U O i.r.c.k,U O i.r.c.ba,U O i.r.c.mi,U O i.r.c.st,U O i.r.c.bu,U O i.r.c.s,U O i.r.c.wi,U O i.r.c.ca,Us i.DA i.r.n i.dcap,Us i.SA i.r.p i.scap,Us i.RA i.r.ds.length i.rcap,U O u,Us AP2 i.r.p cP2,Us AM2 i.r.p cM2,Us AG2 i.r.p cG2,Us AR2 nR2 cR2,Us AI2 (Ak i.r.c i.r.p u).length cI2,U O d1] rfl rfl (by kernel_rfl) rfl rfl ?_;intro WS hmS;clear HM;have hnn:=hmS
  try simp only [Ajn,Ajm,Ajo,Ajp,Ajq] at hnn
  have HM:=K1 hnn;clear hnn;clear hmS;go_wp2_with fail;refine Ajs ⟨HM.out.obj 1 rfl,HM.out.obj 2 rfl,HM.out.obj 3 rfl⟩ ?_;refine Ajr ?_;refine Bt rfl _ _ _ rfl HM.out 5 rfl #[U O i.r.c.ca,Us A4 ms4.length c4,U O r4,U O p4] rfl rfl (by kernel_rfl) rfl rfl ?_;intro WS hmS;clear HM;have hnn:=hmS
  try simp only [Ajn,Ajm,Ajo,Ajp,Ajq] at hnn
  have HM:=K1 hnn;clear hnn;clear hmS;go_wp2_with fail;refine Ajs ⟨HM.out.obj 1 rfl,HM.out.obj 2 rfl,HM.out.obj 3 rfl⟩ ?_;refine Ajr ?_;refine Bt rfl _ _ _ rfl HM.out 6 rfl #[U O i.r.c.ca,Us A5 ms5.length c5,U O r5,U O p5] rfl rfl (by kernel_rfl) rfl rfl ?_;intro WS hmS;clear HM;have hnn:=hmS
  try simp only [Ajn,Ajm,Ajo,Ajp,Ajq] at hnn
  have HM:=K1 hnn;clear hnn;clear hmS;go_wp2_with fail;refine Ajs ⟨HM.out.obj 1 rfl,HM.out.obj 2 rfl,HM.out.obj 3 rfl⟩ ?_;refine PlS.rc_ ⟨HM.out.obj 1 rfl,HM.out.obj 2 rfl,HM.out.obj 3 rfl⟩ ?_;refine Ajv ?_;go_wp2_with fail;have o4:=HM.out.obj 4 rfl;have o5:=HM.out.obj 5 rfl;have o6:=HM.out.obj 6 rfl
  refine bodyPost_ret (v:=.tuple #[.agg #[Us i.A i.r.ns.length i.cap,U O i.r.c.sh,U O i.r.c.ra,U O i.r.c.mo,U O i.r.c.k,U O i.r.c.ba,U O i.r.c.mi,U O i.r.c.st,U O i.r.c.bu,U O i.r.c.s,U O i.r.c.wi,U O i.r.c.ca,Us i.DA i.r.n i.dcap,Us i.SA i.r.p i.scap,Us i.RA i.r.ds.length i.rcap,U O u,Us AP2 i.r.p cP2,Us AM2 i.r.p cM2,Us AG2 i.r.p cG2,Us AR2 nR2 cR2,Us AI2 (Ak i.r.c i.r.p u).length cI2,U O d1],.agg #[U O i.r.c.ca,Us A4 ms4.length c4,U O r4,U O p4],.agg #[U O i.r.c.ca,Us A5 ms5.length c5,U O r5,U O p5],U O 0]) (G3 Tryz.results83 _ _ _ _ _ _ _ _ _ _ _ _ _ _ rfl rfl rfl rfl o4 Tryz.underlying69 rfl (by kernel_rfl) o5 Tryz.underlying125 rfl (by kernel_rfl) o6 Tryz.underlying125 rfl (by kernel_rfl)) rfl ⟨⟨AP2,cP2,AM2,cM2,AG2,cG2,AR2,nR2,cR2,AI2,cI2,d1⟩,⟨A4,c4,r4,p4,ms4⟩,⟨A5,c5,r5,p5,ms5⟩,?_,HD1.out,HQ.out.2,(by rw [HD1.out];exact HT.out _ (HM.out.pick [0,7,8] _ rfl (by decide))),HM.out.bel 0 rfl⟩
  rfl
end
end Go.Proofs.YtdpojpcoghcieaaGreat
