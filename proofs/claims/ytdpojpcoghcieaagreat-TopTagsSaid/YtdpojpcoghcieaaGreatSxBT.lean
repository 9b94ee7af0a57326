/- A part of the proof of TopTags: RefDoAny, RefTry, RefPick. Conditions: none. -/
import Derived.Test.YtdpojpcoghcieaaGreatSxBR
import Derived.Test.YtdpojpcoghcieaaGreatSxBS
set_option maxHeartbeats 8000000
set_option linter.all false
namespace Go.Proofs.YtdpojpcoghcieaaGreat
open Lib renaming hid → K1
open List renaming filterMap_cons → p1, filterMap_nil → p2, getElem?_cons_zero → p3, getElem?_cons_succ → p4
open Go.RowKit
set_option maxRecDepth 100000
open Value renaming int → U, slice → Us
open IntKind renaming i64 → O
open List renaming nil_append → Aki, cons_append → Akk, set_cons_zero → Akl, set_cons_succ → Akm, setIfInBounds_toArray → Akn
open Rl renaming In → Akj
open Rm renaming In → Ako
open PlS renaming ef_ → Akp
open After renaming go → Akq
open IntWalk renaming i64_in → Akr
open Nat renaming zero_add → Aks, le_trans → Aku, le_succ_of_le → Akw
open World renaming size_alloc → Akt, setCells → Aky
open Mem renaming start → Akv
open And renaming intro → Akx
section
theorem U7 (w:World) (i:Inp) (hi:i.Ok) (ha:i.At w) (u v:Nat) (hu:u<i.r.c.k) (hv:v=(u+i.r.c.k-1) % i.r.c.k) (F:Nat->Prop) (m:Rm) (li lo:Rl) (hm:Ako i u m F w) (hli:Akj i v li F w) (hlo:Akj i u lo F w) (hd:m.d<=1000000) (hb:li.ms.length<=1000000/\lo.ms.length<=1000000)
  (hn:∀ x,(Ak i.r.c i.r.p u)[m.d]?=some x->x.kind=4->li.re<li.ms.length->∃ g,li.ms[li.re]?=some g/\g.t=tgOf x.a) :
  Calls Tryz.prog 83 #[.agg (m.cells i u).toArray,.agg (li.cells i.r.c.ca).toArray,.agg (lo.cells i.r.c.ca).toArray] w (JN i u v m li lo F w):=by
 cases hx:(Ak i.r.c i.r.p u)[m.d]? with
 | none =>
   refine (U1 w i u m li lo hx hd).mono ?_;rintro e w' ⟨rfl,hb⟩;exact ⟨m,li,lo,13,rfl,hb,.inl ⟨rfl,fun ⟨x,h,_⟩=>by rw [hx] at h;cases h⟩,fun h=>absurd h (by decide)⟩
 | some x =>
   have key:∀ y,(Ak i.r.c i.r.p u)[m.d]?=some y->y=x:=fun y hy=>by rw [hx] at hy;injection hy with hy;exact hy.symm
   by_cases hf:(x.kind=3->lo.ms.length<lo.re+i.r.c.ca)/\(x.kind=4->li.re<li.ms.length)
   . refine (U0 w i hi ha u v hu hv F m li lo x hm hli hlo hx hd hb hf.1 (fun k4=>hn x hx k4 (hf.2 k4))).mono ?_;rintro e w' ⟨m',li',lo',rfl,h1,h2,h3,h4⟩;exact ⟨m',li',lo',0,rfl,h4,.inr ⟨rfl,⟨x,hx,hf⟩,h1,x,hx,h2⟩,fun _=>h3⟩
   . have hno:¬ G7 i u m li lo:=fun ⟨y,hy,h⟩=>by have:=key y hy;subst this;exact hf h
     by_cases k3:x.kind=3
     . have hfull:lo.re+i.r.c.ca<=lo.ms.length:=by
        rcases Nat.lt_or_ge lo.ms.length (lo.re+i.r.c.ca) with h | h
        . exact absurd ⟨fun _=>h,fun h4=>by omega⟩ hf
        . exact h
       refine (U2 w i hi ha u v hu hv F m li lo x hm hli hlo hx hd hb k3 hfull).mono ?_;rintro e w' ⟨rfl,hb⟩;exact ⟨m,li,lo,11,rfl,hb,.inl ⟨rfl,hno⟩,fun h=>absurd h (by decide)⟩
     . by_cases k4:x.kind=4
       . have hemp:li.re=li.ms.length:=by
          have:=hli.1.1
          rcases Nat.lt_or_ge li.re li.ms.length with h | h
          . exact absurd ⟨fun h3=>absurd h3 k3,fun _=>h⟩ hf
          . omega
         refine (U3 w i hi ha u v hu hv F m li lo x hm hli hlo hx hd hb k4 hemp).mono ?_;rintro e w' ⟨rfl,hb⟩;exact ⟨m,li,lo,12,rfl,hb,.inl ⟨rfl,hno⟩,fun h=>absurd h (by decide)⟩
       . exact absurd ⟨fun h=>absurd h k3,fun h=>absurd h k4⟩ hf
theorem U8 (w:World) (i:Inp) (hi:i.Ok) (ha:i.At w) (y:Rw) (N:Nat) (F:Nat->Prop) (hFl:∀ g,F g->g<w.heap.size) (hy:Rw.In i y F w) (ho:y.Ok i N) (hN:N<=100000) (u:Nat) (hu:u<i.r.c.k) :
  Calls Tryz.prog 48 #[.agg (y.cells i).toArray,U O u] w (JN i u ((u+i.r.c.k-1) % i.r.c.k) (y.ms u) (y.ls ((u+i.r.c.k-1) % i.r.c.k)) (y.ls u) F w):=by
 have hk:=hi.c.k
 obtain ⟨s,hs⟩:∃ s,s=u+i.r.c.k:=⟨_,rfl⟩
 obtain ⟨q,hq⟩:∃ q,q=u+i.r.c.k-1:=⟨_,rfl⟩
 obtain ⟨r,hr⟩:∃ r,r=q % i.r.c.k:=⟨_,rfl⟩
 have e1:(u:Int)+(i.r.c.k:Int)=(s:Int):=by omega
 have e2:(s:Int)-1=(q:Int):=by omega
 have e3:(q:Int).tmod (i.r.c.k:Int)=(r:Int):=by rw [hr];exact (Int.ofNat_tmod _ _).symm
 have hrk:r<i.r.c.k:=by rw [hr];exact Nat.mod_lt _ (by omega)
 have w1:IntKind.i64.wrap (s:Int)=(s:Int):=Akr _ (by omega);have w2:IntKind.i64.wrap (q:Int)=(q:Int):=Akr _ (by omega);have w3:IntKind.i64.wrap (r:Int)=(r:Int):=Akr _ (by omega);have hz:¬ i.r.c.k=0:=by omega
 have hzi:((i.r.c.k:Int) == 0)=false:=beq_eq_false_iff_ne.2 (by omega);have hnu:¬ i.r.c.k<=u:=by omega
 have hkb:i.r.c.k<=8:=hk.2;have HRV:=K1 (show r=(u+i.r.c.k-1) % i.r.c.k by rw [hr,hq]);rw [<- HRV.out];clear hs hq hr
 have CD:=K1 (fun W (hb:Below w.heap.size w W)=>U7 W i hi (ha.below hb) u r hu HRV.out F (y.ms u) (y.ls r) (y.ls u) ((Dh _ _ _).keep F w W hb.size (fun g hg=>hb.block g (hFl g hg)) (hy.2.2 u hu).1) ((Ck _ _ _).keep F w W hb.size (fun g hg=>hb.block g (hFl g hg)) (hy.2.2 r hrk).2) ((Ck _ _ _).keep F w W hb.size (fun g hg=>hb.block g (hFl g hg)) (hy.2.2 u hu).2) (Aku (ho.d u hu) (by omega)) ⟨Aku (ho.len hrk) (by omega),Aku (ho.len hu) (by omega)⟩ (fun x hx k4 hlt=>by
  have:=Uk ho hu hx k4;rw [<- HRV.out] at this
  exact this hlt))
 obtain ⟨AM,cM,AL,cL,cn,ms,ls⟩:=y;obtain ⟨hyM,hyL,hyP⟩:=hy;dsimp only at *;obtain ⟨bM,oM,rfl,_,_⟩:=hyM.rd (by rw [G6];omega);obtain ⟨bL,oL,rfl,_,_⟩:=hyL.rd (by rw [Iv];omega)
 have HCM:=K1 (fun W (hb:Below w.heap.size w W) j v (h:((ms u).cells i u)[j]?=some v)=>(show W.cell? ⟨bM,oM+u*22+j,none⟩=some v by
  rw [Nat.add_assoc];exact DY ((hyM.rd.below hb).more hb.size) (Nq hu h)))
 have HCL:=K1 (fun W (hb:Below w.heap.size w W) a (hak:a<i.r.c.k) j v (h:((ls a).cells i.r.c.ca)[j]?=some v)=>(show W.cell? ⟨bL,oL+a*4+j,none⟩=some v by
  rw [Nat.add_assoc];exact DY ((hyL.rd.below hb).more hb.size) (TX hak h)))
 have hm0:=((((Akv w).alloc (.cells #[Us (some ⟨bM,oM,none⟩) i.r.c.k cM,Us (some ⟨bL,oL,none⟩) i.r.c.k cL,U O cn] 56)).alloc (.cells #[Us none 0 0,U O 0,U O 0,U O 0,U O 0,U O 0,U O 0,U O 0,U O 0,U O 0,U O 0,U O 0,Us none 0 0,Us none 0 0,Us none 0 0,U O 0,Us none 0 0,Us none 0 0,Us none 0 0,Us none 0 0,Us none 0 0,U O 0] 69)).alloc (.cells #[U O 0,Us none 0 0,U O 0,U O 0] 125)).alloc (.cells #[U O 0,Us none 0 0,U O 0,U O 0] 125);simp only [Akt] at hm0;have HM:=K1 hm0;have HFL:=K1 hFl;generalize hmu:ms u=mu at *;generalize hlu:ls u=lu at *;generalize hlv:ls r=lv at *
 have HCU:=K1 (fun W hb=>HCL.out W hb u hu);have HCV:=K1 (fun W hb=>HCL.out W hb r hrk);rw [hlu] at HCU;rw [hlv] at HCV;clear hm0 hyM hyL hyP ho hFl ha hi HCL hmu hlu hlv;dsimp only [Rw.cells] at *;go_enter Tryz.func48,Tryz.ntmps48;go_upto_region 1 with fail
 refine A9 fun W0 hW=>?_;replace HM:=K1 (hW.out.symm ▸ HM.out);clear hW;have c1:=HM.out.cells 1 rfl;go_upto_region 2 with fail
 clear c1;refine A9 fun W1 hW=>?_;replace HM:=K1 (hW.out.symm ▸ HM.out);clear hW
 refine AC (.reads [0,1,2,3,4,5,6,7,8,9,10,11,12,13,14,15,16,17,18,19] (.eff 20 (.reads [21,22,23,24] (.eff 25 (.eff 26 (.eff 27 (.reads [28] (.fin)))))))) 29 (fun W'=>(∀ x,W'.cell? ⟨w.heap.size,x,none⟩=([Us (some ⟨bM,oM,none⟩) i.r.c.k cM,Us (some ⟨bL,oL,none⟩) i.r.c.k cL,U O cn]:List Value)[x]?)/\(∀ j v,(mu.cells i u:List Value)[j]?=some v->W'.cell? ⟨bM,oM+u*22+j,none⟩=some v)/\(∀ j v,(lv.cells i.r.c.ca:List Value)[j]?=some v->W'.cell? ⟨bL,oL+r*4+j,none⟩=some v)/\(∀ j v,(lu.cells i.r.c.ca:List Value)[j]?=some v->W'.cell? ⟨bL,oL+u*4+j,none⟩=some v)) ?_;replace HM:=K1 HM.out.drew
 generalize W1.drew=V1 at *;refine PlS.reads_ ⟨HM.out.cells 1 rfl,HCM.out _ (HM.out.bel 0 rfl),HCV.out _ (HM.out.bel 0 rfl),HCU.out _ (HM.out.bel 0 rfl)⟩ (by kernel_rfl) ?_;simp only [AW,p1,p2,p3,p4];apply Exists.intro;apply Akx
 . intro W' hS;obtain ⟨s1,s2,s3,s4⟩:=hS
   still_step
   still_step
   still_step
   still_step
   refine Ea rfl _ _ rfl bM (oM+u*22) rfl (mu.cells i u) _ Tryz.underlying69 rfl (by kernel_rfl) s2 ?_
   still_step
   still_step
   still_step
   still_step
   still_step
   still_step
   still_step
   still_step
   still_step
   refine Ea rfl _ _ rfl bL (oL+r*4) rfl (lv.cells i.r.c.ca) _ Tryz.underlying125 rfl (by kernel_rfl) s3 ?_
   still_step
   still_step
   still_step
   still_step
   refine Ea rfl _ _ rfl bL (oL+u*4) rfl (lu.cells i.r.c.ca) _ Tryz.underlying125 rfl (by kernel_rfl) s4 ?_;exact wpStill_nil rfl
 refine Akp ?_;go_wp2_with fail;refine (CD.out _ (HM.out.bel 0 rfl)).mono ?_;rintro e w5 ⟨m',li',lo',code,rfl,hb,hor,hin⟩;have HOR:=K1 hor;have hlo:=(HM.out.bel 0 rfl).size;have HM2:=K1 (HM.out.pushF (P:=(fun F W=>code=0->Ako i u m' F W/\Akj i r li' F W/\Akj i u lo' F W)) (.all fun _=>(Dh _ _ _).and ((Ck _ _ _).and (Ck _ _ _))) (i:=0) rfl HFL.out hb hin);have HLO:=K1 hlo;clear HM hb hor hin hlo CD;have HM:=K1 HM2.out;clear HM2;go_wp2_with fail;refine Akq ⟨HM.out.cells 1 rfl,HCM.out _ (HM.out.bel 0 rfl),HCV.out _ (HM.out.bel 0 rfl),HCU.out _ (HM.out.bel 0 rfl)⟩ ?_
 refine PlS.rc_ ⟨HM.out.cells 1 rfl,HCM.out _ (HM.out.bel 0 rfl),HCV.out _ (HM.out.bel 0 rfl),HCU.out _ (HM.out.bel 0 rfl)⟩ ?_;refine Akp ?_;refine Bt rfl _ _ _ rfl HM.out 2 rfl (m'.cells i u).toArray rfl rfl (by kernel_rfl) rfl rfl ?_;intro WS hmS;clear HM;have HM:=K1 hmS;clear hmS;go_wp2_with fail;refine Akq ⟨HM.out.cells 1 rfl,HCM.out _ (HM.out.bel 0 rfl),HCV.out _ (HM.out.bel 0 rfl),HCU.out _ (HM.out.bel 0 rfl)⟩ ?_;refine Akp ?_;refine Bt rfl _ _ _ rfl HM.out 3 rfl (li'.cells i.r.c.ca).toArray rfl rfl (by kernel_rfl) rfl rfl ?_;intro WS hmS;clear HM;have HM:=K1 hmS;clear hmS
 go_wp2_with fail;refine Akq ⟨HM.out.cells 1 rfl,HCM.out _ (HM.out.bel 0 rfl),HCV.out _ (HM.out.bel 0 rfl),HCU.out _ (HM.out.bel 0 rfl)⟩ ?_;refine Akp ?_;refine Bt rfl _ _ _ rfl HM.out 4 rfl (lo'.cells i.r.c.ca).toArray rfl rfl (by kernel_rfl) rfl rfl ?_;intro WS hmS;clear HM;have HM:=K1 hmS;clear hmS;go_wp2_with fail;refine Akq ⟨HM.out.cells 1 rfl,HCM.out _ (HM.out.bel 0 rfl),HCV.out _ (HM.out.bel 0 rfl),HCU.out _ (HM.out.bel 0 rfl)⟩ ?_;refine PlS.rc_ ⟨HM.out.cells 1 rfl,HCM.out _ (HM.out.bel 0 rfl),HCV.out _ (HM.out.bel 0 rfl),HCU.out _ (HM.out.bel 0 rfl)⟩ ?_;refine PlS.fin_ ?_
 go_wp2_with fail;have o2:=HM.out.obj 2 rfl;have o3:=HM.out.obj 3 rfl;have o4:=HM.out.obj 4 rfl;refine bodyPost_ret (v:=.tuple #[.agg (m'.cells i u).toArray,.agg (li'.cells i.r.c.ca).toArray,.agg (lo'.cells i.r.c.ca).toArray,U O code]) (G3 Tryz.results48 _ _ _ _ _ _ _ _ _ _ _ _ _ _ rfl rfl rfl rfl o2 Tryz.underlying69 rfl (by kernel_rfl) o3 Tryz.underlying125 rfl (by kernel_rfl) o4 Tryz.underlying125 rfl (by kernel_rfl)) rfl ⟨m',li',lo',code,rfl,HM.out.bel 0 rfl,HOR.out,fun h0=>?_⟩;have h:=(HM.out.holds 5 _ rfl).now h0
 have hmn:∀ g,((F g\/V1.heap.size<=g)/\g<w5.heap.size)->(F g\/w.heap.size<=g):=fun g h=>h.1.imp id (fun h=>Aku HLO.out h)
 exact ⟨(Dh _ _ _).mono _ _ _ hmn h.1,(Ck _ _ _).mono _ _ _ hmn h.2.1,(Ck _ _ _).mono _ _ _ hmn h.2.2⟩
theorem U9 (w:World) (i:Inp) (hk:i.r.c.k<=8) (y:Rw) (z:Int) (hz:z<0\/(i.r.c.k:Int)<=z) :
  Calls Tryz.prog 19 #[.agg (y.cells i).toArray,U O z] w fun e w'=>e=.returned (.tuple #[.agg (y.cells i).toArray,.bool false])/\Below w.heap.size w w':=by
 obtain ⟨AM,cM,AL,cL,cn,ms,ls⟩:=y;have hm0:=((Akv w).alloc (.cells #[Us AM i.r.c.k cM,Us AL i.r.c.k cL,U O cn] 56)).alloc (.cells #[Us none 0 0,Us none 0 0,U O 0] 56);simp only [Akt] at hm0;have hnn:=hm0
 try simp only [Akk,Aki,Akl,Akm,Akn] at hnn
 have HM:=K1 hnn;clear hnn;dsimp only [Rw.cells] at *;clear hm0
 by_cases hn:z<0
 . clear hz;have b1:=HM.out.cells 1 rfl;have hf:=((Akv w).alloc (.cells #[Us AM i.r.c.k cM,Us AL i.r.c.k cL,U O cn] 56)).alloc (.cells #[Us AM i.r.c.k cM,Us AL i.r.c.k cL,U O cn] 56);simp only [Akt] at hf;have HF:=K1 hf;clear hf HM;go_enter Tryz.func19,Tryz.ntmps19;go_wp2_with fail;clear b1;have o2:=HF.out.obj 2 rfl;refine bodyPost_ret (v:=.tuple #[.agg #[Us AM i.r.c.k cM,Us AL i.r.c.k cL,U O cn],.bool false]) (EV Tryz.results19 _ _ _ _ _ _ rfl rfl o2 Tryz.underlying56 rfl (by kernel_rfl)) rfl ⟨rfl,HF.out.bel 0 rfl⟩
 . have hz2:(i.r.c.k:Int)<=z:=by omega
   clear hz;have b1:=HM.out.cells 1 rfl;have hf:=((Akv w).alloc (.cells #[Us AM i.r.c.k cM,Us AL i.r.c.k cL,U O cn] 56)).alloc (.cells #[Us AM i.r.c.k cM,Us AL i.r.c.k cL,U O cn] 56);simp only [Akt] at hf;have HF:=K1 hf;clear hf HM;go_enter Tryz.func19,Tryz.ntmps19;go_wp2_with fail;clear b1;have o2:=HF.out.obj 2 rfl;refine bodyPost_ret (v:=.tuple #[.agg #[Us AM i.r.c.k cM,Us AL i.r.c.k cL,U O cn],.bool false]) (EV Tryz.results19 _ _ _ _ _ _ rfl rfl o2 Tryz.underlying56 rfl (by kernel_rfl)) rfl ⟨rfl,HF.out.bel 0 rfl⟩
def UA (i:Inp) (y:Rw) (N u:Nat) (F:Nat->Prop) (w:World) (e:Ending) (w':World):Prop:=∃ (b:Bool) (y':Rw),e=.returned (.tuple #[.agg (y'.cells i).toArray,.bool b])/\((b=false/\y'=y/\¬ DM i.r y.d u)\/(b=true/\DM i.r y.d u/\y'.d u=y.d u+1/\∀ v,v≠u->y'.d v=y.d v))/\y'.Ok i (N+1)/\(b=true->Rw.In i y' (fun g=>F g\/w.heap.size<=g) w')/\Below w.heap.size w w'
theorem UB (w:World) (i:Inp) (hi:i.Ok) (ha:i.At w) (y:Rw) (N:Nat) (F:Nat->Prop) (hFl:∀ g,F g->g<w.heap.size) (hy:Rw.In i y F w) (ho:y.Ok i N) (hN:N<=100000) (u:Nat) (hu:u<i.r.c.k) :
  Calls Tryz.prog 19 #[.agg (y.cells i).toArray,U O u] w (UA i y N u F w):=by
 have hk:=hi.c.k
 obtain ⟨s,hs⟩:∃ s,s=u+i.r.c.k:=⟨_,rfl⟩
 obtain ⟨q,hq⟩:∃ q,q=u+i.r.c.k-1:=⟨_,rfl⟩
 obtain ⟨r,hr⟩:∃ r,r=q % i.r.c.k:=⟨_,rfl⟩
 have e1:(u:Int)+(i.r.c.k:Int)=(s:Int):=by omega
 have e2:(s:Int)-1=(q:Int):=by omega
 have e3:(q:Int).tmod (i.r.c.k:Int)=(r:Int):=by rw [hr];exact (Int.ofNat_tmod _ _).symm
 have hrk:r<i.r.c.k:=by rw [hr];exact Nat.mod_lt _ (by omega)
 have w1:IntKind.i64.wrap (s:Int)=(s:Int):=Akr _ (by omega);have w2:IntKind.i64.wrap (q:Int)=(q:Int):=Akr _ (by omega);have w3:IntKind.i64.wrap (r:Int)=(r:Int):=Akr _ (by omega);have hz:¬ i.r.c.k=0:=by omega
 have hzi:((i.r.c.k:Int) == 0)=false:=beq_eq_false_iff_ne.2 (by omega);have hnu:¬ i.r.c.k<=u:=by omega
 have hkb:i.r.c.k<=8:=hk.2;have HRV:=K1 (show r=(u+i.r.c.k-1) % i.r.c.k by rw [hr,hq]);have hq1:decide ((u:Int)<0)=false:=decide_eq_false (by omega);have hq2:decide (i.r.c.k<=u)=false:=decide_eq_false (by omega);have CT:=K1 (fun W (hb:Below w.heap.size w W)=>U8 W i hi (ha.below hb) y N F (fun g hg=>Nat.lt_of_lt_of_le (hFl g hg) hb.size) ((G5 _ _).keep F w W hb.size (fun g hg=>hb.block g (hFl g hg)) hy) ho hN u hu);rw [<- HRV.out] at CT;clear hs hq hr;have HOK:=K1 ho;have HFI:=K1 (Uj ho hu);rw [<- HRV.out] at HFI
 have HTN:=K1 (fun x (hx:(Ak i.r.c i.r.p u)[y.d u]?=some x) li' lo' hl y'=>Ul (y':=y') ho hu (x:=x) hx (li':=li') (lo':=lo') hl);rw [<- HRV.out] at HTN;have HYP:=K1 (fun W (hb:Below w.heap.size w W)=>(Np _ _ _).up hy.2.2 hb);have HYM:=K1 (fun W (hb:Below w.heap.size w W)=>(hy.1.rd.below hb).more hb.size);have HYL:=K1 (fun W (hb:Below w.heap.size w W)=>(hy.2.1.rd.below hb).more hb.size);have hcn:y.count<=100000:=Aku ho.count hN;have HCN:=K1 (show y.count<=N from ho.count);obtain ⟨AM,cM,AL,cL,cn,ms,ls⟩:=y;dsimp only [JN] at *
 obtain ⟨c1n,hc1⟩:∃ c1n,c1n=cn+1:=⟨_,rfl⟩
 have e4:(cn:Int)+1=(c1n:Int):=by omega
 have w4:IntKind.i64.wrap (c1n:Int)=(c1n:Int):=Akr _ (by omega);have HC1:=K1 hc1;have hm0:=((Akv w).alloc (.cells #[Us AM i.r.c.k cM,Us AL i.r.c.k cL,U O cn] 56)).alloc (.cells #[Us none 0 0,Us none 0 0,U O 0] 56);simp only [Akt] at hm0;have hnn:=hm0
 try simp only [Akk,Aki,Akl,Akm,Akn] at hnn
 have HM:=K1 hnn;clear hnn;have HFL:=K1 hFl;dsimp only [Rw.cells] at *;clear hm0 ho hFl ha hi hy hc1;go_enter Tryz.func19,Tryz.ntmps19;have b1:=HM.out.cells 1 rfl;go_wp2_with fail;clear b1;refine (CT.out _ (HM.out.bel 0 rfl)).mono ?_;rintro e w5 ⟨m',li',lo',code,rfl,hb,hor,hin⟩;have HOR:=K1 hor;have HLO:=K1 (HM.out.bel 0 rfl).size
 have hm5:=(HM.out.pushF (P:=(fun F W=>code=0->Ako i u m' F W/\Akj i r li' F W/\Akj i u lo' F W)) (.all fun _=>(Dh _ _ _).and ((Ck _ _ _).and (Ck _ _ _))) (i:=0) rfl HFL.out hb hin)
 have hma:=((hm5.alloc (.cells #[Us none 0 0,U O 0,U O 0,U O 0,U O 0,U O 0,U O 0,U O 0,U O 0,U O 0,U O 0,U O 0,Us none 0 0,Us none 0 0,Us none 0 0,U O 0,Us none 0 0,Us none 0 0,Us none 0 0,Us none 0 0,Us none 0 0,U O 0] 69)).alloc (.cells #[U O 0,Us none 0 0,U O 0,U O 0] 125)).alloc (.cells #[U O 0,Us none 0 0,U O 0,U O 0] 125);simp only [Akt] at hma;have hnn:=hma
 try simp only [Akk,Aki,Akl,Akm,Akn] at hnn
 have HMa:=K1 hnn;clear hnn;clear HM hb hor hin hm5 hma CT
 go_upto_region 5 with (first | (refine Bt rfl _ _ _ rfl HMa.out 4 rfl (m'.cells i u).toArray rfl rfl (by kernel_rfl) rfl rfl ?_;intro WHMb hm1;have HMb:=K1 hm1;clear hm1) | (refine Bt rfl _ _ _ rfl HMb.out 5 rfl (li'.cells i.r.c.ca).toArray rfl rfl (by kernel_rfl) rfl rfl ?_;intro WHMc hm1;have HMc:=K1 hm1;clear hm1) | (refine Bt rfl _ _ _ rfl HMc.out 6 rfl (lo'.cells i.r.c.ca).toArray rfl rfl (by kernel_rfl) rfl rfl ?_;intro WHMd hm1;have HMd:=K1 hm1;clear hm1))
 clear HMa HMb HMc;have HM:=K1 HMd.out;clear HMd;generalize hg7:w5.heap.size=g7 at *;refine A9 fun W5 hW=>?_;replace HM:=K1 (hW.out.symm ▸ HM.out);clear hW
 rcases HOR.out with ⟨hc,hno⟩ | ⟨hc,hfr,hd1,x,hx,hl⟩
 . have HNO:=K1 hno;clear hno;have b1:=HM.out.cells 1 rfl;have b2:=HM.out.cells 2 rfl;have f2:=fun j=>HM.out.frozen 2 j rfl
   have hf:=HM.out.fill (i:=2) rfl [Us AM i.r.c.k cM,Us AL i.r.c.k cL,U O cn] rfl;simp only [Aky,Aks] at hf;have HF:=K1 hf;clear hf HM;go_wp2_with fail;clear b1 b2 f2;have o2:=HF.out.obj 2 rfl;refine bodyPost_ret (v:=.tuple #[.agg #[Us AM i.r.c.k cM,Us AL i.r.c.k cL,U O cn],.bool false]) (EV Tryz.results19 _ _ _ _ _ _ rfl rfl o2 Tryz.underlying56 rfl (by kernel_rfl)) rfl ⟨false,⟨AM,cM,AL,cL,cn,ms,ls⟩,rfl,.inl ⟨rfl,rfl,fun h=>HNO.out (HFI.out.2 h)⟩,⟨fun a ha=>Akw (HOK.out.d a ha),HOK.out.tag,Akw HOK.out.count⟩,fun h=>(by cases h),HF.out.bel 0 rfl⟩
 . have hmt:=HM.out.turnF (P':=fun F W=>Ako i u m' F W/\Akj i r li' F W/\Akj i u lo' F W) ((Dh _ _ _).and ((Ck _ _ _).and (Ck _ _ _))) (i:=3) rfl ((HM.out.holds 3 _ rfl).now hc);clear HM;have hnn:=hmt
   try simp only [Akk,Aki,Akl,Akm,Akn] at hnn
   have HM:=K1 hnn;clear hnn;clear hmt;subst hc;have HFR:=K1 (HFI.out.1 hfr);have HD1:=K1 hd1;have HX:=K1 (Akx hx hl);clear hfr hd1 hx hl;have hnn:=HM.out.hole_.hole_.hole_
   try simp only [Akk,Aki,Akl,Akm,Akn] at hnn
   replace HM:=K1 hnn;clear hnn;go_upto_region 7 with fail
   go_cut [11] from 12 to 45 (fun s11 W=>∃ (g11:Nat) (A3 A4:Option Addr) (c3 c4:Nat),s11=.pointer (some ⟨g11,0,none⟩)/\Hid (Mem W [.bel w.heap.size w,.obj w.heap.size (.cells #[Us AM i.r.c.k cM,Us AL i.r.c.k cL,U O cn] 56 (0,0)),.obj (w.heap.size+1) (.cells #[Us none 0 0,Us none 0 0,U O 0] 56 (0,0)),BI (fun F W=>Ako i u m' F W/\Akj i r li' F W/\Akj i u lo' F W) (fun g=>(F g\/w.heap.size+1+1<=g)/\g<g7),.obj g7 (.cells (m'.cells i u).toArray 69 (0,0)),.obj (g7+1) (.cells (li'.cells i.r.c.ca).toArray 125 (0,0)),.obj (g7+1+1) (.cells (lo'.cells i.r.c.ca).toArray 125 (0,0)),.own w.heap.size 69 22 (Us A3 i.r.c.k c3) i.r.c.k (mrow i ms i.r.c.k),.own w.heap.size 125 4 (Us A4 i.r.c.k c4) i.r.c.k (lrow i ls i.r.c.k),.obj g11 (.cells #[Us A3 i.r.c.k c3,Us A4 i.r.c.k c4,U O c1n] 56 (0,0))]))
   case first =>
    refine A9 fun W1 hW=>?_;replace HM:=K1 (hW.out.symm ▸ HM.out);clear hW
    refine AC (.reads [1,2,5,6,8,9,10] (.three 0 4 12 (.three 3 4 12 (.two 4 12 (.two 7 12 (.reads [11] (.eff 12 (.eff 13 (.fin)))) (.eff 7 (.reads [11] (.eff 13 (.fin))))) (.eff 4 (.eff 7 (.reads [11] (.eff 13 (.fin)))))) (.two 3 12 (.two 7 12 (.reads [11] (.eff 12 (.eff 13 (.fin)))) (.eff 7 (.reads [11] (.eff 13 (.fin))))) (.eff 3 (.eff 7 (.reads [11] (.eff 13 (.fin)))))) (.two 3 4 (.eff 4 (.eff 7 (.reads [11] (.eff 13 (.fin))))) (.eff 3 (.eff 7 (.reads [11] (.eff 13 (.fin))))))) (.two 0 12 (.two 3 12 (.two 7 12 (.reads [11] (.eff 12 (.eff 13 (.fin)))) (.eff 7 (.reads [11] (.eff 13 (.fin))))) (.eff 3 (.eff 7 (.reads [11] (.eff 13 (.fin)))))) (.eff 0 (.eff 3 (.eff 7 (.reads [11] (.eff 13 (.fin))))))) (.two 0 4 (.two 3 4 (.eff 4 (.eff 7 (.reads [11] (.eff 13 (.fin))))) (.eff 3 (.eff 7 (.reads [11] (.eff 13 (.fin)))))) (.eff 0 (.eff 3 (.eff 7 (.reads [11] (.eff 13 (.fin))))))))) 14 (fun W'=>(∀ x,W'.cell? ⟨w.heap.size,x,none⟩=([Us AM i.r.c.k cM,Us AL i.r.c.k cL,U O cn]:List Value)[x]?)) ?_
    replace HM:=K1 HM.out.drew;generalize W1.drew=V1 at *
    repeat' (first
     | (refine PlS.three_ ?_ ?_ ?_
        skip)
     | (refine PlS.two_ ?_ ?_
        skip)
     | (refine PlS.rd_ (HM.out.cells 1 rfl) ?_)
     | (refine Akp (k:=0) ?_
        obtain ⟨g0,hgg,hmm⟩:=HM.out.emptyFit rfl 69 22 7 rfl;go_wp2_with fail;rw [<- hgg];refine AH fun W0 hW=>?_
        have hnn:=(hW.out.symm ▸ hmm)
        try simp only [Akk,Aki,Akl,Akm,Akn] at hnn
        have HM:=K1 hnn;clear hnn;clear hW hmm hgg
        refine Akq (HM.out.cells 1 rfl) ?_)
     | (refine Akp (k:=4) ?_
        obtain ⟨g4,hgg,hmm⟩:=HM.out.emptyFit rfl 125 4 8 rfl;go_wp2_with fail;rw [<- hgg];refine AH fun W4 hW=>?_
        have hnn:=(hW.out.symm ▸ hmm)
        try simp only [Akk,Aki,Akl,Akm,Akn] at hnn
        have HM:=K1 hnn;clear hnn;clear hW hmm hgg
        refine Akq (HM.out.cells 1 rfl) ?_)
     | (refine Akp (k:=3) ?_
        refine AQ (n:=0) rfl _ _ 53 rfl HM.out 7 N6 rfl rfl AM i.r.c.k cM (mrow i ms i.r.c.k) rfl (HYM.out _ (HM.out.bel 0 rfl)) (G6 _ _ _) (Um _ _ _) (by omega) ?_;intro A3 c3 W3 hm1;simp only [Aks,Aki] at hm1;have hnn:=hm1
        try simp only [Akk,Aki,Akl,Akm,Akn] at hnn
        have HM:=K1 hnn;clear hnn;clear hm1;simp only [Aks];go_wp2_with fail
        refine Akq (HM.out.cells 1 rfl) ?_)
     | (refine Akp (k:=7) ?_
        refine AQ (n:=0) rfl _ _ 54 rfl HM.out 8 N7 rfl rfl AL i.r.c.k cL (lrow i ls i.r.c.k) rfl (HYL.out _ (HM.out.bel 0 rfl)) (Iv _ _ _) (Un _ _ _) (by omega) ?_;intro A4 c4 W7 hm1;simp only [Aks,Aki] at hm1;have hnn:=hm1
        try simp only [Akk,Aki,Akl,Akm,Akn] at hnn
        have HM:=K1 hnn;clear hnn;clear hm1;simp only [Aks];go_wp2_with fail
        refine Akq (HM.out.cells 1 rfl) ?_)
     | (refine Akp (k:=12) ?_
        obtain ⟨g11,hgg,_,hmm⟩:=HM.out.allocFit rfl (.cells #[Us none 0 0,Us none 0 0,U O 0] 56) 9 rfl;go_wp2_with fail;rw [<- hgg];refine AH fun W12 hW=>?_
        have hnn:=(hW.out.symm ▸ hmm)
        try simp only [Akk,Aki,Akl,Akm,Akn] at hnn
        have HM:=K1 hnn;clear hnn;clear hW hmm hgg
        refine Akq (HM.out.cells 1 rfl) ?_)
     | (refine Akp (k:=13) ?_
        refine Bt rfl _ _ _ rfl HM.out 9 rfl #[Us A3 i.r.c.k c3,Us A4 i.r.c.k c4,U O c1n] rfl rfl (by kernel_rfl) rfl rfl ?_;intro W13 hm1;have hnn:=hm1
        try simp only [Akk,Aki,Akl,Akm,Akn] at hnn
        have HM:=K1 hnn;clear hnn;clear hm1;go_wp2_with fail
        refine Akq (HM.out.cells 1 rfl) ?_)
     | (refine PlS.fin_ ?_
        go_wp2_with fail;go_meet
        exact ⟨g11,A3,A4,c3,c4,rfl,HM⟩))
   case rest =>
    obtain ⟨g11,A3,A4,c3,c4,rfl,HMB⟩:=hcut;clear HM;have HM:=K1 HMB.out;clear HMB;obtain ⟨gA,rfl⟩:=HM.out.ownA 7 rfl (by omega);obtain ⟨gB,rfl⟩:=HM.out.ownA 8 rfl (by omega);have hfit:u*22+22<=i.r.c.k*22:=by omega
    have hfit2:u*4+4<=i.r.c.k*4:=by omega
    have hfit3:r*4+4<=i.r.c.k*4:=by omega
    have b9:=HM.out.cells 9 rfl
    go_upto_region 9 with (first | (refine wpList_load_row rfl _ _ rfl g7 rfl _ _ _ _ (HM.out.obj 4 rfl) Tryz.underlying69 rfl (by kernel_rfl) ?_) | (refine JF rfl _ _ _ rfl HM.out 7 rfl (u*22) (m'.cells i u).toArray rfl rfl (by kernel_rfl) hfit rfl ?_;intro W8 hm8))
    have HX2:=K1 (show mrow i (upd ms u m') i.r.c.k=setL (mrow i ms i.r.c.k) (u*22) (m'.cells i u) from (Nv i ms u m' _ hu).symm)
    have hm9:Mem W8 [.bel w.heap.size w,.obj w.heap.size (.cells #[Us AM i.r.c.k cM,Us AL i.r.c.k cL,U O cn] 56 (0,0)),.obj (w.heap.size+1) (.cells #[Us none 0 0,Us none 0 0,U O 0] 56 (0,0)),BI (fun F W=>Ako i u m' F W/\Akj i r li' F W/\Akj i u lo' F W) (fun g=>(F g\/w.heap.size+1+1<=g)/\g<g7),.obj g7 (.cells (m'.cells i u).toArray 69 (0,0)),.obj (g7+1) (.cells (li'.cells i.r.c.ca).toArray 125 (0,0)),.obj (g7+1+1) (.cells (lo'.cells i.r.c.ca).toArray 125 (0,0)),.own w.heap.size 69 22 (Us (some ⟨gA,0,none⟩) i.r.c.k c3) i.r.c.k (mrow i (upd ms u m') i.r.c.k),.own w.heap.size 125 4 (Us (some ⟨gB,0,none⟩) i.r.c.k c4) i.r.c.k (lrow i ls i.r.c.k),.obj g11 (.cells #[Us (some ⟨gA,0,none⟩) i.r.c.k c3,Us (some ⟨gB,0,none⟩) i.r.c.k c4,U O c1n] 56 (0,0))]:=by rw [HX2.out];exact hm8
    clear hm8 b9 HM HX2;have hnn:=hm9
    try simp only [Akk,Aki,Akl,Akm,Akn] at hnn
    have HM:=K1 hnn;clear hnn;clear hm9
    by_cases k1:i.r.c.k=1
    . have hq3:decide (1<i.r.c.k)=false:=decide_eq_false (by omega);have hq4:¬ 1<i.r.c.k:=by omega
      have hq5:¬ (1:Int)<(i.r.c.k:Int):=by omega
      have HKO:=K1 k1;clear k1;have b9:=HM.out.cells 9 rfl;have b2:=HM.out.cells 2 rfl;have f2:=fun j=>HM.out.frozen 2 j rfl
      have hf:=HM.out.fill (i:=2) rfl [Us (some ⟨gA,0,none⟩) i.r.c.k c3,Us (some ⟨gB,0,none⟩) i.r.c.k c4,U O c1n] rfl;simp only [Aky,Aks] at hf;have HF:=K1 hf;clear hf HM;go_wp2_with fail;clear b2 f2 b9;have o2:=HF.out.obj 2 rfl
      refine bodyPost_ret (v:=.tuple #[.agg #[Us (some ⟨gA,0,none⟩) i.r.c.k c3,Us (some ⟨gB,0,none⟩) i.r.c.k c4,U O c1n],.bool true]) (EV Tryz.results19 _ _ _ _ _ _ rfl rfl o2 Tryz.underlying56 rfl (by kernel_rfl)) rfl ⟨true,⟨some ⟨gA,0,none⟩,c3,some ⟨gB,0,none⟩,c4,c1n,upd ms u m',ls⟩,rfl,.inr ⟨rfl,HFR.out,?_,fun a ha=>?_⟩,HTN.out x HX.out.1 li' lo' HX.out.2 _ ?_ (fun a ha=>?_) (by show c1n<=N+1;rw [HC1.out];have:=HCN.out;omega) (fun a=>?_),fun _=>⟨⟨AJ (HF.out.own 7 rfl),fun _ q hq=>.inr (AF (HF.out.own 7 rfl) q hq)⟩,⟨AJ (HF.out.own 8 rfl),fun _ q hq=>.inr (AF (HF.out.own 8 rfl) q hq)⟩,fun a ha=>?_⟩,HF.out.bel 0 rfl⟩
      . show (upd ms u m' u).d=_;unfold upd;rw [if_pos rfl];exact HD1.out
      . show (upd ms u m' a).d=_;unfold upd;rw [if_neg ha];rfl
      . show (upd ms u m' u).d=_;unfold upd;rw [if_pos rfl];exact HD1.out
      . show (upd ms u m' a).d=_;unfold upd;rw [if_neg ha];rfl
      . rw [if_pos HKO.out]
      . have hnew:=(HF.out.holds 3 _ rfl).now;have hmn:∀ g,((F g\/w.heap.size+1+1<=g)/\g<g7)->(F g\/w.heap.size<=g):=fun g h=>h.1.imp id (fun h=>by omega)
        have hold:=HYP.out _ (HF.out.bel 0 rfl) a ha;refine ⟨?_,hold.2⟩
        by_cases e:a=u
        . subst e;show Ako i a (upd ms a m' a) _ _;unfold upd;rw [if_pos rfl];exact (Dh _ _ _).mono _ _ _ hmn hnew.1
        . show Ako i a (upd ms u m' a) _ _;unfold upd;rw [if_neg e];exact hold.1
    . have hq3:decide (1<i.r.c.k)=true:=decide_eq_true (by omega);go_upto_region 10 with fail
      refine A9 fun WA hW=>?_;replace HM:=K1 (hW.out.symm ▸ HM.out);clear hW;refine AC (.reads [0,1,2,3,4,5,6,7,8,9] (.eff 10 (.fin))) 10 (fun W'=>(∀ x,W'.cell? ⟨g11,x,none⟩=([Us (some ⟨gA,0,none⟩) i.r.c.k c3,Us (some ⟨gB,0,none⟩) i.r.c.k c4,U O c1n]:List Value)[x]?)/\W'.heap[g7+1]?=some (.cells (li'.cells i.r.c.ca).toArray 125 (0,0))) ?_;replace HM:=K1 HM.out.drew;generalize WA.drew=VA at *;refine PlS.reads_ ⟨HM.out.cells 9 rfl,HM.out.obj 5 rfl⟩ (by kernel_rfl) ?_;simp only [AW,p1,p2,p3,p4];apply Exists.intro;apply Akx
      . intro W' hS;obtain ⟨s1,s2⟩:=hS
        still_step
        still_step
        still_step
        still_step
        still_step
        still_step
        still_step
        still_step
        refine Du rfl _ _ rfl (g7+1) rfl _ _ _ s2 Tryz.underlying125 rfl (by kernel_rfl) ?_
        repeat still_step
        exact wpStill_nil rfl
      refine Akp ?_;refine JF rfl _ _ _ rfl HM.out 8 rfl (r*4) (li'.cells i.r.c.ca).toArray rfl rfl (by kernel_rfl) hfit3 rfl ?_;intro WB hmB;clear HM;have hnn:=hmB
      try simp only [Akk,Aki,Akl,Akm,Akn] at hnn
      have HM:=K1 hnn;clear hnn;clear hmB;go_wp2_with fail;refine After.last (by decide) (PlS.fin_ ?_);have b9:=HM.out.cells 9 rfl
      go_upto_region 12 with (first | (refine wpList_load_row rfl _ _ rfl (g7+1+1) rfl _ _ _ _ (HM.out.obj 6 rfl) Tryz.underlying125 rfl (by kernel_rfl) ?_) | (refine JF rfl _ _ _ rfl HM.out 8 rfl (u*4) (lo'.cells i.r.c.ca).toArray rfl rfl (by kernel_rfl) hfit2 rfl ?_;intro WC hmC))
      have HX2:=K1 (show lrow i (fun a=>if i.r.c.k=1 then ls a else if a=u then lo' else if a=r then li' else ls a) i.r.c.k=setL (setL (lrow i ls i.r.c.k) (r*4) (li'.cells i.r.c.ca)) (u*4) (lo'.cells i.r.c.ca) by
       rw [JM i ls r li' _ hrk,JM i _ u lo' _ hu]
       exact G9 fun a _=>by unfold upd;simp only [if_neg k1])
      have hm9:Mem WC [.bel w.heap.size w,.obj w.heap.size (.cells #[Us AM i.r.c.k cM,Us AL i.r.c.k cL,U O cn] 56 (0,0)),.obj (w.heap.size+1) (.cells #[Us none 0 0,Us none 0 0,U O 0] 56 (0,0)),BI (fun F W=>Ako i u m' F W/\Akj i r li' F W/\Akj i u lo' F W) (fun g=>(F g\/w.heap.size+1+1<=g)/\g<g7),.obj g7 (.cells (m'.cells i u).toArray 69 (0,0)),.obj (g7+1) (.cells (li'.cells i.r.c.ca).toArray 125 (0,0)),.obj (g7+1+1) (.cells (lo'.cells i.r.c.ca).toArray 125 (0,0)),.own w.heap.size 69 22 (Us (some ⟨gA,0,none⟩) i.r.c.k c3) i.r.c.k (mrow i (upd ms u m') i.r.c.k),.own w.heap.size 125 4 (Us (some ⟨gB,0,none⟩) i.r.c.k c4) i.r.c.k (lrow i (fun a=>if i.r.c.k=1 then ls a else if a=u then lo' else if a=r then li' else ls a) i.r.c.k),.obj g11 (.cells #[Us (some ⟨gA,0,none⟩) i.r.c.k c3,Us (some ⟨gB,0,none⟩) i.r.c.k c4,U O c1n] 56 (0,0))]:=by rw [HX2.out];exact hmC
      clear hmC b9 HM HX2;have hnn:=hm9
      try simp only [Akk,Aki,Akl,Akm,Akn] at hnn
      have HM:=K1 hnn;clear hnn;clear hm9;have b9:=HM.out.cells 9 rfl;have b2:=HM.out.cells 2 rfl;have f2:=fun j=>HM.out.frozen 2 j rfl
      have hf:=HM.out.fill (i:=2) rfl [Us (some ⟨gA,0,none⟩) i.r.c.k c3,Us (some ⟨gB,0,none⟩) i.r.c.k c4,U O c1n] rfl;simp only [Aky,Aks] at hf;have HF:=K1 hf;clear hf HM;go_wp2_with fail;clear b2 f2 b9;have o2:=HF.out.obj 2 rfl
      refine bodyPost_ret (v:=.tuple #[.agg #[Us (some ⟨gA,0,none⟩) i.r.c.k c3,Us (some ⟨gB,0,none⟩) i.r.c.k c4,U O c1n],.bool true]) (EV Tryz.results19 _ _ _ _ _ _ rfl rfl o2 Tryz.underlying56 rfl (by kernel_rfl)) rfl ⟨true,⟨some ⟨gA,0,none⟩,c3,some ⟨gB,0,none⟩,c4,c1n,upd ms u m',(fun a=>if i.r.c.k=1 then ls a else if a=u then lo' else if a=r then li' else ls a)⟩,rfl,.inr ⟨rfl,HFR.out,?_,fun a ha=>?_⟩,HTN.out x HX.out.1 li' lo' HX.out.2 _ ?_ (fun a ha=>?_) (by show c1n<=N+1;rw [HC1.out];have:=HCN.out;omega) (fun a=>?_),fun _=>⟨⟨AJ (HF.out.own 7 rfl),fun _ q hq=>.inr (AF (HF.out.own 7 rfl) q hq)⟩,⟨AJ (HF.out.own 8 rfl),fun _ q hq=>.inr (AF (HF.out.own 8 rfl) q hq)⟩,fun a ha=>?_⟩,HF.out.bel 0 rfl⟩
      . show (upd ms u m' u).d=_;unfold upd;rw [if_pos rfl];exact HD1.out
      . show (upd ms u m' a).d=_;unfold upd;rw [if_neg ha];rfl
      . show (upd ms u m' u).d=_;unfold upd;rw [if_pos rfl];exact HD1.out
      . show (upd ms u m' a).d=_;unfold upd;rw [if_neg ha];rfl
      . rfl
      . have hnew:=(HF.out.holds 3 _ rfl).now;have hmn:∀ g,((F g\/w.heap.size+1+1<=g)/\g<g7)->(F g\/w.heap.size<=g):=fun g h=>h.1.imp id (fun h=>by omega)
        have hold:=HYP.out _ (HF.out.bel 0 rfl) a ha;refine ⟨?_,?_⟩
        . by_cases e:a=u
          . subst e;show Ako i a (upd ms a m' a) _ _;unfold upd;rw [if_pos rfl];exact (Dh _ _ _).mono _ _ _ hmn hnew.1
          . show Ako i a (upd ms u m' a) _ _;unfold upd;rw [if_neg e];exact hold.1
        . show Akj i a (if i.r.c.k=1 then ls a else if a=u then lo' else if a=r then li' else ls a) _ _;rw [if_neg k1]
          by_cases e:a=u
          . subst e;rw [if_pos rfl];exact (Ck _ _ _).mono _ _ _ hmn hnew.2.2
          . rw [if_neg e]
            by_cases e2:a=r
            . subst e2;rw [if_pos rfl];exact (Ck _ _ _).mono _ _ _ hmn hnew.2.1
            . rw [if_neg e2];exact hold.2
theorem UC (w:World) (i:Inp) (hi:i.Ok) (ha:i.At w) (y:Rw) (N:Nat) (F:Nat->Prop) (hFl:∀ g,F g->g<w.heap.size) (hy:Rw.In i y F w) (ho:y.Ok i N) (hN:N<=100000) (z:Int) :
  Calls Tryz.prog 19 #[.agg (y.cells i).toArray,U O z] w fun e w'=>∃ (b:Bool) (y':Rw),e=.returned (.tuple #[.agg (y'.cells i).toArray,.bool b])/\JG i.r y.d z y'.d/\y'.Ok i (N+1)/\Rw.In i y' (fun g=>F g\/w.heap.size<=g) w'/\Below w.heap.size w w':=by
 by_cases hz:z<0\/(i.r.c.k:Int)<=z
 . refine (U9 w i hi.c.k.2 y z hz).mono ?_;rintro e w' ⟨rfl,hb⟩;exact ⟨false,y,rfl,.inl ⟨rfl,hz.imp id .inl⟩,⟨fun a ha=>Akw (ho.d a ha),ho.tag,Akw ho.count⟩,(G5 _ _).up hy hb,hb⟩
 . obtain ⟨u,rfl⟩:∃ u:Nat,z=(u:Int):=⟨z.toNat,by omega⟩
   have hu:u<i.r.c.k:=by omega
   refine (UB w i hi ha y N F hFl hy ho hN u hu).mono ?_;rintro e w' ⟨b,y',rfl,hor,hok,hin,hb⟩
   rcases hor with ⟨rfl,rfl,hno⟩ | ⟨rfl,hf,h1,h2⟩
   . exact ⟨false,y',rfl,.inl ⟨rfl,.inr (.inr ⟨u,rfl,hno⟩)⟩,hok,(G5 _ _).up hy hb,hb⟩
   . exact ⟨true,y',rfl,.inr ⟨u,rfl,hu,hf,h1,h2⟩,hok,hin rfl,hb⟩
end
end Go.Proofs.YtdpojpcoghcieaaGreat
