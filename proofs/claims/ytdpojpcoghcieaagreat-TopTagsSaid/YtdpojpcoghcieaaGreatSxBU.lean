/- A part of the proof of TopTags: TopTags. Conditions: none. -/
import Derived.Test.YtdpojpcoghcieaaGreatSxBT
import Derived.Test.YtdpojpcoghcieaaGreatSxBO
import Derived.Test.YtdpojpcoghcieaaGreatSxBQ
set_option maxHeartbeats 8000000
set_option linter.all false
namespace Go.Proofs.YtdpojpcoghcieaaGreat
open Lib renaming hid → K1
open List renaming filterMap_cons → p1, filterMap_nil → p2, getElem?_cons_zero → p3, getElem?_cons_succ → p4
open Go.RowKit
set_option maxRecDepth 100000
open Value renaming int → U, slice → Usl
open IntKind renaming i64 → O
open List renaming cons_append → Akz, nil_append → Ak0, set_cons_zero → Ak1, set_cons_succ → Ak2, setIfInBounds_toArray → Ak3, perm_append_comm → Ak5, length_map → Ala, append_assoc → Alb
open And renaming intro → Ak4
open Nat renaming zero_le → Ak6, add_assoc → Ak7, lt_of_lt_of_le → Alc
open Mem renaming start → Ak8
open IntWalk renaming i64_in → Ak9
section
theorem UD (a f b:Ch) (X:List Ch):((([a]++X)++[f])++[b]).Perm ([a,f,b]++X):=by
 rw [Alb,Alb];exact List.Perm.append_left [a] Ak5
theorem UE {i:Inp} {x:Wv} (hm:∀ m∈x.ms,m.abs=iniA i) (u:Nat):cntU x u=0:=by
 unfold cntU
 cases h:x.ms[u]? with
 | none=>rfl
 | some m=>exact congrArg Am.cnt (hm m (List.mem_of_getElem? h))
theorem UF {x:It} {j:Nat} {v:Value} (h:([U O x.a.step,U O x.a.bucket,U O x.a.phase,U O x.a.round,U O x.a.chunk]:List Value)[j]?=some v):x.cells[5+j]?=some v:=by
 match j,h with
 | 0,h=>exact h
 | 1,h=>exact h
 | 2,h=>exact h
 | 3,h=>exact h
 | 4,h=>exact h
 | n+5,h=>exact absurd h (by simp)
attribute [local go_sem] Jp neqT
theorem UG {g:Gi} {w:World} (B:Option Addr) (n m:Nat) (CF:∀ W,Below w.heap.size w W->Calls Tryz.prog 6 #[.agg g.cells.toArray,Usl B n m] W fun e w'=>e=.returned (.bool false)/\Below W.heap.size W w') :
  Calls Tryz.prog 5 #[.agg g.cells.toArray,Usl B n m] w fun e w'=>e=.returned (.bool true)/\Below w.heap.size w w':=by
 have HCF:=K1 CF;have HM:=K1 ((Ak8 w).alloc (.cells g.cells.toArray 29));clear CF;dsimp only [Gi.cells] at *;go_enter Tryz.func5,Tryz.ntmps5;have c1:=HM.out.cells 1 rfl;go_wp2_with fail;refine (HCF.out _ (HM.out.bel 0 rfl)).mono ?_;rintro e w1 ⟨rfl,hb⟩;replace HM:=K1 (HM.out.below hb);clear hb c1 HCF;go_wp2_with fail;refine (N3 _).mono ?_;rintro e w2 ⟨rfl,hb⟩;replace HM:=K1 (HM.out.below hb);clear hb;go_wp2_with fail;go_ret;exact ⟨rfl,HM.out.bel 0 rfl⟩
structure F7 (i:Inp) (x:Wv) (y:Rw) (j:Nat):Prop where
 ok:C7 i.r x
 count:x.count<=j
 same:∀ v,v<i.r.c.k->y.d v=cntU x v
 ref:y.Ok i j
theorem F7.pick {i:Inp} {x x':Wv} {y y':Rw} {j:Nat} {z:Int} {b:Bool} (h:F7 i x y j) (hp:Cj i.r x z b x') (hq:JG i.r y.d z y'.d) (ho:y'.Ok i (j+1)):F7 i x' y' (j+1) :=
 ⟨h.ok.pick hp,by have:=hp.count;have:=h.count;cases b <;> simp at this <;> omega,TK h.ok h.same hp hq,ho⟩
theorem UH {i:Inp} {w:World} (hi:i.Ok) (ha:i.At w) (hsc:i.r.p<=i.scap) (h5:i.r.c.st<=5) (ZA:Option Addr) (len cap:Nat) (zs:List Int) (hz:Rd w w.heap.size ZA (zC zs)) (hlen:zs.length=len) (hl:len<=300)
  (CF:∀ W,Below w.heap.size w W->Calls Tryz.prog 6 #[.agg i.cells.toArray,Usl ZA len cap] W fun e w'=>e=.returned (.bool true)/\Below W.heap.size W w')
  (CI:∀ W,Below w.heap.size w W->Calls Tryz.prog 22 #[.agg i.cells.toArray] W fun e w'=>e=.returned (U O 0)/\Below W.heap.size W w') :
  Calls Tryz.prog 5 #[.agg i.cells.toArray,Usl ZA len cap] w fun e w'=>e=.returned (.bool true)/\Below w.heap.size w w':=by
 have HCF:=K1 CF;have hk:=hi.c.k;have CS:=K1 (fun W (hb:Below w.heap.size w W)=>Nb W i hi (ha.below hb))
 have CN:=K1 (fun W (hb:Below w.heap.size w W)=>U6 W i hi (ha.below hb) hsc h5 (fun g=>g<w.heap.size) ⟨(ha.st.below hb).more hb.size,fun h0 q hq=>by
  obtain ⟨b,off,e,hlt,_⟩:=ha.st h0;rw [e] at hq
  cases hq
  exact hlt⟩ (fun g hg=>Alc hg hb.size) (fun W2 hb2=>CI W2 (hb.trans (hb2.mono hb.size))))
 have HAT:=K1 (fun W (hb:Below w.heap.size w W)=>ha.below hb);have HI:=K1 hi;have HIL:=K1 (fun u=>(show (Ak i.r.c i.r.p u).length<=1000000000 from Nr hi.c hi.p.2 u h5));have HL:=K1 hlen
 have hA:0<len->∃ b o,ZA=some ⟨b,o,none⟩:=fun h0=>by
  obtain ⟨b,o,e,_⟩:=hz (by rw [Br];omega);exact ⟨b,o,e⟩
 have HM:=K1 (((Ak8 w).add_rd (i:=0) rfl hz).alloc (.cells i.cells.toArray 29));clear hi ha CF CI hz hlen hsc h5;dsimp only [Inp.cells] at *;go_enter Tryz.func5,Tryz.ntmps5;have c1:=HM.out.cells 2 rfl;go_wp2_with fail;refine (HCF.out _ (HM.out.bel 0 rfl)).mono ?_;rintro e w1 ⟨rfl,hb⟩;replace HM:=K1 (HM.out.below hb);clear hb c1 HCF;have c1:=HM.out.cells 2 rfl;go_wp2_with fail;clear c1;refine (CS.out _ (HM.out.bel 0 rfl)).mono ?_;rintro e w2 ⟨x,rfl,hxo,hxc,hxa,hxq,hm⟩;generalize w1=W0 at *;have HMB:=K1 (fun W (hb:Below W0.heap.size W0 W)=>HM.out.below hb);have HLT:=K1 (HM.out.bel 0 rfl).size
 have hnn:=(hm.perm Ak5)
 try simp only [Akz,Ak0,Ak1,Ak2,Ak3] at hnn
 have HM2:=K1 hnn;clear hnn;have HX:=K1 (Ak4 hxo (Ak4 hxc (Ak4 hxa hxq)));clear HM hm hxo hxc hxa hxq CS;have c1:=(HMB.out _ (HM2.out.bel 0 rfl)).cells 2 rfl;go_wp2_with fail;clear c1;refine (CN.out _ ((HMB.out _ (HM2.out.bel 0 rfl)).bel 0 rfl)).mono ?_;rintro e w3 ⟨y,rfl,hyo,hyi,hb⟩;have hm3:=HM2.out.pushF (G5 i y) (i:=0) rfl (fun g hg=>Alc hg HLT.out) hb hyi
 have hnn:=(hm3.alloc (.cells #[Usl none 0 0,Usl none 0 0,U O 0] 56))
 try simp only [Akz,Ak0,Ak1,Ak2,Ak3] at hnn
 have HMz:=K1 hnn;clear hnn
 have hnn:=(HMz.out.perm (UD _ _ _ _))
 try simp only [Akz,Ak0,Ak1,Ak2,Ak3] at hnn
 have HMz2:=K1 hnn;clear hnn;have HYO:=K1 hyo;clear HM2 HMz hm3 hyo hyi hb CN
 go_upto_region 5 with (refine Bt rfl _ _ _ rfl HMz2.out 2 rfl (y.cells i).toArray rfl rfl (by kernel_rfl) rfl rfl ?_;intro W4 hm4;have HM:=K1 hm4;clear hm4)
 clear HMz2;generalize hg7:w3.heap.size=g7 at *;clear hg7
 obtain ⟨g0,hg0⟩:∃ g0,g0=x.g:=⟨_,rfl⟩
 rw [<- hg0];have HT0:=K1 (show F7 i x y 0/\x.g=g0 from ⟨⟨Nz (st:=i.st) HX.out.1 HX.out.2.1 HX.out.2.2.1 HX.out.2.2.2,Nat.le_of_eq HX.out.2.1,fun v hv=>by rw [UE HX.out.2.2.1];exact Nat.le_zero.1 (HYO.out.d v hv),HYO.out⟩,hg0.symm⟩);clear hg0 HX HYO;go_wp2_with fail
 go_loopw [34] (fun s34 wr=>∃ (j:Nat) (x:Wv) (y:Rw) (Fx:Nat->Prop),j<=len/\s34=U O j/\Hid (F7 i x y j/\x.g=g0)/\Hid (Mem wr ([.bel W0.heap.size W0,BI (Rw.In i y) Fx,.obj g7 (.cells (y.cells i).toArray 56 (0,0))]++x.ps))) (fun s34 _=>len-(intOf s34).toNat)
 case atStart=>exact ⟨0,x,y,_,Ak6 _,rfl,HT0,HM⟩
 case round =>
  clear HM HT0;obtain ⟨j,x,y,Fx,hj,rfl,HT,HM⟩:=hrel
  by_cases hlt:j<len
  . obtain ⟨b,o,rfl⟩:=hA (by omega);obtain ⟨z,hz⟩:=Au zs j (by rw [HL.out];exact hlt);have e1:=(HMB.out _ (HM.out.bel 0 rfl)).rdAt 1 rfl (Bk hz);have CP:=K1 (MX wr x i.r _ (HM.out.perm Ak5) HT.out.1.ok.ok (by have:=HT.out.1.count;omega) z);rw [HT.out.2] at CP;have CQ:=K1 (fun W (hb:Below w.heap.size w W) (hm:(BI (Rw.In i y) Fx).Holds W)=>UC W i HI.out (HAT.out W hb) y j Fx (fun g hg=>hm.lt g hg) hm.now HT.out.1.ref (by omega) z);clear hz;go_wp2_with fail;refine CP.out.mono ?_;rintro e w1 ⟨bb,x',rfl,hx',hg',hp',hm'⟩;have HP:=K1 (Ak4 hg' hp');have hm1:=hm'.perm Ak5;have hnn:=hm1
    try simp only [Akz,Ak0,Ak1,Ak2,Ak3] at hnn
    have HM1:=K1 hnn;clear hnn;clear hx' hg' hp' hm' hm1 CP e1 HM
    go_wp2_with (refine wpList_load_row rfl _ _ rfl g7 rfl _ _ _ _ (HM1.out.obj 2 rfl) Tryz.underlying56 rfl (by kernel_rfl) ?_)
    refine (CQ.out _ ((HMB.out _ (HM1.out.bel 0 rfl)).bel 0 rfl) (HM1.out.holds 1 _ rfl)).mono ?_;rintro e w2 ⟨b2,y',rfl,hq,hyo,hyi,hb⟩
    have hnn:=(HM1.out.resetF (i:=1) (G5 i y') rfl hb hyi)
    try simp only [Akz,Ak0,Ak1,Ak2,Ak3] at hnn
    have HM2:=K1 hnn;clear hnn;have HS:=K1 (show F7 i x' y' (j+1)/\x'.g=g0 from ⟨HT.out.1.pick HP.out.2 hq hyo,HP.out.1⟩);clear hq hyo hyi hb CQ HM1
    go_wp2_with (refine Bt rfl _ _ _ rfl HM2.out 2 rfl (y'.cells i).toArray rfl rfl (by kernel_rfl) rfl rfl ?_;intro W3 hm3;have HM3:=K1 hm3;clear hm3)
    go_roundw
    case rel=>exact ⟨j+1,x',y',_,by omega,by go_num,HS,HM3⟩
    case measure=>simp [intOf];omega
  . have hjl:j=len:=by omega
    clear hA;have hb0:=HM.out.bel 0 rfl;have c2:=(HMB.out _ hb0).cells 2 rfl;clear hb0;go_wp2_with fail;clear c2;have HK:=K1 (fun W (hb:Below wr.heap.size wr W)=>HM.out.below hb);have HQ:=K1 (Below.refl wr.heap.size wr);generalize wr=W1 at *;clear HM
    go_loopw [51] (fun s51 wr=>∃ v:Nat,v<=i.r.c.k/\s51=U O v/\Hid (Below W1.heap.size W1 wr)) (fun s51 _=>i.r.c.k-(intOf s51).toNat)
    case atStart=>exact ⟨0,Ak6 _,rfl,HQ⟩
    case round =>
     clear HQ;obtain ⟨v,hv,rfl,HB⟩:=hrel
     by_cases hvk:v<i.r.c.k
     . obtain ⟨s,hs⟩:∃ s,s=v+1:=⟨_,rfl⟩
       obtain ⟨u,hu⟩:∃ u,u=s % i.r.c.k:=⟨_,rfl⟩
       have e1:(v:Int)+1=(s:Int):=by omega
       have e3:(s:Int).tmod (i.r.c.k:Int)=(u:Int):=by rw [hu];exact (Int.ofNat_tmod _ _).symm
       have huk:u<i.r.c.k:=by rw [hu];exact Nat.mod_lt _ (by omega)
       have w1:IntKind.i64.wrap (s:Int)=(s:Int):=Ak9 _ (by omega);have w3:IntKind.i64.wrap (u:Int)=(u:Int):=Ak9 _ (by omega);have hz:¬ i.r.c.k=0:=by omega
       have hzi:((i.r.c.k:Int) == 0)=false:=beq_eq_false_iff_ne.2 (by omega);have HUV:=K1 (show u=(v+1) % i.r.c.k by rw [hu,hs]);clear hs hu;have hni:(Ak i.r.c i.r.p u).length<=1000000000:=HIL.out u;obtain ⟨l,hl⟩:=Au x.ls v (by rw [HT.out.1.ok.ok.ll];exact hvk);have CL:=K1 (fun W (hb:Below W1.heap.size W1 W)=>TW W x i.r _ ((HK.out W hb).perm Ak5) HT.out.1.ok.ok (by have:=HT.out.1.count;omega) v hvk l hl);rw [HT.out.2] at CL
       have HAH:=K1 (show ∃ rest,rcvT ((Ak i.r.c i.r.p u).drop (y.ms u).d)=l.q.map Prod.fst++rest by
        have h:=TL HT.out.1.ok hl;rw [<- HUV.out] at h;have hd:(y.ms u).d=cntU x u:=HT.out.1.same u huk
        rw [hd];exact h)
       have HRW:=K1 (fun W (hb:Below W1.heap.size W1 W)=>(show Rw.In i y Fx W from ((HK.out W hb).holds 1 _ rfl).now));have HGC:=K1 (fun W (hb:Below W1.heap.size W1 W)=>(fun j=>Af ((HK.out W hb).obj 2 rfl) j:∀ j,W.cell? ⟨g7,j,none⟩=(y.cells i)[j]?));have HC4:=K1 (fun W (hb:Below W1.heap.size W1 W)=>(show W.cell? ⟨w.heap.size,4,none⟩=some (U O i.r.c.k) from (HMB.out W ((HK.out W hb).bel 0 rfl)).cells 2 rfl 4));obtain ⟨bM,oM,hAM,_,_⟩:=(HRW.out W1 (Below.refl _ _)).1.rd (by rw [G6];omega)
       have HG0:=K1 (fun W (hb:Below W1.heap.size W1 W)=>(show W.cell? ⟨g7,0,none⟩=some (Usl (some ⟨bM,oM,none⟩) i.r.c.k y.cM) by rw [<- hAM];exact HGC.out W hb 0));have HMC:=K1 (fun W (hb:Below W1.heap.size W1 W) j c (h:((y.ms u).cells i u)[j]?=some c)=>(show W.cell? ⟨bM,oM+u*22+j,none⟩=some c by have hr:=(HRW.out W hb).1.rd;rw [hAM] at hr;rw [Ak7];exact DY hr (Nq huk h)));have HIT:=K1 (fun W (hb:Below W1.heap.size W1 W)=>((HRW.out W hb).2.2 u huk).1.2.2.2.2.2.rd)
       obtain ⟨nl,hnl⟩:∃ nl,nl=l.q.length:=⟨_,rfl⟩
       have hnlb:nl<=1000:=by
        have h1:=(HT.out.1.ok.ok.l v l hl).2.2.1;have h2:=HT.out.1.count;have h3:l.q.length=l.se-l.re:=Jo _ _ _ _;omega
       rw [<- hnl] at CL;have HNL:=K1 hnl;clear hl hAM hnl HGC;generalize hmu:y.ms u=mu at *;obtain ⟨AP,cP,AM,cM,AG,cG,AR,nR,cR,AI,cI,d⟩:=mu;dsimp only at HIT HAH
       have hdb:d<=1000:=by
        have:=HT.out.1.ref.d u huk;have h2:y.d u=d:=by show (y.ms u).d=d;rw [hmu]
        omega
       clear hmu;go_wp2_with fail;refine (CL.out _ HB.out).mono ?_;rintro e w2 ⟨A,c,ms,pv,rfl,htg,hr,hf,hb⟩;have HM:=K1 ((((Ak8 W1).below HB.out).push_rd hb hr hf).hole_);have HTG:=K1 htg;have hml:ms.length=nl:=by have:=congrArg List.length htg;rw [Ala,Ala] at this;rw [HNL.out];exact this
       clear htg hr hf hb CL HB;go_upto_region 15 with fail
       refine A9 fun W2 hW=>?_;replace HM:=K1 (hW.out.symm ▸ HM.out);clear hW;refine AC (.reads [0,1,2,3,4,5,6,7,8,9] (.eff 10 (.eff 11 (.fin)))) 12 (fun W'=> W'.cell? ⟨g7,0,none⟩=some (Usl (some ⟨bM,oM,none⟩) i.r.c.k y.cM)/\W'.cell? ⟨w.heap.size,4,none⟩=some (U O i.r.c.k)/\(∀ j v,((⟨AP,cP,AM,cM,AG,cG,AR,nR,cR,AI,cI,d⟩:Rm).cells i u:List Value)[j]?=some v->W'.cell? ⟨bM,oM+u*22+j,none⟩=some v)) ?_;replace HM:=K1 HM.out.drew;generalize W2.drew=V2 at *;refine PlS.reads_ ⟨HG0.out _ (HM.out.bel 0 rfl),HC4.out _ (HM.out.bel 0 rfl),HMC.out _ (HM.out.bel 0 rfl)⟩ (by kernel_rfl) ?_
       simp only [AW,p1,p2,p3,p4];apply Exists.intro;apply Ak4
       . intro W' hS;obtain ⟨s1,s2,s3⟩:=hS
         still_step
         still_step
         still_step
         still_step
         still_step
         still_step
         still_step
         still_step
         still_step
         refine Ea rfl _ _ rfl bM (oM+u*22) rfl ((⟨AP,cP,AM,cM,AG,cG,AR,nR,cR,AI,cI,d⟩:Rm).cells i u) _ Tryz.underlying69 rfl (by kernel_rfl) s3 ?_;exact wpStill_nil rfl
       refine PlS.ef_ ?_;obtain ⟨g14,hgg,_,hmm⟩:=HM.out.allocFit rfl (.cells #[Usl none 0 0,U O 0,U O 0,U O 0,U O 0,U O 0,U O 0,U O 0,U O 0,U O 0,U O 0,U O 0,Usl none 0 0,Usl none 0 0,Usl none 0 0,U O 0,Usl none 0 0,Usl none 0 0,Usl none 0 0,Usl none 0 0,Usl none 0 0,U O 0] 69) 2 rfl;go_wp2_with fail;rw [<- hgg];refine AH fun W10 hW=>?_
       have hnn:=(hW.out.symm ▸ hmm)
       try simp only [Akz,Ak0,Ak1,Ak2,Ak3] at hnn
       have HM:=K1 hnn;clear hnn;clear hW hmm hgg;refine After.go ⟨HG0.out _ (HM.out.bel 0 rfl),HC4.out _ (HM.out.bel 0 rfl),HMC.out _ (HM.out.bel 0 rfl)⟩ ?_;refine PlS.ef_ ?_;refine Bt rfl _ _ _ rfl HM.out 2 rfl ((⟨AP,cP,AM,cM,AG,cG,AR,nR,cR,AI,cI,d⟩:Rm).cells i u).toArray rfl rfl (by kernel_rfl) rfl rfl ?_;intro W11 hm11;have hnn:=hm11
       try simp only [Akz,Ak0,Ak1,Ak2,Ak3] at hnn
       have HM:=K1 hnn;clear hnn;clear hm11;go_wp2_with fail;refine After.go ⟨HG0.out _ (HM.out.bel 0 rfl),HC4.out _ (HM.out.bel 0 rfl),HMC.out _ (HM.out.bel 0 rfl)⟩ ?_;refine PlS.fin_ ?_;have HB14:=K1 (show ∀ (W:World) (M:List Ch),Mem W M->M[2]?=some (.obj g14 (.cells ((⟨AP,cP,AM,cM,AG,cG,AR,nR,cR,AI,cI,d⟩:Rm).cells i u).toArray 69 (0,0)))->W.cell? ⟨g14,20,none⟩=some (Usl AI (Ak i.r.c i.r.p u).length cI)/\W.cell? ⟨g14,21,none⟩=some (U O d) from fun W M h hM=>⟨Af (h.obj 2 hM) 20,Af (h.obj 2 hM) 21⟩);have ⟨k20,k21⟩:=HB14.out _ _ HM.out rfl;go_wp2_with fail;clear k20 k21
       have HA0:=K1 (show Ahead (Ak i.r.c i.r.p u) (l.q.map Prod.fst) d 0 from ⟨Ak6 _,by rw [List.drop_zero];exact HAH.out⟩);have HTL:=K1 (show (l.q.map Prod.fst).length=nl by rw [Ala,HNL.out]);have HM2:=K1 (show Mem W11 [.bel W1.heap.size W1,.rd A (mcells ms),.obj g14 (.cells ((⟨AP,cP,AM,cM,AG,cG,AR,nR,cR,AI,cI,d⟩:Rm).cells i u).toArray 69 (0,0))] from HM.out);clear HM;have hdn:d<=1000:=hdb
       go_loopw [15,16] (fun s15 s16 wr=>∃ (a q:Nat),q<=nl/\(a<=1000\/a<=(Ak i.r.c i.r.p u).length)/\s15=U O q/\s16=U O a/\Hid (Ahead (Ak i.r.c i.r.p u) (l.q.map Prod.fst) a q)/\Hid (Mem wr [.bel W1.heap.size W1,.rd A (mcells ms),.obj g14 (.cells ((⟨AP,cP,AM,cM,AG,cG,AR,nR,cR,AI,cI,d⟩:Rm).cells i u).toArray 69 (0,0))])) (fun _ s16 _=>(Ak i.r.c i.r.p u).length-(intOf s16).toNat)
       case atStart=>exact ⟨d,0,Ak6 _,.inl hdb,rfl,rfl,HA0,HM2⟩
       case round =>
        clear HM2 HA0;obtain ⟨a,q,hq,ha,rfl,rfl,HA,HM⟩:=hrel;have ⟨k20,k21⟩:=HB14.out _ _ HM.out rfl
        by_cases ha1:a<(Ak i.r.c i.r.p u).length
        . by_cases hq1:q<nl
          . obtain ⟨bi,oi,hAI,_,_⟩:=(HIT.out _ (HM.out.bel 0 rfl)) (by rw [show (icells (Ak i.r.c i.r.p u)).length=(Ak i.r.c i.r.p u).length*12 from Dx It.cells 12 (fun _=>rfl) _];omega)
            subst hAI;obtain ⟨xx,hxx⟩:=Au (Ak i.r.c i.r.p u) a ha1;have hit:=Gq (HIT.out _ (HM.out.bel 0 rfl)) hxx
            by_cases h4:xx.kind=4
            . obtain ⟨gm,hgm⟩:=Au ms q (by omega);have htq:(l.q.map Prod.fst)[q]?=some gm.t:=by rw [<- HTG.out,List.getElem?_map,hgm];rfl
              obtain ⟨hte,hah⟩:=HA.out.hit hxx h4 htq;have HAN:=K1 hah;obtain ⟨kd,xt,xn,⟨sd,aa,t1,t2,t3,t4,t5,x1,x2⟩⟩:=xx;replace h4:kd=4:=h4;subst h4;obtain ⟨gt,gA,gc,gv⟩:=gm;have hte:gt=⟨t1,t2,t3,t4,t5⟩:=hte;subst hte
              obtain ⟨bl,ol,hAl,_,_⟩:=(HM.out.rd 1 rfl) (by rw [E4];omega)
              subst hAl;have HC1:=K1 (fun W (hr:Rd W W.heap.size (some ⟨bl,ol,none⟩) (mcells ms)) j v (h:([U O t1,U O t2,U O t3,U O t4,U O t5]:List Value)[j]?=some v)=>(show W.cell? ⟨bl,ol+q*6+j,none⟩=some v by rw [Ak7];exact DY hr (Gg hgm (JK (B:=([Value.slice gA gv.length gc]:List Value)) h))));have HC2:=K1 (fun W (hr:Rd W W.heap.size (some ⟨bi,oi,none⟩) (icells (Ak i.r.c i.r.p u))) j v (h:([U O t1,U O t2,U O t3,U O t4,U O t5]:List Value)[j]?=some v)=>(show W.cell? ⟨bi,oi+a*12+5+j,none⟩=some v by rw [Ak7,Ak7];exact DY hr (Ef It.cells 12 (fun _=>rfl) _ a _ hxx (5+j) v (UF h))))
              dsimp only [itAt] at hit;obtain ⟨i0,_⟩:=hit
              obtain ⟨q1,hq1d⟩:∃ q1,q1=q+1:=⟨_,rfl⟩
              have e5:(q:Int)+1=(q1:Int):=by omega
              have w5:IntKind.i64.wrap (q1:Int)=(q1:Int):=Ak9 _ (by omega);have HQ1:=K1 hq1d;clear hgm htq hxx hah hq1d;go_upto_region 21 with fail
              clear k20 k21 i0;refine A9 fun W3 hW=>?_;replace HM:=K1 (hW.out.symm ▸ HM.out);clear hW;refine AC (.reads [0,1,2,3,4,5,6,7,8,9,10,11,12] (.fin)) 13 (fun W'=>(∀ j v,([U O t1,U O t2,U O t3,U O t4,U O t5]:List Value)[j]?=some v->W'.cell? ⟨bl,ol+q*6+j,none⟩=some v)/\(∀ j v,([U O t1,U O t2,U O t3,U O t4,U O t5]:List Value)[j]?=some v->W'.cell? ⟨bi,oi+a*12+5+j,none⟩=some v)/\W'.cell? ⟨g14,20,none⟩=some (Usl (some ⟨bi,oi,none⟩) (Ak i.r.c i.r.p u).length cI)) ?_;replace HM:=K1 HM.out.drew;generalize W3.drew=V3 at *
              refine PlS.reads_ ⟨HC1.out _ (HM.out.rd 1 rfl),HC2.out _ (HIT.out _ (HM.out.bel 0 rfl)),(HB14.out _ _ HM.out rfl).1⟩ (by kernel_rfl) ?_;simp only [AW,p1,p2,p3,p4];apply Exists.intro;apply Ak4
              . intro W' hS;obtain ⟨s1,s2,s3⟩:=hS
                still_step
                still_step
                still_step
                still_step
                refine Ea rfl _ _ rfl bl (ol+q*6) rfl [U O t1,U O t2,U O t3,U O t4,U O t5] _ Tryz.underlying71 rfl (by kernel_rfl) s1 ?_
                still_step
                still_step
                still_step
                still_step
                still_step
                still_step
                refine Ea rfl _ _ rfl bi (oi+a*12+5) rfl [U O t1,U O t2,U O t3,U O t4,U O t5] _ Tryz.underlying71 rfl (by kernel_rfl) s2 ?_
                still_step
                exact wpStill_nil rfl
              refine PlS.fin_ ?_;go_wp2_with fail;go_roundw
              case rel=>exact ⟨a+1,q1,by have:=HQ1.out;omega,.inr (by omega),by go_num,by go_num,K1 (by rw [HQ1.out];exact HAN.out),HM⟩
              case measure=>simp [intOf];omega
            . have HAN:=K1 (HA.out.pass hxx h4);obtain ⟨kd,xt,xn,xa⟩:=xx;have h4:¬ kd=4:=h4;have h4i:¬ (kd:Int)=4:=by omega
              dsimp only [itAt] at hit;obtain ⟨i0,_⟩:=hit;clear hxx;go_wp2_with fail;go_roundw
              case rel=>exact ⟨a+1,q,hq,.inr (by omega),rfl,by go_num,HAN,HM⟩
              case measure=>simp [intOf];omega
          . have hqe:q=nl:=by omega
            have hq1b:decide (q<nl)=false:=decide_eq_false hq1;go_wp2_with fail;go_roundw
            case rel=>exact ⟨v+1,by omega,by go_num,K1 (HM.out.bel 0 rfl)⟩
            case measure=>simp [intOf];omega
        . have hqe:q=nl:=by rw [<- HTL.out];exact HA.out.full (by omega)
          have ha1b:decide (a<(Ak i.r.c i.r.p u).length)=false:=decide_eq_false ha1;go_wp2_with fail;go_roundw
          case rel=>exact ⟨v+1,by omega,by go_num,K1 (HM.out.bel 0 rfl)⟩
          case measure=>simp [intOf];omega
     . go_wp2_with fail;refine (N3 _).mono ?_;rintro e w5 ⟨rfl,hb⟩;have hend:=(HMB.out _ ((HK.out _ (HB.out.trans (hb.mono HB.out.size))).bel 0 rfl)).bel 0 rfl;have HE:=K1 hend;clear hb hend;go_wp2_with fail;go_ret;exact ⟨rfl,HE.out⟩
theorem UI {g:Gi} {w:World} (ha:g.At w) (ZA:Option Addr) (cap:Nat) (zs:List Int) (hz:Rd w w.heap.size ZA (zC zs)) (hm:zs.length<=9223372036854775807) :
  Calls Tryz.prog 5 #[.agg g.cells.toArray,Usl ZA zs.length cap] w fun e w'=>e=.returned (.bool true)/\Below w.heap.size w w':=by
 have CF0:∀ W,Below w.heap.size w W->Calls Tryz.prog 6 #[.agg g.cells.toArray,Usl ZA zs.length cap] W fun e w'=>e=.returned (.bool (g.few zs.length))/\Below W.heap.size W w':=fun W hb=>Gi.few_any (ha.below hb) ZA zs.length cap hm
 cases hf:g.few zs.length
 . rw [hf] at CF0;exact UG ZA zs.length cap CF0
 . rw [hf] at CF0;obtain ⟨hs,hl⟩:=Gi.few_small hf;obtain ⟨i,hcells,hi,hia,⟨_,hsc,h5⟩,hpl⟩:=Gi.inp hs ha
   have CI:∀ W,Below w.heap.size w W->Calls Tryz.prog 22 #[.agg g.cells.toArray] W fun e w'=>e=.returned (U O 0)/\Below W.heap.size W w':=fun W hb=>by
    have:=Gi.input (ha.below hb);rw [hs.code] at this;exact this
   rw [<- hcells] at CF0 CI ⊢;exact UH hi hia hsc h5 ZA zs.length cap zs hz rfl hl CF0 CI
end
end Go.Proofs.YtdpojpcoghcieaaGreat
