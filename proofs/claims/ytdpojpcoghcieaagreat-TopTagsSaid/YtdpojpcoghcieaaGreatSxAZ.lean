/- A part of the proof of TopTags: MachRecv, MachLaunch, MachUpd, MachComp, MachRec, MachDoers, RefBlocks, RefBkt, PlanTotal. Conditions: none. -/
import Derived.Test.YtdpojpcoghcieaaGreatSxAX
import Derived.Test.YtdpojpcoghcieaaGreatSxAY
set_option maxHeartbeats 8000000
set_option linter.all false
namespace Go.Proofs.YtdpojpcoghcieaaGreat
open Lib renaming hid → K1
open Go.RowKit
set_option maxRecDepth 100000
open Value renaming int → U, slice → Us
open IntKind renaming i64 → O
open PlS renaming ef_ → Abp, rd_ → Abr, fin_ → Abt
open After renaming go → Abq
open World renaming size_alloc → Abs
open Mem renaming cast → Abu
open Nat renaming le_refl → Abv, eq_zero_or_pos → Ab6
open List renaming mem_of_getElem? → Abw, cons_append → Aby, range → Abz, nil_append → Ab0, length_append → Ab2, length_singleton → Ab3, mem_or_eq_of_mem_set → Ab4, not_mem_nil → Ab5
open And renaming intro → Abx
open Option renaming map_some → Ab1
open IntWalk renaming i64_in → Ab7
section
theorem RH (w:World) (m:Mc) (l:Ln) (R:List Ch) (h:Mem w (m.ps++(l.ps++R))) (x:It) (vo:Value) (code:Int) (hcode:(code != 0)=true)
  (CR:∀ (W:World) (R':List Ch),Mem W (l.ps++R')->Calls Tryz.prog 211 #[.pointer (some ⟨l.g,0,none⟩),.agg (tgOf x.a).cells.toArray] W fun e w'=>e=.returned (.tuple #[Fu,U O code])/\Mem w' (l.ps++R')) :
  Calls Tryz.prog 202 #[.pointer (some ⟨m.f.g,0,none⟩),.agg x.cells.toArray,.agg #[.pointer (some ⟨l.g,0,none⟩),vo]] w fun e w'=>e=.returned (U O code)/\Mem w' (m.ps++(l.ps++R)):=by
 obtain ⟨kd,st,n,⟨asn,aa,t1,t2,t3,t4,t5,lo,hi⟩⟩:=x;dsimp only [It.cells,Ac.cells,tgOf,Tg.cells] at *;simp only [Aby,Ab0] at *;have hm0:=((h.alloc (.cells #[U O kd,U O st,U O n,.bool asn,.bool aa,U O t1,U O t2,U O t3,U O t4,U O t5,U O lo,U O hi] 146)).fA.alloc (.cells #[.pointer (some ⟨l.g,0,none⟩),vo] 313)).fA;simp only [Abs] at hm0;have hm1:=(hm0.alloc (.cells #[.bool asn,.bool aa,U O t1,U O t2,U O t3,U O t4,U O t5,U O lo,U O hi] 144)).fA;simp only [Abs] at hm1;have c14:=hm0.cells 14 rfl;have c15:=hm1.cells 15 rfl;have c16:=hm1.cells 16 rfl;have HM:=K1 hm1;have CR:=K1 CR;clear hm0 hm1 h
 go_enter Tryz.func202,Tryz.ntmps202;go_wp2_with fail;refine Dw fun W0 hW0=>?_;replace HM:=K1 (HM.out.inW hW0.out);clear hW0 c14 c15 c16;refine (CR.out _ _ HM.out.swap).mono ?_;rintro e w1 ⟨rfl,hm1⟩;replace HM:=K1 hm1.swap;clear hm1 CR;have HF:=K1 ((HM.out.alloc (.cells #[U O 0,U O 0,U O 0,U O 0,U O 0,Us none 0 0] 78)).fA);clear HM;go_wp2_with fail;go_ret;exact ⟨rfl,HF.out.mid.mid.mid.mid⟩
theorem RI (w:World) (m:Mc) (l l':Ln) (R:List Ch) (h:Mem w (m.ps++(l.ps++R))) (ho:m.Ok) (x:It) (ha:x.a.lo<x.a.hi/\x.a.hi<=m.f.p) (vo:Value) (y:Ms) (hyl:y.v.length=x.a.hi-x.a.lo) (hyc:y.v.length<=y.c) (hy:(y.A,zC y.v)∈lfam l'.ms)
  (CR:∀ (W:World) (R':List Ch),Mem W (l.ps++R')->Calls Tryz.prog 211 #[.pointer (some ⟨l.g,0,none⟩),.agg (tgOf x.a).cells.toArray] W fun e w'=>e=.returned (.tuple #[.agg y.cells.toArray,U O 0])/\Mem w' (l'.ps++R')) :
  Calls Tryz.prog 202 #[.pointer (some ⟨m.f.g,0,none⟩),.agg x.cells.toArray,.agg #[.pointer (some ⟨l.g,0,none⟩),vo]] w fun e w'=>e=.returned (U O 0)/\Mem w' (({ m with G:=if x.a.add then Bn x.a.lo y.v m.G (x.a.hi-x.a.lo) else splice m.G x.a.lo y.v }:Mc).ps++(l'.ps++R)):=by
 obtain ⟨kd,st,n,⟨asn,aa,t1,t2,t3,t4,t5,lo,hi⟩⟩:=x;dsimp only [It.cells,Ac.cells,tgOf,Tg.cells] at *;simp only [Aby,Ab0] at *;have hG:=ho.G.1;have hp60:=ho.f.p.2;obtain ⟨h1,h2⟩:=ha;have hm0:=((h.alloc (.cells #[U O kd,U O st,U O n,.bool asn,.bool aa,U O t1,U O t2,U O t3,U O t4,U O t5,U O lo,U O hi] 146)).fA.alloc (.cells #[.pointer (some ⟨l.g,0,none⟩),vo] 313)).fA;simp only [Abs] at hm0;have hm1:=(hm0.alloc (.cells #[.bool asn,.bool aa,U O t1,U O t2,U O t3,U O t4,U O t5,U O lo,U O hi] 144)).fA;simp only [Abs] at hm1;have c14:=hm0.cells 14 rfl;have c15:=hm1.cells 15 rfl
 have c16:=hm1.cells 16 rfl;have HM:=K1 hm1;have CR:=K1 CR;obtain ⟨⟨y1,y2,y3,y4,y5⟩,yA,yc,yv⟩:=y;dsimp only [Ms.cells,Tg.cells] at *;simp only [Aby,Ab0] at *
 obtain ⟨p,hp⟩:∃ p,p=m.f.p:=⟨_,rfl⟩
 rw [<- hp] at h2 hp60 hG;have hlo1:lo<=hi:=by omega
 have hlo2:lo<=60:=by omega
 have hhi2:hi<=60:=by omega
 have hn0:0<hi-lo:=by omega
 have hloN:lo+(hi-lo)<=p:=by omega
 have hn1b:hi-lo<=60:=by omega
 have hcap:hi-lo<=p-lo:=by omega
 have hHP:=K1 hp
 have CA:=K1 (fun (W:World) (L:List Ch) (hM:Mem W L) (hi1:L[1]?=some (.own m.BG 2 1 (Us (some ⟨m.gG,0,none⟩) p p) p (zC m.G))) (hj:L[18]?=some (.rd yA (zC yv))) =>
  Hk W L hM 1 18 m.BG p p lo (hi-lo) (p-lo) yc (some ⟨m.gG,0,none⟩) (some ⟨m.gG,lo,none⟩) yA m.G yv hi1 hj hyl (by omega) hG (fun _=>by rw [Ab1,Cg,Nat.zero_add]) hcap (by omega) (by omega))
 have CY:=K1 (fun (W:World) (L:List Ch) (hM:Mem W L) (hi1:L[1]?=some (.own m.BG 2 1 (Us (some ⟨m.gG,0,none⟩) p p) p (zC m.G))) (hj:L[18]?=some (.rd yA (zC yv))) =>
  IX (P:=Tryz.prog) 87 26 3 2 Tryz.underlying87 size64 hM 1 hi1 yA (hi-lo) (p-lo) yc (hM.rd 18 hj) (by simpa using hyl) hloN hn0 (Ek _))
 have HY:=K1 hy;have HYL:=K1 hyl;clear hyl hm0 hm1 h ho hG hp hy hyc;go_enter Tryz.func202,Tryz.ntmps202;go_wp2_with fail;refine Dw fun W0 hW0=>?_;replace HM:=K1 (HM.out.inW hW0.out);clear hW0 c14 c15 c16;refine (CR.out _ _ HM.out.swap).mono ?_;rintro e w1 ⟨rfl,hm1⟩;replace HM:=K1 hm1.swap;clear hm1 CR;rw [HYL.out];have hf:=(HM.out.alloc (.cells #[U O y1,U O y2,U O y3,U O y4,U O y5,Us yA (hi-lo) yc] 78)).fA;replace HM:=K1 ((hf.famPiece (i:=20) rfl HY.out).fA);clear hf HY;go_wp2_with fail;refine A9 fun W0 hW=>?_;replace HM:=K1 (hW.out.symm ▸ HM.out);clear hW
 refine AC (.reads [0,1,2,3,4,5,6,7,8,9,10,11] .fin) 12 (fun W'=>W'.cell? ⟨m.f.g,13,none⟩=some (Us (some ⟨m.gG,0,none⟩) p p)/\(∀ i,W'.cell? ⟨w.heap.size+1+1,i,none⟩=([.bool asn,.bool aa,U O t1,U O t2,U O t3,U O t4,U O t5,U O lo,U O hi]:List Value)[i]?)) ?_;replace HM:=K1 HM.out.drew;generalize W0.drew=V at *;refine Abr (⟨by rw [hHP.out];exact Af (HM.out.obj 0 rfl) 13,HM.out.cells 16 rfl⟩) ?_;refine Abt ?_;have c16:=HM.out.cells 16 rfl;have c17:=HM.out.cells 17 rfl
 cases aa
 . obtain ⟨w5,hrun,hm5⟩:=CY.out _ _ HM.out (by rw [hHP.out];rfl) rfl;rw [<- Hw] at hm5;have HF:=K1 hm5;clear hm5 CA CY;go_wp2_with fail;go_ret;refine ⟨rfl,?_⟩;have h9:=Abu HF.out (show _=(({ m with G:=splice m.G lo yv }:Mc).ps++[_,_,_,_,_])++(l'.ps++R) by rw [hHP.out];rfl);exact h9.mid
 . go_wp2_with fail;refine (CA.out _ _ HM.out (by rw [hHP.out];rfl) rfl).mono ?_;rintro e w5 ⟨rfl,hm5⟩;have HF:=K1 hm5;clear hm5 CA CY;go_wp2_with fail;go_ret;refine ⟨rfl,?_⟩;have h9:=Abu HF.out (show _=(({ m with G:=Bn lo yv m.G (hi-lo) }:Mc).ps++[_,_,_,_,_])++(l'.ps++R) by rw [hHP.out];rfl);exact h9.mid
theorem Mc.cell {m:Mc} {W:World} {R:List Ch} (h:Mem W (m.ps++R)) (k:Nat):W.cell? ⟨m.f.g,k,none⟩=m.cells[k]?:=Af (h.obj 0 rfl) k
theorem It.cells_at {W:World} {L:List Ch} {i g:Nat} {t:TypeId} {x:It} (h:Mem W L) (hi:L[i]?=some (.obj g (.cells x.cells.toArray t (0,0)))) (k:Nat):W.cell? ⟨g,k,none⟩=x.cells[k]?:=Af (h.obj i hi) k
theorem RJ (l:List Nat) (n:Nat):Ah (l++[n])=Ah l++[U O n]:=by simp [Ah]
def EQ:Nat->Value
 | 1=>.func (.func 199) #[] #[]
 | 2=>.func (.func 200) #[] #[]
 | 3=>.func (.func 201) #[] #[]
 | 4=>.func (.func 202) #[] #[]
 | 5=>.func (.func 203) #[] #[]
 | _=>.func (.func 204) #[] #[]
theorem RK (w:World) (m:Mc) (R:List Ch) (h:Mem w (m.ps++R)) (ho:m.Ok) (hb:m.cnt<=1000000) (x:It) (vi vo:Value) :
  Calls Tryz.prog 200 #[.pointer (some ⟨m.f.g,0,none⟩),.agg x.cells.toArray,.agg #[vi,vo]] w fun e w'=>e=.returned (U O 0)/\∃ A' c',Mem w' (({ m with Ao:=A',co:=c',opn:=m.opn++[x.n] }:Mc).ps++R):=by
 have hm0:=((h.alloc (.cells x.cells.toArray 146)).fA.alloc (.cells #[vi,vo] 313)).fA;simp only [Abs] at hm0;have HM:=K1 hm0;have hol:=ho.opns;have HN:=K1 (RJ m.opn x.n);clear hm0 h ho;go_enter Tryz.func200,Tryz.ntmps200;go_wp2_with fail;refine A9 fun W0 hW=>?_;replace HM:=K1 (hW.out.symm ▸ HM.out);clear hW;refine AC (.reads [0,1,2,3,4,5,6] (.eff 7 (.eff 8 (.eff 9 (.reads [10] (.eff 11 .fin)))))) 11 (fun W'=>W'.cell? ⟨m.f.g,18,none⟩=some (Us m.Ao m.opn.length m.co)/\W'.cell? ⟨w.heap.size,2,none⟩=some (U O x.n)) ?_;replace HM:=K1 HM.out.drew;generalize W0.drew=V at *
 refine Abr (⟨Mc.cell HM.out.mid.mid 18,It.cells_at HM.out (i:=14) rfl 2⟩) ?_;refine Abp ?_;replace HM:=K1 ((HM.out.alloc (.cells #[U O x.n] 3)).fA);go_wp2_with fail;refine Abq (⟨Mc.cell HM.out.mid.mid.mid 18,It.cells_at HM.out (i:=14) rfl 2⟩) ?_;refine Abp ?_;refine AQ (n:=m.opn.length) rfl _ _ 22 rfl HM.out 7 EC rfl rfl _ 1 _ [U O x.n] rfl (HM.out.box 16 rfl) rfl (by intro u hu;simp at hu;subst hu;rfl) (by omega) ?_;intro A' c' W5 hm5;rw [<- HN.out] at hm5;have HM5:=K1 (hm5.fS rfl);clear hm5 HM;go_wp2_with fail;refine Abq (⟨Af (HM5.out.obj 0 rfl) 18,It.cells_at HM5.out (i:=14) rfl 2⟩) ?_
 refine Abp ?_;go_wp2_with fail;refine Abq (⟨Af (HM5.out.obj 0 rfl) 18,It.cells_at HM5.out (i:=14) rfl 2⟩) ?_;refine Abr (⟨Af (HM5.out.obj 0 rfl) 18,It.cells_at HM5.out (i:=14) rfl 2⟩) ?_;refine Abp ?_;have c0:=Af (HM5.out.obj 0 rfl) 18;have f0:=fun j=>HM5.out.frozen 0 j rfl
 have HF:=K1 ((HM5.out.set (i:=0) (j:=18) rfl (Us A' (m.opn.length+1) c')).fS rfl);clear HM5;go_wp2_with fail;refine After.last (by decide) (Abt ?_);go_wp2_with fail;go_ret;refine ⟨rfl,A',c',?_⟩;have h9:=Abu HF.out (show _=(({ m with Ao:=A',co:=c',opn:=m.opn++[x.n] }:Mc).ps++[_,_,_])++R by simp only [Mc.ps,Mc.cells,Ab2,Ab3];rfl);exact h9.mid
theorem Mm {c:Kf} {p:Nat} (h:c.Ok):∀ b∈plBs c p,b.1<b.2/\b.2<=p:=by
 intro b hb;have hb':=List.mem_reverse.1 hb;refine ⟨?_,(EE p c.bu h.bu.1 b hb').2⟩;obtain ⟨i,hi,rfl⟩:=List.mem_map.1 hb';have h1:=EB h.bu.1 (List.mem_range.1 hi);have h2:=h.bu.1;dsimp only [blk1];generalize i*c.bu=e at *;omega
theorem RL:(Tryz.prog.info? 89).map (fun i=>(i.zero,i.size,i.bytes))=some (some (.agg #[Us none 0 0,Us none 0 0]),2,48):=by kernel_rfl
theorem Mn:RowT Tryz.prog 85 89 2 48:=by
 obtain ⟨i0,hi,hz0,hz1,hz2⟩:=info_parts RL;exact ⟨i0,_,Tryz.underlying85,hi,hz0,hz1,hz2,rfl,by decide,by decide⟩
theorem RM (p:Nat) (G:List Int) (h:G.length=p):setL (zC G) 0 (List.replicate p (U O 0))=zC (AE p):=by
 rw [R4 _ _ (by simp [h])];simp [AE]
theorem RN (w:World) (m:Mc) (R:List Ch) (h:Mem w (m.ps++R)) (ho:m.Ok) (x:It) (lo hi:Nat) (hx:(plBs m.f.c m.f.p)[x.n]?=some (lo,hi)) (hb:m.cnt<=1000000) (vi vo:Value) :
  Calls Tryz.prog 203 #[.pointer (some ⟨m.f.g,0,none⟩),.agg x.cells.toArray,.agg #[vi,vo]] w fun e w'=>e=.returned (U O 0)/\Mem w' (({ m with P:=(Bw m.f.ru m.G lo m.P m.M (hi-lo)).1,M:=(Bw m.f.ru m.G lo m.P m.M (hi-lo)).2,opn:=m.opn.filter fun y=>!(y == x.n) }:Mc).ps++R):=by
 have hG:=ho.G.1;have hp60:=ho.f.p.2;have hbs:=Mm ho.f.c _ (Abw hx);have hxl:=(List.getElem?_eq_some_iff.1 hx).1;have hcb:=ho.f.cb;have hol:=ho.opns;have hlen60:=(DU ho.f.c ho.f.p.2).2.1;dsimp only at hbs
 have HR:=K1 (show ∀ (W:World) (L:List Ch),Mem W L->L[8]?=some (.rd m.f.Ab (rcells (plBs m.f.c m.f.p)))->∃ b o,m.f.Ab=some ⟨b,o,none⟩/\W.cell? ⟨b,o+x.n*2,none⟩=some (U O lo)/\W.cell? ⟨b,o+x.n*2+1,none⟩=some (U O hi) from fun W L h hL=>by
  obtain ⟨b,o,e,hc⟩:=h.ranges 8 hL (by omega)
  exact ⟨b,o,e,hc _ _ hx⟩)
 obtain ⟨bb,bo,hAb,_⟩:=HR.out w _ h rfl;have CA:=K1 (fun (W:World) (L:List Ch) (hM:Mem W L) hP hMm hGg=>QQ W L hM m.f.ru ho.f.ru 2 3 1 m.B m.BG m.f.p m.f.p m.cP m.cM m.f.p m.gP m.gM m.gG lo hi (hi-lo) (m.f.p-lo) m.P m.M m.G hP hMm hGg (by decide) (by decide) (by decide) ⟨ho.P.1,ho.M.1⟩ hG hbs.1 hbs.2 hbs.2 rfl (by omega) (by omega) ho.M.2);have CD:=K1 (fun (W:World) (L:List Ch) (hM:Mem W L) hi7 hi14=>R7 W L hM 7 14 m.BO w.heap.size x.n m.opn.length m.co m.Ao m.opn x.cells 146 hi7 hi14 rfl rfl (by omega));have hm0:=((h.alloc (.cells x.cells.toArray 146)).fA.alloc (.cells #[vi,vo] 313)).fA
 simp only [Abs] at hm0;have HM:=K1 hm0;have hlo60:lo<=60:=by omega
 have hhi60:hi<=60:=by omega
 have hlohi:lo<=hi:=by omega
 have hxb:x.n<=60:=by omega
 have hxl2:x.n<(plBs m.f.c m.f.p).length:=hxl
 obtain ⟨p,hp⟩:∃ p,p=m.f.p:=⟨_,rfl⟩
 have hhip:hi<=p:=by omega
 have hlop:¬ p=lo:=by omega
 have hlop2:¬ lo=p:=by omega
 have hlohi2:lo<hi:=hbs.1;have hpb:p<=60:=by omega
 have HPP:=K1 hp
 have HB2:Hid (∀ (W:World) (L:List Ch),Mem W L->L[8]?=some (.rd m.f.Ab (rcells (plBs m.f.c m.f.p)))->W.cell? ⟨bb,bo+x.n*2,none⟩=some (U O lo)/\W.cell? ⟨bb,bo+x.n*2+1,none⟩=some (U O hi)):=K1 (fun W L h1 h2=>by
  obtain ⟨b,o,e,h3⟩:=HR.out W L h1 h2;rw [hAb] at e;injection e with e
  injection e with e1 e2
  subst e1;subst e2
  exact h3)
 have HAb:=K1 hAb
 obtain ⟨nb,hnb⟩:∃ nb,nb=(plBs m.f.c m.f.p).length:=⟨_,rfl⟩
 rw [<- hnb] at hxl2 hlen60;have HNB:=K1 hnb;clear hm0 h ho hG hbs hx hp hAb hnb hcb hxl HR hp60;go_enter Tryz.func203,Tryz.ntmps203;go_wp2_with fail;refine A9 fun W0 hW=>?_;replace HM:=K1 (hW.out.symm ▸ HM.out);clear hW;refine AC (.reads [0,1,2,3,4,5,6,7,8] (.eff 9 (.eff 10 .fin))) 11 (fun W'=>W'.cell? ⟨m.f.g,7,none⟩=some (Us (some ⟨bb,bo,none⟩) nb m.f.cb)/\W'.cell? ⟨w.heap.size,2,none⟩=some (U O x.n)/\W'.cell? ⟨bb,bo+x.n*2,none⟩=some (U O lo)/\W'.cell? ⟨bb,bo+x.n*2+1,none⟩=some (U O hi)) ?_;replace HM:=K1 HM.out.drew;generalize W0.drew=V at *
 refine Abr (⟨by rw [HNB.out,<- HAb.out];exact Af (HM.out.obj 0 rfl) 7,It.cells_at HM.out (i:=14) rfl 2,HB2.out _ _ HM.out rfl⟩) ?_;refine Abp ?_;go_wp2_with fail;refine AH fun W3 hW3=>?_;replace HM:=K1 ((HM.out.alloc_ hW3.out).fA);clear hW3;refine Abq (⟨by rw [HNB.out,<- HAb.out];exact Af (HM.out.obj 0 rfl) 7,It.cells_at HM.out (i:=14) rfl 2,HB2.out _ _ HM.out rfl⟩) ?_;refine Abp ?_;have c16:=HM.out.cells 16 rfl;have f16:=fun j=>HM.out.frozen 16 j rfl
 replace HM:=K1 ((HM.out.set2 (i:=16) rfl (U O lo) (U O hi)).fS rfl);go_wp2_with fail;refine Abq (⟨by rw [HNB.out,<- HAb.out];exact Af (HM.out.obj 0 rfl) 7,It.cells_at HM.out (i:=14) rfl 2,HB2.out _ _ HM.out rfl⟩) (Abt ?_);clear c16 f16;go_wp2_with fail;generalize hV:V.heap.size=g16 at *;clear hV;refine A9 fun W1 hW=>?_;replace HM:=K1 (hW.out.symm ▸ HM.out);clear hW
 refine AC (.reads [0,1,2,3,4,5,6,7,8,9,10,11,12,13,14,15,16,17,18] (.eff 19 .fin)) 20 (fun W'=>W'.cell? ⟨m.f.g,8,none⟩=some (U O m.f.c.ra)/\W'.cell? ⟨m.f.g,9,none⟩=some (U O m.f.c.mo)/\W'.cell? ⟨m.f.g,10,none⟩=some (U O m.f.c.sh)/\W'.cell? ⟨m.f.g,11,none⟩=some (Us (some ⟨m.gP,0,none⟩) p m.cP)/\W'.cell? ⟨m.f.g,12,none⟩=some (Us (some ⟨m.gM,0,none⟩) p m.cM)/\W'.cell? ⟨m.f.g,13,none⟩=some (Us (some ⟨m.gG,0,none⟩) p p)/\(∀ i,W'.cell? ⟨g16,i,none⟩=([U O lo,U O hi]:List Value)[i]?)) ?_;replace HM:=K1 HM.out.drew;generalize W1.drew=V1 at *
 refine Abr (⟨Af (HM.out.obj 0 rfl) 8,Af (HM.out.obj 0 rfl) 9,Af (HM.out.obj 0 rfl) 10,by rw [HPP.out];exact Af (HM.out.obj 0 rfl) 11,by rw [HPP.out];exact Af (HM.out.obj 0 rfl) 12,by rw [HPP.out];exact Af (HM.out.obj 0 rfl) 13,HM.out.cells 16 rfl⟩) ?_;refine Abp ?_;go_wp2_with fail;rw [HPP.out];refine (CA.out _ _ HM.out rfl rfl rfl).mono ?_;rintro e w5 ⟨rfl,hm5⟩;have HM5:=K1 (Abu (hm5.fS2 rfl rfl) (show _=(({ m with P:=(Bw m.f.ru m.G lo m.P m.M (hi-lo)).1,M:=(Bw m.f.ru m.G lo m.P m.M (hi-lo)).2 }:Mc).ps++[.obj w.heap.size (.cells x.cells.toArray 146 (0,0)),_,_])++R from rfl));clear hm5 CA HM
 go_wp2_with fail;refine Abq (⟨Af (HM5.out.obj 0 rfl) 8,Af (HM5.out.obj 0 rfl) 9,Af (HM5.out.obj 0 rfl) 10,by rw [HPP.out];exact Af (HM5.out.obj 0 rfl) 11,by rw [HPP.out];exact Af (HM5.out.obj 0 rfl) 12,by rw [HPP.out];exact Af (HM5.out.obj 0 rfl) 13,HM5.out.cells 16 rfl⟩) (Abt ?_);have c0:w5.cell? ⟨m.f.g,18,none⟩=some (Us m.Ao m.opn.length m.co):=Af (HM5.out.obj 0 rfl) 18;go_wp2_with fail;refine (CD.out _ _ HM5.out rfl rfl).mono ?_;rintro e w6 ⟨rfl,hm6⟩;have HM6:=K1 hm6;clear hm6 CD HM5 c0;have c0:w6.cell? ⟨m.f.g,18,none⟩=some (Us m.Ao m.opn.length m.co):=Af (HM6.out.obj 0 rfl) 18
 have f0:∀ j,w6.frozen? ⟨m.f.g,j,none⟩=false:=fun j=>HM6.out.frozen 0 j rfl
 have HF:=K1 (HM6.out.set (i:=0) (j:=18) rfl (Us m.Ao (m.opn.filter fun y=>!(y == x.n)).length m.co));clear HM6;go_wp2_with fail;go_ret;refine ⟨rfl,?_⟩;have h9:=Abu HF.out (show _=(({ m with P:=(Bw m.f.ru m.G lo m.P m.M (hi-lo)).1,M:=(Bw m.f.ru m.G lo m.P m.M (hi-lo)).2,opn:=m.opn.filter fun y=>!(y == x.n) }:Mc).ps++[_,_,_])++R from rfl);exact h9.mid
theorem Mo {n:Nat} (hn:1<=n) (js:List Nat):∀ k,∀ x∈BM n js k,x<n
 | 0,x,hx=>List.mem_range.1 hx
 | k+1,x,hx=>by
   have ih:=Mo hn js k
   have key:∀ i:Nat,(BM n js k)[i]?.getD 0<n:=fun i=>by
    cases h:(BM n js k)[i]? with
    | none=>exact hn
    | some v=>exact ih v (Abw h)
   rw [BM,Ej] at hx
   rcases Ab4 hx with hx | rfl
   . rcases Ab4 hx with hx | rfl
     . exact ih x hx
     . exact key _
   . exact key _
theorem Gt {α:Type} {l:List α} {a b:Nat} {x:α} (h:x∈subL l a b):x∈l:=List.mem_of_mem_drop (List.mem_of_mem_take h)
theorem Mp {ds:List Nat} {n batch t u k a mi:Nat} (hn:1<=n):∀ x∈Ci ds n batch t u k a mi,x<n:=fun x hx=>Mo hn _ _ x (Gt (Gt (Gt hx)))
theorem Mq {ds:List Nat} {n batch t u k a mi:Nat} (hu:u<k) (ha:a<mi):(Ci ds n batch t u k a mi).length<=n:=by
 have h1:=FU (l:=B5 (BD ds n batch t) u k) ha;have h2:=FU (l:=BD ds n batch t) hu
 have h3:(BD ds n batch t).length<=n:=by
  unfold BD subL;rw [List.length_take,List.length_drop,Hh];omega
 unfold Ci;omega
theorem DL {W:World} {lo hi g:Nat} {P:World->Prop} (h:Local (fun g=>lo<=g/\g<hi) P W) (hg:lo<=g/\g<hi):hi<=W.heap.size:=by
 have:=h.lt (hi-1) (by omega);omega
theorem nsle {ns:List Nat} (h:NsOk ns) {k n:Nat} (hk:ns[k]?=some n):n<=1000:=by
 have hl:=h.len;have hlt:=(List.getElem?_eq_some_iff.1 hk).1
 rcases Nat.lt_or_ge k (ns.length-1) with h1 | h1
 . obtain ⟨a,b,ha,_,_,_,_,_,h2,_⟩:=h.at_ h1;rw [hk] at ha;injection ha with ha
   omega
 . obtain ⟨a,b,_,hb,_,_,_,_,_,h2,_⟩:=h.at_ (show ns.length-2<ns.length-1 by omega);rw [show ns.length-2+1=k by omega,hk] at hb;injection hb with hb
   omega
theorem Mem.pushNet {W W':World} {L:List Ch} {i flo fhi gn gs q:Nat} {ns:List Nat} {ps:List Int} (h:Mem W L) (hb:Below W.heap.size W W') (hn:E5 W' W.heap.size W'.heap.size flo fhi gn gs q ns ps) (hi:L[i]?=some (E6 flo fhi gs ns)):Mem W' (L++[Gm W.heap.size W'.heap.size flo fhi gn gs q ns ps]) :=
 (h.below hb).add (Ro hn) fun j d hd hm g hg hdg=>by
  rcases hg with hg | hg
  . have:=Ch.lt (h.holds j d hd) hdg;omega
  . rcases hm with hm | hm
    . exact hm
    . refine h.sep j i d _ (fun e=>?_) hd hi hm g hdg hg;subst e;rw [hd] at hi;injection hi with hi
      subst hi;exact hm
def BH (ns:List Nat) (q:Nat) (ps:List Int) (p:Nat):List (List Int × List Int)->List Int->List Int
 | [],G=>G
 | e::r,G=>BH ns q ps p r (Bn 0 (DX ns ps q e.1 e.2) G p)
theorem Jw (ns:List Nat) (q:Nat) (ps:List Int) (p:Nat) (e:List Int × List Int):∀ (l:List (List Int × List Int)) (G:List Int),BH ns q ps p (l++[e]) G=Bn 0 (DX ns ps q e.1 e.2) (BH ns q ps p l G) p
 | [],_=>rfl
 | _::r,_=>by rw [Aby,BH,Jw ns q ps p e r];rfl
theorem Gu (ns:List Nat) (q:Nat) (ps:List Int) (p:Nat):∀ (l:List (List Int × List Int)) (G:List Int),(BH ns q ps p l G).length=G.length
 | [],_=>rfl
 | _::r,_=>by rw [BH,Gu ns q ps p r,D4]
theorem Ih (ns:List Nat) (q:Nat) (ps:List Int) (p:Nat):∀ (l:List (List Int × List Int)) (G:List Int),In64 G->In64 (BH ns q ps p l G)
 | [],_,h=>h
 | _::r,_,h=>Ih ns q ps p r _ (FX h p)
def Mc.micro (m:Mc) (n:Nat):List (List Int × List Int):=exAt m.f.xs (Ci m.f.ds m.f.n m.f.c.ba m.t m.f.u m.f.c.k n m.f.c.mi)
theorem RO {l:List Ex} {js:List Nat} (hj:∀ j∈js,j<l.length):∀ e∈exAt l js,∃ x∈l,e=x.nums:=fun e he=>by
 obtain ⟨j,hjm,rfl⟩:=List.mem_map.1 he;obtain ⟨x,hx⟩:=Au l j (hj j hjm);exact ⟨x,Abw hx,by rw [hx];rfl⟩
theorem RP (w:World) (m:Mc) (R:List Ch) (h:Mem w (m.ps++R)) (ho:m.Ok) (x:It) (ht:m.t<m.f.c.st) (hxs:x.step=m.t) (hxn:x.n<m.f.c.mi) (vi vo:Value) :
  Calls Tryz.prog 199 #[.pointer (some ⟨m.f.g,0,none⟩),.agg x.cells.toArray,.agg #[vi,vo]] w fun e w'=>e=.returned (U O 0)/\Mem w' (({ m with G:=BH m.f.ns m.f.c.sh m.P m.f.p (m.micro x.n) m.G }:Mc).ps++R):=by
 have hG:=ho.G.1;have hp60:=ho.f.p;have hsh:=ho.f.c.sh;have hba:=ho.f.c.ba;have hkk:=ho.f.c.k;have hn1:=ho.f.n;obtain ⟨na,nz,hna,hnz,hexs⟩:=ho.f.ex;have hml:=Mq (ds:=m.f.ds) (n:=m.f.n) (batch:=m.f.c.ba) (t:=m.t) ho.f.u hxn;have hmlt:=Mp (ds:=m.f.ds) (n:=m.f.n) (batch:=m.f.c.ba) (t:=m.t) (u:=m.f.u) (k:=m.f.c.k) (a:=x.n) (mi:=m.f.c.mi) (by omega);have HMI:=K1 (show m.micro x.n=exAt m.f.xs (Ci m.f.ds m.f.n m.f.c.ba m.t m.f.u m.f.c.k x.n m.f.c.mi) from rfl)
 have CN:=K1 (fun (W:World) (hF:BE W m.f.flo m.f.fhi m.f.gs m.f.ns) (hh:m.f.fhi<=W.heap.size) hr=>(Q6 W m.f.flo m.f.fhi m.f.gs m.f.c.sh m.f.p m.cP m.f.ns (some ⟨m.gP,0,none⟩) m.P hF hh ho.f.ns hr ho.P.1 ho.f.pn hsh.2).mono fun e w' h=>(show ∃ gn,e=.returned (.tuple #[.pointer (some ⟨gn,0,none⟩),.bool true])/\E5 w' W.heap.size w'.heap.size m.f.flo m.f.fhi gn m.f.gs m.f.c.sh m.f.ns m.P/\Below W.heap.size W w' by
  obtain ⟨gn,Ap,cp,As,Al,cl,ms,rfl,h1,h2,h3,h4,h5,h6⟩:=h
  exact ⟨gn,rfl,Rp hF hh ho.f.ns ho.P.1 ho.f.pn ho.P.2 hsh.2 h1 h2 h3 h4 h5 h6,h6.bel 0 rfl⟩))
 have CM:=K1 (fun (W:World) (hS:Dk W m.f.slo m.f.shi m.f.gb m.f.n m.f.c.ba m.f.c.st m.f.ds) (hh:m.f.shi<=W.heap.size)=>P7 W m.f.slo m.f.shi m.f.gb m.f.n m.f.c.ba m.f.c.st m.t m.f.u m.f.c.k x.n m.f.c.mi m.f.ds hS hh hn1.1 (by omega) ht ho.f.c.st ⟨ho.f.u,by omega⟩ ⟨hxn,ho.f.c.mi.2⟩)
 have CP:=K1 (fun (W:World) (B:Option Addr) (cb:Nat) hr hf hB=>RF W m.f.Ax B m.f.n m.f.cx (Ci m.f.ds m.f.n m.f.c.ba m.t m.f.u m.f.c.k x.n m.f.c.mi).length cb m.f.xs (Ci m.f.ds m.f.n m.f.c.ba m.t m.f.u m.f.c.k x.n m.f.c.mi) hr hf hB ho.f.xs (by omega) (fun e he=>by
  have h1:=nsle ho.f.ns hna;have h2:=nsle ho.f.ns hnz;obtain ⟨e1,e2,_⟩:=hexs e he
  omega) rfl (by omega) hmlt)
 have CG:=K1 (fun (W:World) (gn nx cx ny cy:Nat) (X Y:Option Addr) (xs ys:List Int) (hN:Ez W gn m.f.gs m.f.c.sh m.f.ns m.P) hX hx hnx h1 hY hy hny=>QM W gn m.f.gs m.f.c.sh nx cx ny cy m.f.p m.f.ns X Y m.P xs ys hN hX hx hnx h1 hY hy hny ho.f.pn)
 have HEX:Hid (∀ e∈m.micro x.n,e.1.length=na/\e.2.length=nz/\In64 e.1):=K1 (fun e he=>by
  obtain ⟨z,hz,rfl⟩:=RO (fun j hj=>by rw [ho.f.xs];exact hmlt j hj) e he;obtain ⟨e1,e2,e3,_⟩:=hexs z hz
  exact ⟨e1,e2,e3⟩)
 have HNA:=K1 (Abx hna hnz);generalize hjs:Ci m.f.ds m.f.n m.f.c.ba m.t m.f.u m.f.c.k x.n m.f.c.mi=js at *;have HGl:=K1 (fun (l:List (List Int × List Int))=>(Gu m.f.ns m.f.c.sh m.P m.f.p l m.G).trans hG);have HGs:=K1 (fun e l=>Jw m.f.ns m.f.c.sh m.P m.f.p e l m.G);have HG0:=K1 (show BH m.f.ns m.f.c.sh m.P m.f.p [] m.G=m.G from rfl);have hm0:=((h.alloc (.cells x.cells.toArray 146)).fA.alloc (.cells #[vi,vo] 313)).fA;simp only [Abs] at hm0;have HM:=K1 hm0;have hjl:js.length<=1000:=by omega
 have hpb:m.f.p<=60:=hp60.2;clear hm0 h ho hG hjs hml hmlt hexs hna hnz hn1 hba hkk hsh hxn hp60;obtain ⟨kd,st,n,ac⟩:=x;dsimp only at *;subst hxs;go_enter Tryz.func199,Tryz.ntmps199;go_wp2_with fail;refine A9 fun W0 hW=>?_;replace HM:=K1 (hW.out.symm ▸ HM.out);clear hW;refine AC (.reads [0,1,2,3,4,5,6,7,8,9,10,11,12,13,14,15] (.eff 16 (.reads [17,18,19,20,21] .fin))) 22 (fun W'=>W'.cell? ⟨m.f.g,3,none⟩=some (.pointer (some ⟨m.f.gs,0,none⟩))/\W'.cell? ⟨m.f.g,11,none⟩=some (Us (some ⟨m.gP,0,none⟩) m.f.p m.cP)/\W'.cell? ⟨m.f.g,10,none⟩=some (U O m.f.c.sh)) ?_;replace HM:=K1 HM.out.drew
 generalize W0.drew=V at *;refine Abr (⟨Af (HM.out.obj 0 rfl) 3,Af (HM.out.obj 0 rfl) 11,Af (HM.out.obj 0 rfl) 10⟩) ?_;refine Abp ?_;go_wp2_with fail;have hfh:m.f.fhi<=V.heap.size:=DL (HM.out.holds 13 _ rfl) (HM.out.st 13 rfl).in_;refine (CN.out _ (HM.out.st 13 rfl) hfh (AJ (HM.out.own 2 rfl))).mono ?_;rintro e w3 ⟨gn,rfl,hnet,hb⟩;replace HM:=K1 ((HM.out.pushNet hb hnet (i:=13) rfl).fA);generalize V.heap.size=nlo at *;generalize w3.heap.size=nhi at *;clear hnet hb CN hfh;go_wp2_with fail;refine Abq (⟨Af (HM.out.obj 0 rfl) 3,Af (HM.out.obj 0 rfl) 11,Af (HM.out.obj 0 rfl) 10⟩) ?_
 refine PlS.rc_ (⟨Af (HM.out.obj 0 rfl) 3,Af (HM.out.obj 0 rfl) 11,Af (HM.out.obj 0 rfl) 10⟩) ?_;refine Abt ?_;go_wp2_with fail;refine A9 fun W4 hW=>?_;replace HM:=K1 (hW.out.symm ▸ HM.out);clear hW
 refine AC (.reads [0,1,2,3,4,5,6,7,8,9,10,11,12,13,14,15,16,17,18,19,20,21,22,23,24,25,26,27,28] (.eff 29 (.eff 30 (.reads [31,32,33,34,35] .fin)))) 36 (fun W'=>W'.cell? ⟨m.f.g,4,none⟩=some (Us m.f.Ax m.f.n m.f.cx)/\W'.cell? ⟨m.f.g,5,none⟩=some (.pointer (some ⟨m.f.gb,0,none⟩))/\W'.cell? ⟨m.f.g,0,none⟩=some (U O m.f.u)/\W'.cell? ⟨m.f.g,1,none⟩=some (U O m.f.c.k)/\W'.cell? ⟨m.f.g,2,none⟩=some (U O m.f.c.mi)/\W'.cell? ⟨w.heap.size,1,none⟩=some (U O m.t)/\W'.cell? ⟨w.heap.size,2,none⟩=some (U O n)) ?_;replace HM:=K1 HM.out.drew;generalize W4.drew=V4 at *
 refine Abr (⟨Af (HM.out.obj 0 rfl) 4,Af (HM.out.obj 0 rfl) 5,Af (HM.out.obj 0 rfl) 0,Af (HM.out.obj 0 rfl) 1,Af (HM.out.obj 0 rfl) 2,HM.out.cells 14 rfl 1,HM.out.cells 14 rfl 2⟩) ?_;refine Abp ?_;go_wp2_with fail;have hsh:m.f.shi<=V4.heap.size:=DL (HM.out.holds 12 _ rfl) (HM.out.st 12 rfl).in_;refine (CM.out _ (HM.out.st 12 rfl) hsh).mono ?_;rintro e w5 ⟨Aj,cj,rfl,hoj,hb⟩;replace HM:=K1 ((HM.out.push_rd hb (AJ hoj) (AF hoj)).fA);clear hoj hb CM hsh;go_wp2_with fail
 refine Abq (⟨Af (HM.out.obj 0 rfl) 4,Af (HM.out.obj 0 rfl) 5,Af (HM.out.obj 0 rfl) 0,Af (HM.out.obj 0 rfl) 1,Af (HM.out.obj 0 rfl) 2,HM.out.cells 14 rfl 1,HM.out.cells 14 rfl 2⟩) ?_;refine Abp ?_;go_wp2_with fail;refine (CP.out _ _ _ (HM.out.rd 9 rfl) (HM.out.st 10 rfl) (HM.out.rd 17 rfl)).mono ?_;rintro e w6 ⟨Ae,ce,es,rfl,hes,hef,hme⟩
 replace HM:=K1 ((((HM.out.join hme (fun c hc hm g hg=>by
  simp only [List.mem_cons,Ab5,or_false] at hc
  rcases hc with rfl | rfl
  . exact absurd trivial hm
  . obtain ⟨a,ha,_,p,hp,rfl⟩:=hg
    exact hef a ha p hp)).fB.freeze (i:=18) rfl).fS rfl))
 rw [<- HMI.out] at hes;have HES:=K1 hes
 have hel:es.length=js.length:=by
  have h1:=congrArg List.length hes;rw [HMI.out] at h1
  simpa [exAt] using h1
 have HEL:=K1 hel;clear hes hef hme CP hel;go_wp2_with fail;refine Abq (⟨Af (HM.out.obj 0 rfl) 4,Af (HM.out.obj 0 rfl) 5,Af (HM.out.obj 0 rfl) 0,Af (HM.out.obj 0 rfl) 1,Af (HM.out.obj 0 rfl) 2,HM.out.cells 14 rfl 1,HM.out.cells 14 rfl 2⟩) ?_;refine PlS.rc_ (⟨Af (HM.out.obj 0 rfl) 4,Af (HM.out.obj 0 rfl) 5,Af (HM.out.obj 0 rfl) 0,Af (HM.out.obj 0 rfl) 1,Af (HM.out.obj 0 rfl) 2,HM.out.cells 14 rfl 1,HM.out.cells 14 rfl 2⟩) ?_;refine Abt ?_;go_wp2_with fail
 have HM0:Hid (∃ W,W=w6/\Mem W ((({ m with G:=m.G }:Mc).ps++[.obj w.heap.size (.cells (It.cells ⟨kd,m.t,n,ac⟩).toArray 146 (0,0)),.obj (w.heap.size+1) (.cells #[vi,vo] 313 (0,0)),Gm nlo nhi m.f.flo m.f.fhi gn m.f.gs m.f.c.sh m.f.ns m.P,.rd Aj (Ah js),.rd Ae (Bi es),AD (Bf es)])++R)):=K1 ⟨_,rfl,HM.out⟩
 go_loopw [71] (fun i wr=>∃ k:Nat,k<=js.length/\i=U O k/\Hid (Mem wr ((({ m with G:=BH m.f.ns m.f.c.sh m.P m.f.p ((m.micro n).take k) m.G }:Mc).ps++[.obj w.heap.size (.cells (It.cells ⟨kd,m.t,n,ac⟩).toArray 146 (0,0)),.obj (w.heap.size+1) (.cells #[vi,vo] 313 (0,0)),Gm nlo nhi m.f.flo m.f.fhi gn m.f.gs m.f.c.sh m.f.ns m.P,.rd Aj (Ah js),.rd Ae (Bi es),AD (Bf es)])++R))) (fun i _=>js.length-(intOf i).toNat)
 case atStart =>
  refine ⟨0,Nat.zero_le _,rfl,K1 ?_⟩;rw [List.take_zero,HG0.out];exact HM.out
 case round =>
  clear HM HM0;obtain ⟨k,hk,rfl,HMk⟩:=hrel
  by_cases hlt:k<js.length
  . obtain ⟨e,he⟩:=Au es k (by rw [HEL.out];exact hlt);have hem:=Abw he;have hmk:(m.micro n)[k]?=some e.nums:=by rw [<- HES.out,List.getElem?_map,he];rfl
    obtain ⟨b,off,rfl⟩:=HMk.out.rdA (i:=18) rfl (by rw [Er,HEL.out];omega);have HX:=K1 (HEX.out _ (Abw hmk));have HT:=K1 (show (m.micro n).take (k+1)=(m.micro n).take k++[e.nums] by rw [List.take_add_one,hmk];rfl);have ⟨e3,e4⟩:=HMk.out.ex2 18 rfl he;have HFm:=K1 (Abx (Gh hem) (Ia hem));obtain ⟨ax,xs,cx,ay,ys,cy⟩:=e;dsimp only [Ex.nums] at HX HT HFm e3 e4;have HM1:=K1 ((HMk.out.alloc (.cells #[Us ax xs.length cx,Us ay ys.length cy] 140)).fA);have c20:=HM1.out.cells 20 rfl;have HGk:=K1 (HGl.out ((m.micro n).take k));have HGn:=K1 (HGs.out (xs,ys) ((m.micro n).take k));dsimp only at HGn
    generalize hGk:BH m.f.ns m.f.c.sh m.P m.f.p ((m.micro n).take k) m.G=Gk at *;clear HMk he hem hmk hGk;go_wp2_with fail;refine Dw fun W0 hW0=>?_;replace HM1:=K1 (HM1.out.inW hW0.out);clear hW0 e3 e4 c20;refine (CG.out _ _ _ _ _ _ _ _ _ _ (HM1.out.st 16 rfl).in_ (HM1.out.st 19 rfl _ HFm.out.1) rfl (by rw [HX.out.1];exact HNA.out.1) HX.out.2.2 (HM1.out.st 19 rfl _ HFm.out.2) rfl (by rw [HX.out.2.1];exact HNA.out.2)).mono ?_;rintro e w8 ⟨gz,rfl,hoz,hb⟩;have HGL:=K1 (show (DX m.f.ns m.P m.f.c.sh xs ys).length=m.f.p by have:=hoz.1;simpa using this)
    replace HM1:=K1 ((HM1.out.push_rd hb (AJ hoz) (AF hoz)).fA);clear hoz hb;have c0:=(Af (HM1.out.obj 0 rfl) 13).trans (show _=some (Us (some ⟨m.gG,0,none⟩) m.f.p m.f.p) from rfl);go_wp2_with fail;refine (Hk _ _ HM1.out 1 21 m.BG m.f.p m.f.p 0 m.f.p m.f.p m.f.p (some ⟨m.gG,0,none⟩) _ _ Gk (DX m.f.ns m.P m.f.c.sh xs ys) rfl rfl ?_ ?_ HGk.out (fun _=>by rw [Ab1,Cg]) (Abv _) (Abv _) (by omega)).mono ?_
    . exact HGL.out
    . rw [HGk.out];omega
    rintro e w9 ⟨rfl,hm9⟩;rw [<- HGn.out] at hm9;have HM2:=K1 (Abu (hm9.fS rfl) (show _=((({ m with G:=BH m.f.ns m.f.c.sh m.P m.f.p ((m.micro n).take k++[(xs,ys)]) m.G }:Mc).ps++[.obj w.heap.size (.cells (It.cells ⟨kd,m.t,n,ac⟩).toArray 146 (0,0)),.obj (w.heap.size+1) (.cells #[vi,vo] 313 (0,0)),Gm nlo nhi m.f.flo m.f.fhi gn m.f.gs m.f.c.sh m.f.ns m.P,.rd Aj (Ah js),.rd (some ⟨b,off,none⟩) (Bi es),AD (Bf es)])++[_,_])++R from rfl));clear hm9 HM1 c0;go_wp2_with fail;go_roundw
    case rel =>
     refine ⟨k+1,by omega,by go_num,K1 ?_⟩;rw [HT.out];exact HM2.out.mid
    case measure=>simp [intOf];omega
  . have hkn:k=js.length:=by omega
    have HF:=K1 HMk.out;clear HMk;go_wp2_with fail;go_ret;refine ⟨rfl,?_⟩;rw [List.take_of_length_le (by have h1:=congrArg List.length HES.out;rw [List.length_map,HEL.out] at h1;omega)] at HF;exact HF.out.mid
theorem RQ (w:World) (m:Mc) (R:List Ch) (h:Mem w (m.ps++R)) (ho:m.Ok) (x:It) (hb:m.cnt<=1000000) (vi vo:Value) :
  Calls Tryz.prog 204 #[.pointer (some ⟨m.f.g,0,none⟩),.agg x.cells.toArray,.agg #[vi,vo]] w fun e w'=>e=.returned (U O 0)/\∃ A' c' Ap cp Am cm,Mem w' (({ m with Ar:=A',cr:=c',rcd:=m.rcd++[⟨Ap,m.P,cp,Am,m.M,cm⟩],G:=AE m.f.p }:Mc).ps++R):=by
 have hG:=ho.G.1;have hp60:=ho.f.p;have hrl:=ho.recs;have hPl:=ho.P.1;have hMl:=ho.M.1;have CS:=K1 (fun (W:World) hA hB=>Jl W (some ⟨m.gP,0,none⟩) (some ⟨m.gM,0,none⟩) m.f.p m.cP m.cM m.P m.M hA hB ho.P.1 ho.M.1 (by omega));have HE:=K1 (fun (e:Ex)=>Abx (Ft m.rcd e) (H9 m.rcd e));have HZ:=K1 (RM m.f.p m.G hG);have HPL:=K1 (Abx hPl hMl);have CZ:=K1 (fun (W:World) (L:List Ch) (hM:Mem W L) h1=>Mh (P:=Tryz.prog) 87 2 0 .i64 Tryz.underlying87 Tryz.zeroValue2 hM 1 (base:=m.BG) (N:=m.f.p) (C:=m.f.p) (g:=m.gG) (lo:=0) (n:=m.f.p) (xs:=zC m.G) h1 (by omega) (by omega) m.f.p)
 have hm0:=((h.alloc (.cells x.cells.toArray 146)).fA.alloc (.cells #[vi,vo] 313)).fA;simp only [Abs] at hm0;have HM:=K1 hm0;have hrb:m.rcd.length<=1000001:=by omega
 clear hm0 h ho hG hPl hMl hrl;go_enter Tryz.func204,Tryz.ntmps204;go_wp2_with fail;refine A9 fun W0 hW=>?_;replace HM:=K1 (hW.out.symm ▸ HM.out);clear hW;refine AC (.reads [0,1,2,3,4,5,6,7,8] (.eff 9 (.eff 10 (.eff 11 (.eff 12 (.reads [13] (.eff 14 .fin))))))) 14 (fun W'=>W'.cell? ⟨m.f.g,11,none⟩=some (Us (some ⟨m.gP,0,none⟩) m.f.p m.cP)/\W'.cell? ⟨m.f.g,12,none⟩=some (Us (some ⟨m.gM,0,none⟩) m.f.p m.cM)/\W'.cell? ⟨m.f.g,14,none⟩=some (Us m.Ar m.rcd.length m.cr)) ?_;replace HM:=K1 HM.out.drew;generalize W0.drew=V at *
 refine Abr (⟨Af (HM.out.obj 0 rfl) 11,Af (HM.out.obj 0 rfl) 12,Af (HM.out.obj 0 rfl) 14⟩) ?_;refine Abp ?_;go_wp2_with fail;refine (CS.out _ (AJ (HM.out.own 2 rfl)) (AJ (HM.out.own 3 rfl))).mono ?_;rintro e w3 ⟨Ap,cp,Am,cm,rfl,hm3⟩
 replace HM:=K1 ((((HM.out.join hm3 (fun c hc hm=>by
  simp only [List.mem_cons,Ab5,or_false] at hc
  rcases hc with rfl | rfl <;> exact absurd trivial hm)).fB.freeze (i:=16) rfl).fS rfl |>.freeze (i:=17) rfl).fS rfl)
 clear hm3 CS;go_wp2_with fail;refine Abq (⟨Af (HM.out.obj 0 rfl) 11,Af (HM.out.obj 0 rfl) 12,Af (HM.out.obj 0 rfl) 14⟩) ?_;refine Abp ?_;replace HM:=K1 ((HM.out.alloc (.cells #[Us Ap m.f.p cp,Us Am m.f.p cm] 89)).fA);go_wp2_with fail;refine Abq (⟨Af (HM.out.obj 0 rfl) 11,Af (HM.out.obj 0 rfl) 12,Af (HM.out.obj 0 rfl) 14⟩) ?_;refine Abp ?_;refine AQ (n:=m.rcd.length) rfl _ _ 85 rfl HM.out 4 Mn rfl rfl _ 1 _ [Us Ap m.f.p cp,Us Am m.f.p cm] rfl (HM.out.box 18 rfl) rfl (by intro u hu;simp at hu;rcases hu with rfl | rfl <;> rfl) (by omega) ?_;intro A' c' W5 hm5
 have HM5:=K1 ((((hm5.fS rfl).famSnoc (i:=5) (j:=16) rfl rfl).fS rfl |>.famSnoc (i:=5) (j:=17) rfl rfl).fS rfl);clear hm5 HM;go_wp2_with fail;refine Abq (⟨Af (HM5.out.obj 0 rfl) 11,Af (HM5.out.obj 0 rfl) 12,Af (HM5.out.obj 0 rfl) 14⟩) ?_;refine Abp ?_;go_wp2_with fail;refine Abq (⟨Af (HM5.out.obj 0 rfl) 11,Af (HM5.out.obj 0 rfl) 12,Af (HM5.out.obj 0 rfl) 14⟩) ?_;refine Abr (⟨Af (HM5.out.obj 0 rfl) 11,Af (HM5.out.obj 0 rfl) 12,Af (HM5.out.obj 0 rfl) 14⟩) ?_;refine Abp ?_;have c0:=(Af (HM5.out.obj 0 rfl) 14).trans (show _=some (Us m.Ar m.rcd.length m.cr) from rfl)
 have f0:=fun j=>HM5.out.frozen 0 j rfl
 have HM6:=K1 ((HM5.out.set (i:=0) (j:=14) rfl (Us A' (m.rcd.length+1) c')).fS rfl);clear HM5;go_wp2_with fail;refine After.last (by decide) (Abt ?_);clear c0 f0;have c0:=(Af (HM6.out.obj 0 rfl) 13).trans (show _=some (Us (some ⟨m.gG,0,none⟩) m.f.p m.f.p) from rfl);obtain ⟨w7,hrun,hm7⟩:=CZ.out _ _ HM6.out rfl;rw [HZ.out] at hm7;have HF:=K1 hm7;clear hm7 CZ HM6;go_wp2_with fail;go_ret;refine ⟨rfl,A',c',Ap,cp,Am,cm,?_⟩
 have h9:=Abu HF.out (show _=(({ m with Ar:=A',cr:=c',rcd:=m.rcd++[⟨Ap,m.P,cp,Am,m.M,cm⟩],G:=AE m.f.p }:Mc).ps++[_,_,_,_,_])++R by simp only [Mc.ps,Mc.cells,Ab2,Ab3,(HE.out _).1,(HE.out _).2,HPL.out.1,HPL.out.2];rfl);exact h9.mid
theorem Mr (P:Program) (w:World) (a:Addr) (m:Mode):(store a .nilFunc m).run P w=stored P w a .nilFunc m:=run_store P w a _ m rfl
attribute [local go_sem] IK Mr
theorem RR (w:World) :
  Calls Tryz.prog 198 #[] w fun e w'=>e=.returned (.agg #[.nilFunc,.func (.func 199) #[] #[],.func (.func 200) #[] #[],.func (.func 201) #[] #[],.func (.func 202) #[] #[],.func (.func 203) #[] #[],.func (.func 204) #[] #[]])/\Below w.heap.size w w':=by
 have HF:=K1 ((Mem.start w).alloc (.cells #[.nilFunc,.func (.func 199) #[] #[],.func (.func 200) #[] #[],.func (.func 201) #[] #[],.func (.func 202) #[] #[],.func (.func 203) #[] #[],.func (.func 204) #[] #[]] 308));have c1:=HF.out.cells 1 rfl;go_enter Tryz.func198,Tryz.ntmps198;go_wp2_with fail;refine bodyPost_ret (v:=.agg #[.nilFunc,.func (.func 199) #[] #[],.func (.func 200) #[] #[],.func (.func 201) #[] #[],.func (.func 202) #[] #[],.func (.func 203) #[] #[],.func (.func 204) #[] #[]]) ?_ rfl ⟨rfl,HF.out.bel 0 rfl⟩;simp [results,Tryz.results198,go_sem,c1]
end
section
theorem RS:(Tryz.prog.info? 72).map (fun i=>(i.zero,i.size,i.bytes))=some (some (.agg #[U O 0,U O 0]),2,16):=by kernel_rfl
theorem Gv:RowT Tryz.prog 192 72 2 16:=by
 obtain ⟨i0,hi,hz0,hz1,hz2⟩:=info_parts RS;exact ⟨i0,_,Tryz.underlying192,hi,hz0,hz1,hz2,rfl,by decide,by decide⟩
def rrO (base n c:Nat) (A:Option Addr) (l:List (Nat × Nat)):Ch:=.own base 72 2 (Us A n c) n (rcells l)
theorem RT {n s k:Nat} (hs:1<=s) (h:k<pcnt n s):((k+1)*s<n->k+1<pcnt n s)/\(n<=(k+1)*s->k+1=pcnt n s):=by
 have h0:=EB hs h;have hn:¬ n=0:=by omega
 unfold pcnt at h ⊢;rw [if_neg hn] at h ⊢;refine ⟨fun h1=>?_,fun h1=>?_⟩
 . have:k+1<=(n-1) / s:=(Nat.le_div_iff_mul_le (by omega)).2 (by omega);omega
 . have:(n-1) / s<k+1:=(Nat.div_lt_iff_lt_mul (by omega)).2 (by omega);omega
theorem Jx (n s:Nat) (w:World) (hn:n<=1000000) (hs:1<=s/\s<=1048576) :
  Calls Tryz.prog 132 #[U O n,U O s] w fun e w'=>∃ A c,e=.returned (Us A (Bd n s).length c)/\(Bd n s).length<=c/\Mem w' [.bel w.heap.size w,rrO w.heap.size (Bd n s).length c A (Bd n s)]:=by
 have HM0:=K1 ((Mem.start w).add (c:=rrO w.heap.size 0 0 none []) ⟨Bh _ _ _ _,Abv _⟩ (fun _ _ _ _ g hg=>by cases hg))
 rcases Ab6 n with h0 | h0
 . subst h0;have HE:=K1 (show Bd 0 s=[] from rfl);go_enter Tryz.func132,Tryz.ntmps132;go_wp2_with fail;go_ret;rw [HE.out];exact ⟨none,0,rfl,Abv _,HM0.out⟩
 . have hn1:¬ n<1:=by omega
   have hs1:¬ s<1:=by omega
   have HN:=K1 (fun k=>RT (n:=n) (k:=k) hs.1);have HL:=K1 (fun k (hk:k<pcnt n s)=>EB hs.1 hk);have HB:=K1 (DN n s);have HB2:=K1 (show Bd n s=(Abz (pcnt n s)).map (blk1 n s) from rfl);have hp0:0<pcnt n s:=by unfold pcnt;rw [if_neg (by omega)];exact Nat.succ_pos _
   have hpn:=Cm n s
   obtain ⟨c0,hc0⟩:∃ c0,c0=pcnt n s:=⟨_,rfl⟩
   rw [<- hc0] at HN HL HB HB2 hp0 hpn;clear hc0;go_enter Tryz.func132,Tryz.ntmps132;go_wp2_with fail
   go_loopw [5,6] (fun s5 s6 wr=>∃ (k x:Nat) (A:Option Addr) (c:Nat),((k<c0/\x=k*s)\/(k=c0/\x=n))/\x<=n/\s5=Us A k c/\s6=U O x/\Hid (Mem wr [.bel w.heap.size w,rrO w.heap.size k c A ((Abz k).map (blk1 n s))])) (fun _ s6 _=>n-(intOf s6).toNat)
   case atStart=>exact ⟨0,0,none,0,.inl ⟨hp0,by omega⟩,Nat.zero_le _,rfl,rfl,HM0⟩
   case round =>
    clear HM0;obtain ⟨k,x,A,c,hkx,hxn,rfl,rfl,HM⟩:=hrel
    rcases hkx with ⟨hk,hx⟩ | ⟨hk,hx⟩
    . have hlt:x<n:=by rw [hx];exact HL.out k hk
      obtain ⟨y,hy⟩:∃ y,y=x+min s (n-x):=⟨_,rfl⟩
      have HY:=K1 (show (Abz (k+1)).map (blk1 n s)=(Abz k).map (blk1 n s)++[(x,y)] by
       rw [I5,show blk1 n s k=(x,y) by unfold blk1;rw [<- hx,<- hy]])
      have hxy:x<y:=by omega
      have hyn:y<=n:=by omega
      have HK:Hid ((k+1<c0/\y=(k+1)*s)\/(k+1=c0/\y=n)):=K1 (by
       have h1:=HN.out k hk;rw [Nat.succ_mul,<- hx] at h1 ⊢
       rcases Nat.lt_or_ge (x+s) n with h2 | h2
       . exact .inl ⟨h1.1 h2,by omega⟩
       . exact .inr ⟨h1.2 h2,by omega⟩)
      have HM3:=K1 (HM.out.alloc (.cells #[U O x,U O y] 72));have hkb:k<=1000000:=by omega
      have HX:=K1 hx;clear hx HM
      by_cases hsn:(s:Int)<(n:Int)-(x:Int)
      . have e2:(x:Int)+(s:Int)=(y:Int):=by omega
        have wy:IntKind.i64.wrap (y:Int)=(y:Int):=Ab7 _ (by omega);clear hy
        go_wp2_with (at_builtin;refine AQ (n:=k) rfl _ _ 192 rfl HM3.out 1 Gv rfl rfl _ 1 _ [U O x,U O y] rfl (HM3.out.box 2 rfl) rfl (by intro u hu;simp at hu;rcases hu with rfl | rfl <;> rfl) (by omega) ?_;intro A' c' W4 hM4)
        have HM5:=K1 (hM4.front 2);clear hM4 HM3;go_wp2_with fail;go_roundw
        case rel =>
         refine ⟨k+1,y,A',c',HK.out,hyn,rfl,rfl,?_⟩;rw [HY.out];unfold rrO;rw [EX];exact HM5
        case measure=>simp [intOf];omega
      . have hyn2:n=y:=by omega
        have HYN:=K1 hyn2;have hsn2:(n:Int)-(x:Int)<=(s:Int):=by omega
        rw [<- hyn2] at HM3;clear hy hyn2
        go_wp2_with (at_builtin;refine AQ (n:=k) rfl _ _ 192 rfl HM3.out 1 Gv rfl rfl _ 1 _ [U O x,U O n] rfl (HM3.out.box 2 rfl) rfl (by intro u hu;simp at hu;rcases hu with rfl | rfl <;> rfl) (by omega) ?_;intro A' c' W4 hM4)
        have HM5:=K1 (hM4.front 2);clear hM4 HM3;go_wp2_with fail;go_roundw
        case rel =>
         refine ⟨k+1,n,A',c',?_,Abv _,rfl,rfl,?_⟩
         . have:=HK.out;rw [<- HYN.out] at this;exact this
         . rw [HY.out,<- HYN.out];unfold rrO;rw [EX];exact HM5
        case measure=>simp [intOf];omega
    . subst hk;have hnn:¬ x<n:=by omega
      have HF:=K1 HM.out;clear HM;go_wp2_with fail;go_ret;rw [HB.out];refine ⟨A,c,rfl,Be (HF.out.own 1 rfl),?_⟩;rw [HB2.out];exact HF.out
theorem RU (n s:Nat) (w:World) (hn:n<=1000000) (hs:1<=s/\s<=1048576) :
  Calls Tryz.prog 92 #[U O n,U O s] w fun e w'=>∃ A c,e=.returned (Us A (Bd n s).length c)/\(Bd n s).length<=c/\Mem w' [.bel w.heap.size w,rrO w.heap.size (Bd n s).length c A (Bd n s)]:=by
 have CB:=K1 (Jx n s w hn hs);go_enter Tryz.func92,Tryz.ntmps92;go_wp2_with fail;refine CB.out.mono ?_;rintro e w1 ⟨A,c,rfl,h1,h2⟩;have H:=K1 (Abx h1 h2);clear h1 h2 CB;go_wp2_with fail;go_ret;exact ⟨A,c,rfl,H.out.1,H.out.2⟩
theorem RV (n s:Nat) (w:World) (hn:n<=1000000) (hs:1<=s/\s<=1048576) :
  Calls Tryz.prog 133 #[U O n,U O s] w fun e w'=>∃ A c,e=.returned (Us A (Cw n s).length c)/\(Cw n s).length<=c/\Mem w' [.bel w.heap.size w,rrO w.heap.size (Cw n s).length c A (Cw n s)]:=by
 have CB:=K1 (Jx n s w hn hs);have HE:=K1 (show Cw n s=(Bd n s).reverse from rfl);have hlb:(Bd n s).length<=1000000:=by rw [DN];have:=Cm n s;omega
 generalize Bd n s=l at *
 obtain ⟨len,hlen⟩:∃ len,len=l.length:=⟨_,rfl⟩
 rw [<- hlen] at CB hlb;have HL:=K1 hlen;clear hlen;go_enter Tryz.func133,Tryz.ntmps133;go_wp2_with fail;refine CB.out.mono ?_;rintro e w1 ⟨A0,cA,rfl,hcA,hm⟩;have HM0:=K1 ((hm.freeze (i:=1) rfl).add (c:=rrO w.heap.size 0 0 none []) ⟨Bh _ _ _ _,(hm.bel 0 rfl).size⟩ (fun _ _ _ _ g hg=>by cases hg));clear hm CB;have hl1:IntKind.i64.wrap ((len:Int)-1)=(len:Int)-1:=Ab7 _ (by omega);go_wp2_with fail
 go_loopw [6,7] (fun s6 s7 wr=>∃ (j q:Nat) (A:Option Addr) (c:Nat),q+j=len/\s6=Us A q c/\s7=U O ((j:Int)-1)/\Hid (Mem wr [.bel w.heap.size w,.rd A0 (rcells l),rrO w.heap.size q c A (l.drop j).reverse])) (fun _ s7 _=>(intOf s7+1).toNat)
 case atStart =>
  refine ⟨len,0,none,0,by omega,rfl,rfl,?_⟩;rw [List.drop_of_length_le (by rw [HL.out];exact Abv _)];exact HM0
 case round =>
  clear HM0 hl1;obtain ⟨j,q,A,c,hq,rfl,rfl,HM⟩:=hrel
  rcases Ab6 j with hj | hj
  . subst hj;have hneg:¬ (0:Int)<=((0:Nat):Int)-1:=by omega
    have HF:=K1 HM.out;have HQ:=K1 hq;clear HM hq;go_wp2_with fail;go_ret;have e1:q=len:=by have:=HQ.out;omega
    rw [HE.out,List.length_reverse,<- HL.out,<- e1];exact ⟨A,c,rfl,Be (HF.out.own 2 rfl),HF.out.pick [0,2] _ rfl (by decide)⟩
  . obtain ⟨d,hd⟩:∃ d,j=d+1:=⟨j-1,by omega⟩
    have hjd:(j:Int)-1=(d:Int):=by omega
    obtain ⟨⟨x,y⟩,hxy⟩:=Au l d (by have:=HL.out;omega);obtain ⟨b,off,rfl,hx⟩:=HM.out.ranges 1 rfl (by have:=HL.out;omega);have ⟨e1,e2⟩:=hx d (x,y) hxy
    have HDr:=K1 (show (l.drop d).reverse=(l.drop j).reverse++[(x,y)] by
     rw [hd,List.drop_eq_getElem_cons (by have:=(List.getElem?_eq_some_iff.1 hxy).1;exact this),List.reverse_cons];have:=(List.getElem?_eq_some_iff.1 hxy).2
     rw [this])
    have HM3:=K1 (HM.out.alloc (.cells #[U O x,U O y] 72));have hdl:d<len:=by omega
    have HQ:=K1 (show q+1+d=len by omega);have hqb:q<=1000000:=by omega
    clear hx hxy hd hq HM
    go_wp2_with (at_builtin;refine AQ (n:=q) rfl _ _ 192 rfl HM3.out 2 Gv rfl rfl _ 1 _ [U O x,U O y] rfl (HM3.out.box 3 rfl) rfl (by intro u hu;simp at hu;rcases hu with rfl | rfl <;> rfl) (by omega) ?_;intro A' c' W4 hM4)
    have HM5:=K1 (hM4.front 3);clear hM4 HM3 e1 e2;go_wp2_with fail;go_roundw
    case rel =>
     refine ⟨d,q+1,A',c',HQ.out,rfl,by go_num,?_⟩;rw [HDr.out];unfold rrO;rw [EX];exact HM5
    case measure=>simp [intOf];omega
end
end Go.Proofs.YtdpojpcoghcieaaGreat
