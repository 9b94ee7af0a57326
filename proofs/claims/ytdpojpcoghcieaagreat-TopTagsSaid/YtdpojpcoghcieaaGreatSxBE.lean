/- A part of the proof of TopTags: MachDo, RefShift. Conditions: none. -/
import Derived.Test.YtdpojpcoghcieaaGreatSxAZ
set_option maxHeartbeats 8000000
set_option linter.all false
namespace Go.Proofs.YtdpojpcoghcieaaGreat
open Lib renaming hid → K1
open Go.RowKit
set_option maxRecDepth 100000
open Value renaming int → U
open IntKind renaming i64 → O
open PlS renaming ef_ → Ady, rd_ → Ad0, fin_ → Ad1, two_ → Ad5
open After renaming go → Adz
open World renaming setCells → Ad2
open Nat renaming reduceAdd → Ad3, zero_add → Ad4, le_refl → Ad8
open List renaming append_assoc → Ad6
open IntWalk renaming i64_in → Ad7
open And renaming intro → Ad9
section
attribute [local go_sem] IK Mr
def Dg:Nat->FuncId
 | 1=>199
 | 2=>200
 | 3=>201
 | 4=>202
 | 5=>203
 | _=>204
theorem S7 (W:World):(Instr.index 308 (.agg #[.nilFunc,.func (.func 199) #[] #[],.func (.func 200) #[] #[],.func (.func 201) #[] #[],.func (.func 202) #[] #[],.func (.func 203) #[] #[],.func (.func 204) #[] #[]]) (U O 1)).run Tryz.prog W=.ok (.func (.func 199) #[] #[]) W:=by kernel_rfl
theorem S8 (W:World):(Instr.index 308 (.agg #[.nilFunc,.func (.func 199) #[] #[],.func (.func 200) #[] #[],.func (.func 201) #[] #[],.func (.func 202) #[] #[],.func (.func 203) #[] #[],.func (.func 204) #[] #[]]) (U O 2)).run Tryz.prog W=.ok (.func (.func 200) #[] #[]) W:=by kernel_rfl
theorem S9 (W:World):(Instr.index 308 (.agg #[.nilFunc,.func (.func 199) #[] #[],.func (.func 200) #[] #[],.func (.func 201) #[] #[],.func (.func 202) #[] #[],.func (.func 203) #[] #[],.func (.func 204) #[] #[]]) (U O 3)).run Tryz.prog W=.ok (.func (.func 201) #[] #[]) W:=by kernel_rfl
theorem SC (W:World):(Instr.index 308 (.agg #[.nilFunc,.func (.func 199) #[] #[],.func (.func 200) #[] #[],.func (.func 201) #[] #[],.func (.func 202) #[] #[],.func (.func 203) #[] #[],.func (.func 204) #[] #[]]) (U O 4)).run Tryz.prog W=.ok (.func (.func 202) #[] #[]) W:=by kernel_rfl
theorem SD (W:World):(Instr.index 308 (.agg #[.nilFunc,.func (.func 199) #[] #[],.func (.func 200) #[] #[],.func (.func 201) #[] #[],.func (.func 202) #[] #[],.func (.func 203) #[] #[],.func (.func 204) #[] #[]]) (U O 5)).run Tryz.prog W=.ok (.func (.func 203) #[] #[]) W:=by kernel_rfl
theorem SE (W:World):(Instr.index 308 (.agg #[.nilFunc,.func (.func 199) #[] #[],.func (.func 200) #[] #[],.func (.func 201) #[] #[],.func (.func 202) #[] #[],.func (.func 203) #[] #[],.func (.func 204) #[] #[]]) (U O 6)).run Tryz.prog W=.ok (.func (.func 204) #[] #[]) W:=by kernel_rfl
def Mc.step (m:Mc) (Ai:Option Addr) (ci:Nat):Mc :=
 if m.next+1=m.its.length then { m with cnt:=m.cnt+1,next:=0,t:=m.t+1,Ai:=Ai,ci:=ci } else { m with cnt:=m.cnt+1,next:=m.next+1 }
theorem SF (f:Mf) (hf:f.Ok) (t:Nat) (W:World) (hP:Cx W f.plo f.phi f.gp f.c f.p) (hh:f.phi<=W.heap.size) :
  Calls Tryz.prog 69 #[.pointer (some ⟨f.gp,0,none⟩),U O f.u,U O t] W fun e w'=>∃ A cc,e=.returned (.slice A (Bo f t).length cc)/\(Bo f t).length<=cc/\Rd w' w'.heap.size A (icells (Bo f t))/\(∀ p:Addr,A=some p->W.heap.size<=p.block)/\Below W.heap.size W w':=by
 unfold Bo
 by_cases ht:t<f.c.st
 . rw [if_pos ht];refine (KQ W f.plo f.phi f.gp f.c f.p f.u t hP hh hf.c hf.p.2 hf.u ht).mono ?_;rintro e w' ⟨A,cc,rfl,ho,hb⟩;exact ⟨A,cc,rfl,Be ho,AJ ho,AF ho,hb⟩
 . rw [if_neg ht];refine (KS W f.plo f.phi f.gp f.c f.p f.u t hP hh hf.u (by omega)).mono ?_;rintro e w' ⟨rfl,rfl⟩;exact ⟨none,0,rfl,Ad8 _,Rd.nil_ _ _ _,fun p hp=>(by cases hp),Below.refl _ _⟩
theorem G1 (w:World) (m:Mc) (R:List Ch) (h:Mem w (m.ps++R)) (ho:m.f.Ok) (x:It) (hx:m.its[m.next]?=some x) (hb:m.its.length<=1000000000) (hst:x.step=m.t) (htb:m.t<=1000) (hcb:m.cnt<=1000000) (hk:1<=x.kind/\x.kind<=6) (a1 a2:Option Addr) (code:Int) (K:Mc->List Ch->Prop)
  (hK:∀ m' R',K m' R'->m'.f=m.f/\m'.t=m.t/\m'.next=m.next/\m'.cnt=m.cnt)
  (CF:∀ (W:World) (Y:List Ch),Mem W (m.ps++(Y++R))->Calls Tryz.prog (Dg x.kind) #[.pointer (some ⟨m.f.g,0,none⟩),.agg x.cells.toArray,.agg #[.pointer a1,.pointer a2]] W fun e w'=>e=.returned (U O code)/\∃ m' R',K m' R'/\Mem w' (m'.ps++(Y++R'))) :
  Calls Tryz.prog 195 #[.pointer (some ⟨m.f.g,0,none⟩),.pointer a1,.pointer a2] w fun e w'=>e=.returned (U O code)/\∃ m' R',K m' R'/\((code≠0/\Mem w' (m'.ps++R'))\/(code=0/\∃ Ai ci,(m'.next+1=m'.its.length->(Bo m'.f (m'.t+1)).length<=ci)/\Mem w' ((m'.step Ai ci).ps++R'))):=by
 have CNx:=K1 (fun (W:World) hM=>Mi W m R hM x hx hb);have CD:=K1 (fun (W:World)=>RR W);have CF:=K1 CF;have HM:=K1 h;have hnl:=(List.getElem?_eq_some_iff.1 hx).1;have HK:=K1 hK;have HO:=K1 ho;have hnb:m.next<=1000000000:=by omega
 obtain ⟨tt,htt⟩:∃ tt,tt=m.t:=⟨_,rfl⟩
 have HTT:=K1 htt;rw [<- htt] at hst htb;obtain ⟨kd,st,n,⟨asn,aa,t1,t2,t3,t4,t5,lo,hi⟩⟩:=x;dsimp only [It.cells,Ac.cells] at *;simp only [List.cons_append,List.nil_append] at *;have hkc:kd=1\/kd=2\/kd=3\/kd=4\/kd=5\/kd=6:=by omega
 subst hst;clear h hx hk hK ho hnl htt;go_enter Tryz.func195,Tryz.ntmps195;go_wp2_with fail;refine (CNx.out _ HM.out).mono ?_;rintro e w1 ⟨rfl,hb1⟩;replace HM:=K1 (((HM.out.below hb1).alloc (.cells #[U O kd,U O st,U O n,.bool asn,.bool aa,U O t1,U O t2,U O t3,U O t4,U O t5,U O lo,U O hi] 146)).fA);clear hb1 CNx
 have HI:=K1 (show ∀ (W:World) (Y R:List Ch),Mem W ((m.ps++(.obj w1.heap.size (.cells #[U O kd,U O st,U O n,.bool asn,.bool aa,U O t1,U O t2,U O t3,U O t4,U O t5,U O lo,U O hi] 146 (0,0))::Y))++R)->∀ i,W.cell? ⟨w1.heap.size,i,none⟩=([U O kd,U O st,U O n,.bool asn,.bool aa,U O t1,U O t2,U O t3,U O t4,U O t5,U O lo,U O hi]:List Value)[i]? from fun W Y R h=>h.cells 14 rfl);generalize hgi:w1.heap.size=gi at *;go_upto_region 6 with fail
 go_cut [9] from 20 to 25 (fun s9 W=>∃ gj,s9=.pointer (some ⟨gj,0,none⟩)/\Hid (Mem W ((m.ps++[.obj gi (.cells #[U O kd,U O st,U O n,.bool asn,.bool aa,U O t1,U O t2,U O t3,U O t4,U O t5,U O lo,U O hi] 146 (0,0)),.obj gj (.cells #[U O kd,U O st,U O n,.bool asn,.bool aa,U O t1,U O t2,U O t3,U O t4,U O t5,U O lo,U O hi,EQ kd] 311 (0,0))])++R)))
 case first =>
  clear CF;refine A9 fun W0 hW=>?_;replace HM:=K1 (hW.out.symm ▸ HM.out);clear hW
  rcases hkc with hkd | hkd | hkd | hkd | hkd | hkd
  . have hz:(kd:Int)=1:=by omega
    simp only [hz] at HM HI ⊢;have HKD:=K1 hkd;clear hz hkd;have hidx:=S7;refine AC (.reads [0,2,3] (.two 1 6 (.reads [4,5] (.eff 6 (.eff 7 (.fin)))) (.eff 1 (.reads [4,5] (.eff 7 (.fin)))))) 8 (fun W'=>∀ i,W'.cell? ⟨gi,i,none⟩=([U O 1,U O st,U O n,.bool asn,.bool aa,U O t1,U O t2,U O t3,U O t4,U O t5,U O lo,U O hi]:List Value)[i]?) ?_;replace HM:=K1 HM.out.drew;generalize W0.drew=V at *;refine Ad0 (HM.out.cells 14 rfl) ?_;refine Ad5 ?_ ?_
    . refine Ady ?_;go_wp2_with fail;refine (CD.out _).mono ?_;rintro e w3 ⟨rfl,hb3⟩;replace HM:=K1 (HM.out.below hb3);clear hb3;go_wp2_with fail;refine Adz (HM.out.cells 14 rfl) ?_;refine Ad0 (HM.out.cells 14 rfl) ?_;refine Ady ?_;go_wp2_with fail;refine AH fun W3 hW3=>?_;replace HM:=K1 ((HM.out.alloc_ hW3.out).fA);clear hW3;generalize hgj:w3.heap.size=gj at *;clear hgj;refine Adz (HM.out.cells 14 rfl) ?_;refine Ady ?_;have c14:=HM.out.cells 14 rfl;have c15:=HM.out.cells 15 rfl;have f15:=fun j=>HM.out.frozen 15 j rfl
      have hf:=(HM.out.fill (i:=15) rfl [U O 1,U O st,U O n,.bool asn,.bool aa,U O t1,U O t2,U O t3,U O t4,U O t5,U O lo,U O hi,.func (.func 199) #[] #[]] rfl).fS rfl;simp only [Ad2,Ad3,Ad4] at hf;have HF:=K1 hf;clear hf HM;go_wp2_with fail;refine Adz (HF.out.cells 14 rfl) (Ad1 ?_);clear c14 c15 f15;go_wp2_with fail;have e1:=HKD.out;subst e1;go_meet;refine ⟨gj,rfl,K1 ?_⟩;exact HF.out
    . refine Ady ?_;go_wp2_with fail;refine AH fun W3 hW3=>?_;replace HM:=K1 ((HM.out.alloc_ hW3.out).fA);clear hW3;generalize hgj:V.heap.size=gj at *;clear hgj;refine Adz (HM.out.cells 14 rfl) ?_;refine Ady ?_;go_wp2_with fail;refine (CD.out _).mono ?_;rintro e w3 ⟨rfl,hb3⟩;replace HM:=K1 (HM.out.below hb3);clear hb3;go_wp2_with fail;refine Adz (HM.out.cells 14 rfl) ?_;refine Ad0 (HM.out.cells 14 rfl) ?_;refine Ady ?_;have c14:=HM.out.cells 14 rfl;have c15:=HM.out.cells 15 rfl;have f15:=fun j=>HM.out.frozen 15 j rfl
      have hf:=(HM.out.fill (i:=15) rfl [U O 1,U O st,U O n,.bool asn,.bool aa,U O t1,U O t2,U O t3,U O t4,U O t5,U O lo,U O hi,.func (.func 199) #[] #[]] rfl).fS rfl;simp only [Ad2,Ad3,Ad4] at hf;have HF:=K1 hf;clear hf HM;go_wp2_with fail;refine Adz (HF.out.cells 14 rfl) (Ad1 ?_);clear c14 c15 f15;go_wp2_with fail;have e1:=HKD.out;subst e1;go_meet;refine ⟨gj,rfl,K1 ?_⟩;exact HF.out
  . have hz:(kd:Int)=2:=by omega
    simp only [hz] at HM HI ⊢;have HKD:=K1 hkd;clear hz hkd;have hidx:=S8;refine AC (.reads [0,2,3] (.two 1 6 (.reads [4,5] (.eff 6 (.eff 7 (.fin)))) (.eff 1 (.reads [4,5] (.eff 7 (.fin)))))) 8 (fun W'=>∀ i,W'.cell? ⟨gi,i,none⟩=([U O 2,U O st,U O n,.bool asn,.bool aa,U O t1,U O t2,U O t3,U O t4,U O t5,U O lo,U O hi]:List Value)[i]?) ?_;replace HM:=K1 HM.out.drew;generalize W0.drew=V at *;refine Ad0 (HM.out.cells 14 rfl) ?_;refine Ad5 ?_ ?_
    . refine Ady ?_;go_wp2_with fail;refine (CD.out _).mono ?_;rintro e w3 ⟨rfl,hb3⟩;replace HM:=K1 (HM.out.below hb3);clear hb3;go_wp2_with fail;refine Adz (HM.out.cells 14 rfl) ?_;refine Ad0 (HM.out.cells 14 rfl) ?_;refine Ady ?_;go_wp2_with fail;refine AH fun W3 hW3=>?_;replace HM:=K1 ((HM.out.alloc_ hW3.out).fA);clear hW3;generalize hgj:w3.heap.size=gj at *;clear hgj;refine Adz (HM.out.cells 14 rfl) ?_;refine Ady ?_;have c14:=HM.out.cells 14 rfl;have c15:=HM.out.cells 15 rfl;have f15:=fun j=>HM.out.frozen 15 j rfl
      have hf:=(HM.out.fill (i:=15) rfl [U O 2,U O st,U O n,.bool asn,.bool aa,U O t1,U O t2,U O t3,U O t4,U O t5,U O lo,U O hi,.func (.func 200) #[] #[]] rfl).fS rfl;simp only [Ad2,Ad3,Ad4] at hf;have HF:=K1 hf;clear hf HM;go_wp2_with fail;refine Adz (HF.out.cells 14 rfl) (Ad1 ?_);clear c14 c15 f15;go_wp2_with fail;have e1:=HKD.out;subst e1;go_meet;refine ⟨gj,rfl,K1 ?_⟩;exact HF.out
    . refine Ady ?_;go_wp2_with fail;refine AH fun W3 hW3=>?_;replace HM:=K1 ((HM.out.alloc_ hW3.out).fA);clear hW3;generalize hgj:V.heap.size=gj at *;clear hgj;refine Adz (HM.out.cells 14 rfl) ?_;refine Ady ?_;go_wp2_with fail;refine (CD.out _).mono ?_;rintro e w3 ⟨rfl,hb3⟩;replace HM:=K1 (HM.out.below hb3);clear hb3;go_wp2_with fail;refine Adz (HM.out.cells 14 rfl) ?_;refine Ad0 (HM.out.cells 14 rfl) ?_;refine Ady ?_;have c14:=HM.out.cells 14 rfl;have c15:=HM.out.cells 15 rfl;have f15:=fun j=>HM.out.frozen 15 j rfl
      have hf:=(HM.out.fill (i:=15) rfl [U O 2,U O st,U O n,.bool asn,.bool aa,U O t1,U O t2,U O t3,U O t4,U O t5,U O lo,U O hi,.func (.func 200) #[] #[]] rfl).fS rfl;simp only [Ad2,Ad3,Ad4] at hf;have HF:=K1 hf;clear hf HM;go_wp2_with fail;refine Adz (HF.out.cells 14 rfl) (Ad1 ?_);clear c14 c15 f15;go_wp2_with fail;have e1:=HKD.out;subst e1;go_meet;refine ⟨gj,rfl,K1 ?_⟩;exact HF.out
  . have hz:(kd:Int)=3:=by omega
    simp only [hz] at HM HI ⊢;have HKD:=K1 hkd;clear hz hkd;have hidx:=S9;refine AC (.reads [0,2,3] (.two 1 6 (.reads [4,5] (.eff 6 (.eff 7 (.fin)))) (.eff 1 (.reads [4,5] (.eff 7 (.fin)))))) 8 (fun W'=>∀ i,W'.cell? ⟨gi,i,none⟩=([U O 3,U O st,U O n,.bool asn,.bool aa,U O t1,U O t2,U O t3,U O t4,U O t5,U O lo,U O hi]:List Value)[i]?) ?_;replace HM:=K1 HM.out.drew;generalize W0.drew=V at *;refine Ad0 (HM.out.cells 14 rfl) ?_;refine Ad5 ?_ ?_
    . refine Ady ?_;go_wp2_with fail;refine (CD.out _).mono ?_;rintro e w3 ⟨rfl,hb3⟩;replace HM:=K1 (HM.out.below hb3);clear hb3;go_wp2_with fail;refine Adz (HM.out.cells 14 rfl) ?_;refine Ad0 (HM.out.cells 14 rfl) ?_;refine Ady ?_;go_wp2_with fail;refine AH fun W3 hW3=>?_;replace HM:=K1 ((HM.out.alloc_ hW3.out).fA);clear hW3;generalize hgj:w3.heap.size=gj at *;clear hgj;refine Adz (HM.out.cells 14 rfl) ?_;refine Ady ?_;have c14:=HM.out.cells 14 rfl;have c15:=HM.out.cells 15 rfl;have f15:=fun j=>HM.out.frozen 15 j rfl
      have hf:=(HM.out.fill (i:=15) rfl [U O 3,U O st,U O n,.bool asn,.bool aa,U O t1,U O t2,U O t3,U O t4,U O t5,U O lo,U O hi,.func (.func 201) #[] #[]] rfl).fS rfl;simp only [Ad2,Ad3,Ad4] at hf;have HF:=K1 hf;clear hf HM;go_wp2_with fail;refine Adz (HF.out.cells 14 rfl) (Ad1 ?_);clear c14 c15 f15;go_wp2_with fail;have e1:=HKD.out;subst e1;go_meet;refine ⟨gj,rfl,K1 ?_⟩;exact HF.out
    . refine Ady ?_;go_wp2_with fail;refine AH fun W3 hW3=>?_;replace HM:=K1 ((HM.out.alloc_ hW3.out).fA);clear hW3;generalize hgj:V.heap.size=gj at *;clear hgj;refine Adz (HM.out.cells 14 rfl) ?_;refine Ady ?_;go_wp2_with fail;refine (CD.out _).mono ?_;rintro e w3 ⟨rfl,hb3⟩;replace HM:=K1 (HM.out.below hb3);clear hb3;go_wp2_with fail;refine Adz (HM.out.cells 14 rfl) ?_;refine Ad0 (HM.out.cells 14 rfl) ?_;refine Ady ?_;have c14:=HM.out.cells 14 rfl;have c15:=HM.out.cells 15 rfl;have f15:=fun j=>HM.out.frozen 15 j rfl
      have hf:=(HM.out.fill (i:=15) rfl [U O 3,U O st,U O n,.bool asn,.bool aa,U O t1,U O t2,U O t3,U O t4,U O t5,U O lo,U O hi,.func (.func 201) #[] #[]] rfl).fS rfl;simp only [Ad2,Ad3,Ad4] at hf;have HF:=K1 hf;clear hf HM;go_wp2_with fail;refine Adz (HF.out.cells 14 rfl) (Ad1 ?_);clear c14 c15 f15;go_wp2_with fail;have e1:=HKD.out;subst e1;go_meet;refine ⟨gj,rfl,K1 ?_⟩;exact HF.out
  . have hz:(kd:Int)=4:=by omega
    simp only [hz] at HM HI ⊢;have HKD:=K1 hkd;clear hz hkd;have hidx:=SC;refine AC (.reads [0,2,3] (.two 1 6 (.reads [4,5] (.eff 6 (.eff 7 (.fin)))) (.eff 1 (.reads [4,5] (.eff 7 (.fin)))))) 8 (fun W'=>∀ i,W'.cell? ⟨gi,i,none⟩=([U O 4,U O st,U O n,.bool asn,.bool aa,U O t1,U O t2,U O t3,U O t4,U O t5,U O lo,U O hi]:List Value)[i]?) ?_;replace HM:=K1 HM.out.drew;generalize W0.drew=V at *;refine Ad0 (HM.out.cells 14 rfl) ?_;refine Ad5 ?_ ?_
    . refine Ady ?_;go_wp2_with fail;refine (CD.out _).mono ?_;rintro e w3 ⟨rfl,hb3⟩;replace HM:=K1 (HM.out.below hb3);clear hb3;go_wp2_with fail;refine Adz (HM.out.cells 14 rfl) ?_;refine Ad0 (HM.out.cells 14 rfl) ?_;refine Ady ?_;go_wp2_with fail;refine AH fun W3 hW3=>?_;replace HM:=K1 ((HM.out.alloc_ hW3.out).fA);clear hW3;generalize hgj:w3.heap.size=gj at *;clear hgj;refine Adz (HM.out.cells 14 rfl) ?_;refine Ady ?_;have c14:=HM.out.cells 14 rfl;have c15:=HM.out.cells 15 rfl;have f15:=fun j=>HM.out.frozen 15 j rfl
      have hf:=(HM.out.fill (i:=15) rfl [U O 4,U O st,U O n,.bool asn,.bool aa,U O t1,U O t2,U O t3,U O t4,U O t5,U O lo,U O hi,.func (.func 202) #[] #[]] rfl).fS rfl;simp only [Ad2,Ad3,Ad4] at hf;have HF:=K1 hf;clear hf HM;go_wp2_with fail;refine Adz (HF.out.cells 14 rfl) (Ad1 ?_);clear c14 c15 f15;go_wp2_with fail;have e1:=HKD.out;subst e1;go_meet;refine ⟨gj,rfl,K1 ?_⟩;exact HF.out
    . refine Ady ?_;go_wp2_with fail;refine AH fun W3 hW3=>?_;replace HM:=K1 ((HM.out.alloc_ hW3.out).fA);clear hW3;generalize hgj:V.heap.size=gj at *;clear hgj;refine Adz (HM.out.cells 14 rfl) ?_;refine Ady ?_;go_wp2_with fail;refine (CD.out _).mono ?_;rintro e w3 ⟨rfl,hb3⟩;replace HM:=K1 (HM.out.below hb3);clear hb3;go_wp2_with fail;refine Adz (HM.out.cells 14 rfl) ?_;refine Ad0 (HM.out.cells 14 rfl) ?_;refine Ady ?_;have c14:=HM.out.cells 14 rfl;have c15:=HM.out.cells 15 rfl;have f15:=fun j=>HM.out.frozen 15 j rfl
      have hf:=(HM.out.fill (i:=15) rfl [U O 4,U O st,U O n,.bool asn,.bool aa,U O t1,U O t2,U O t3,U O t4,U O t5,U O lo,U O hi,.func (.func 202) #[] #[]] rfl).fS rfl;simp only [Ad2,Ad3,Ad4] at hf;have HF:=K1 hf;clear hf HM;go_wp2_with fail;refine Adz (HF.out.cells 14 rfl) (Ad1 ?_);clear c14 c15 f15;go_wp2_with fail;have e1:=HKD.out;subst e1;go_meet;refine ⟨gj,rfl,K1 ?_⟩;exact HF.out
  . have hz:(kd:Int)=5:=by omega
    simp only [hz] at HM HI ⊢;have HKD:=K1 hkd;clear hz hkd;have hidx:=SD;refine AC (.reads [0,2,3] (.two 1 6 (.reads [4,5] (.eff 6 (.eff 7 (.fin)))) (.eff 1 (.reads [4,5] (.eff 7 (.fin)))))) 8 (fun W'=>∀ i,W'.cell? ⟨gi,i,none⟩=([U O 5,U O st,U O n,.bool asn,.bool aa,U O t1,U O t2,U O t3,U O t4,U O t5,U O lo,U O hi]:List Value)[i]?) ?_;replace HM:=K1 HM.out.drew;generalize W0.drew=V at *;refine Ad0 (HM.out.cells 14 rfl) ?_;refine Ad5 ?_ ?_
    . refine Ady ?_;go_wp2_with fail;refine (CD.out _).mono ?_;rintro e w3 ⟨rfl,hb3⟩;replace HM:=K1 (HM.out.below hb3);clear hb3;go_wp2_with fail;refine Adz (HM.out.cells 14 rfl) ?_;refine Ad0 (HM.out.cells 14 rfl) ?_;refine Ady ?_;go_wp2_with fail;refine AH fun W3 hW3=>?_;replace HM:=K1 ((HM.out.alloc_ hW3.out).fA);clear hW3;generalize hgj:w3.heap.size=gj at *;clear hgj;refine Adz (HM.out.cells 14 rfl) ?_;refine Ady ?_;have c14:=HM.out.cells 14 rfl;have c15:=HM.out.cells 15 rfl;have f15:=fun j=>HM.out.frozen 15 j rfl
      have hf:=(HM.out.fill (i:=15) rfl [U O 5,U O st,U O n,.bool asn,.bool aa,U O t1,U O t2,U O t3,U O t4,U O t5,U O lo,U O hi,.func (.func 203) #[] #[]] rfl).fS rfl;simp only [Ad2,Ad3,Ad4] at hf;have HF:=K1 hf;clear hf HM;go_wp2_with fail;refine Adz (HF.out.cells 14 rfl) (Ad1 ?_);clear c14 c15 f15;go_wp2_with fail;have e1:=HKD.out;subst e1;go_meet;refine ⟨gj,rfl,K1 ?_⟩;exact HF.out
    . refine Ady ?_;go_wp2_with fail;refine AH fun W3 hW3=>?_;replace HM:=K1 ((HM.out.alloc_ hW3.out).fA);clear hW3;generalize hgj:V.heap.size=gj at *;clear hgj;refine Adz (HM.out.cells 14 rfl) ?_;refine Ady ?_;go_wp2_with fail;refine (CD.out _).mono ?_;rintro e w3 ⟨rfl,hb3⟩;replace HM:=K1 (HM.out.below hb3);clear hb3;go_wp2_with fail;refine Adz (HM.out.cells 14 rfl) ?_;refine Ad0 (HM.out.cells 14 rfl) ?_;refine Ady ?_;have c14:=HM.out.cells 14 rfl;have c15:=HM.out.cells 15 rfl;have f15:=fun j=>HM.out.frozen 15 j rfl
      have hf:=(HM.out.fill (i:=15) rfl [U O 5,U O st,U O n,.bool asn,.bool aa,U O t1,U O t2,U O t3,U O t4,U O t5,U O lo,U O hi,.func (.func 203) #[] #[]] rfl).fS rfl;simp only [Ad2,Ad3,Ad4] at hf;have HF:=K1 hf;clear hf HM;go_wp2_with fail;refine Adz (HF.out.cells 14 rfl) (Ad1 ?_);clear c14 c15 f15;go_wp2_with fail;have e1:=HKD.out;subst e1;go_meet;refine ⟨gj,rfl,K1 ?_⟩;exact HF.out
  . have hz:(kd:Int)=6:=by omega
    simp only [hz] at HM HI ⊢;have HKD:=K1 hkd;clear hz hkd;have hidx:=SE;refine AC (.reads [0,2,3] (.two 1 6 (.reads [4,5] (.eff 6 (.eff 7 (.fin)))) (.eff 1 (.reads [4,5] (.eff 7 (.fin)))))) 8 (fun W'=>∀ i,W'.cell? ⟨gi,i,none⟩=([U O 6,U O st,U O n,.bool asn,.bool aa,U O t1,U O t2,U O t3,U O t4,U O t5,U O lo,U O hi]:List Value)[i]?) ?_;replace HM:=K1 HM.out.drew;generalize W0.drew=V at *;refine Ad0 (HM.out.cells 14 rfl) ?_;refine Ad5 ?_ ?_
    . refine Ady ?_;go_wp2_with fail;refine (CD.out _).mono ?_;rintro e w3 ⟨rfl,hb3⟩;replace HM:=K1 (HM.out.below hb3);clear hb3;go_wp2_with fail;refine Adz (HM.out.cells 14 rfl) ?_;refine Ad0 (HM.out.cells 14 rfl) ?_;refine Ady ?_;go_wp2_with fail;refine AH fun W3 hW3=>?_;replace HM:=K1 ((HM.out.alloc_ hW3.out).fA);clear hW3;generalize hgj:w3.heap.size=gj at *;clear hgj;refine Adz (HM.out.cells 14 rfl) ?_;refine Ady ?_;have c14:=HM.out.cells 14 rfl;have c15:=HM.out.cells 15 rfl;have f15:=fun j=>HM.out.frozen 15 j rfl
      have hf:=(HM.out.fill (i:=15) rfl [U O 6,U O st,U O n,.bool asn,.bool aa,U O t1,U O t2,U O t3,U O t4,U O t5,U O lo,U O hi,.func (.func 204) #[] #[]] rfl).fS rfl;simp only [Ad2,Ad3,Ad4] at hf;have HF:=K1 hf;clear hf HM;go_wp2_with fail;refine Adz (HF.out.cells 14 rfl) (Ad1 ?_);clear c14 c15 f15;go_wp2_with fail;have e1:=HKD.out;subst e1;go_meet;refine ⟨gj,rfl,K1 ?_⟩;exact HF.out
    . refine Ady ?_;go_wp2_with fail;refine AH fun W3 hW3=>?_;replace HM:=K1 ((HM.out.alloc_ hW3.out).fA);clear hW3;generalize hgj:V.heap.size=gj at *;clear hgj;refine Adz (HM.out.cells 14 rfl) ?_;refine Ady ?_;go_wp2_with fail;refine (CD.out _).mono ?_;rintro e w3 ⟨rfl,hb3⟩;replace HM:=K1 (HM.out.below hb3);clear hb3;go_wp2_with fail;refine Adz (HM.out.cells 14 rfl) ?_;refine Ad0 (HM.out.cells 14 rfl) ?_;refine Ady ?_;have c14:=HM.out.cells 14 rfl;have c15:=HM.out.cells 15 rfl;have f15:=fun j=>HM.out.frozen 15 j rfl
      have hf:=(HM.out.fill (i:=15) rfl [U O 6,U O st,U O n,.bool asn,.bool aa,U O t1,U O t2,U O t3,U O t4,U O t5,U O lo,U O hi,.func (.func 204) #[] #[]] rfl).fS rfl;simp only [Ad2,Ad3,Ad4] at hf;have HF:=K1 hf;clear hf HM;go_wp2_with fail;refine Adz (HF.out.cells 14 rfl) (Ad1 ?_);clear c14 c15 f15;go_wp2_with fail;have e1:=HKD.out;subst e1;go_meet;refine ⟨gj,rfl,K1 ?_⟩;exact HF.out
 case rest =>
  obtain ⟨gj,rfl,HMj⟩:=hcut;clear HM CD;go_upto_region 7 with fail
  go_cut [10] from 26 to 34 (fun s10 W=>s10=U O code/\∃ m' R',Hid (K m' R')/\Hid (Mem W ((m'.ps++[.obj gi (.cells #[U O kd,U O st,U O n,.bool asn,.bool aa,U O t1,U O t2,U O t3,U O t4,U O t5,U O lo,U O hi] 146 (0,0))])++R')))
  case first =>
   rcases hkc with hkd | hkd | hkd | hkd | hkd | hkd
   . have hz:(kd:Int)=1:=by omega
     have hkf:EQ kd=.func (.func 199) #[] #[]:=by rw [hkd];rfl
     have hki:Dg kd=199:=by rw [hkd];rfl
     simp only [hz,hkf] at HMj HI ⊢;simp only [hz,hki] at CF;have HKD:=K1 hkd;clear hz hkd hkf hki;have c14:=HMj.out.cells 14 rfl;have c15:=HMj.out.cells 15 rfl;go_wp2_with fail;refine (CF.out _ _ HMj.out.asc).mono ?_;rintro e w5 ⟨rfl,m',R',hk',hm5⟩;have HK5:=K1 hk';have HM5:=K1 hm5;clear hk' hm5 CF c14 c15;go_wp2_with fail;have e1:=HKD.out;subst e1;go_meet;refine ⟨rfl,m',R',HK5,K1 ?_⟩;exact HM5.out.sub_ (by rw [Ad6];exact List.Sublist.append_left (List.Sublist.cons_cons _ (List.Sublist.cons _ (List.Sublist.refl _))) _)
   . have hz:(kd:Int)=2:=by omega
     have hkf:EQ kd=.func (.func 200) #[] #[]:=by rw [hkd];rfl
     have hki:Dg kd=200:=by rw [hkd];rfl
     simp only [hz,hkf] at HMj HI ⊢;simp only [hz,hki] at CF;have HKD:=K1 hkd;clear hz hkd hkf hki;have c14:=HMj.out.cells 14 rfl;have c15:=HMj.out.cells 15 rfl;go_wp2_with fail;refine (CF.out _ _ HMj.out.asc).mono ?_;rintro e w5 ⟨rfl,m',R',hk',hm5⟩;have HK5:=K1 hk';have HM5:=K1 hm5;clear hk' hm5 CF c14 c15;go_wp2_with fail;have e1:=HKD.out;subst e1;go_meet;refine ⟨rfl,m',R',HK5,K1 ?_⟩;exact HM5.out.sub_ (by rw [Ad6];exact List.Sublist.append_left (List.Sublist.cons_cons _ (List.Sublist.cons _ (List.Sublist.refl _))) _)
   . have hz:(kd:Int)=3:=by omega
     have hkf:EQ kd=.func (.func 201) #[] #[]:=by rw [hkd];rfl
     have hki:Dg kd=201:=by rw [hkd];rfl
     simp only [hz,hkf] at HMj HI ⊢;simp only [hz,hki] at CF;have HKD:=K1 hkd;clear hz hkd hkf hki;have c14:=HMj.out.cells 14 rfl;have c15:=HMj.out.cells 15 rfl;go_wp2_with fail;refine (CF.out _ _ HMj.out.asc).mono ?_;rintro e w5 ⟨rfl,m',R',hk',hm5⟩;have HK5:=K1 hk';have HM5:=K1 hm5;clear hk' hm5 CF c14 c15;go_wp2_with fail;have e1:=HKD.out;subst e1;go_meet;refine ⟨rfl,m',R',HK5,K1 ?_⟩;exact HM5.out.sub_ (by rw [Ad6];exact List.Sublist.append_left (List.Sublist.cons_cons _ (List.Sublist.cons _ (List.Sublist.refl _))) _)
   . have hz:(kd:Int)=4:=by omega
     have hkf:EQ kd=.func (.func 202) #[] #[]:=by rw [hkd];rfl
     have hki:Dg kd=202:=by rw [hkd];rfl
     simp only [hz,hkf] at HMj HI ⊢;simp only [hz,hki] at CF;have HKD:=K1 hkd;clear hz hkd hkf hki;have c14:=HMj.out.cells 14 rfl;have c15:=HMj.out.cells 15 rfl;go_wp2_with fail;refine (CF.out _ _ HMj.out.asc).mono ?_;rintro e w5 ⟨rfl,m',R',hk',hm5⟩;have HK5:=K1 hk';have HM5:=K1 hm5;clear hk' hm5 CF c14 c15;go_wp2_with fail;have e1:=HKD.out;subst e1;go_meet;refine ⟨rfl,m',R',HK5,K1 ?_⟩;exact HM5.out.sub_ (by rw [Ad6];exact List.Sublist.append_left (List.Sublist.cons_cons _ (List.Sublist.cons _ (List.Sublist.refl _))) _)
   . have hz:(kd:Int)=5:=by omega
     have hkf:EQ kd=.func (.func 203) #[] #[]:=by rw [hkd];rfl
     have hki:Dg kd=203:=by rw [hkd];rfl
     simp only [hz,hkf] at HMj HI ⊢;simp only [hz,hki] at CF;have HKD:=K1 hkd;clear hz hkd hkf hki;have c14:=HMj.out.cells 14 rfl;have c15:=HMj.out.cells 15 rfl;go_wp2_with fail;refine (CF.out _ _ HMj.out.asc).mono ?_;rintro e w5 ⟨rfl,m',R',hk',hm5⟩;have HK5:=K1 hk';have HM5:=K1 hm5;clear hk' hm5 CF c14 c15;go_wp2_with fail;have e1:=HKD.out;subst e1;go_meet;refine ⟨rfl,m',R',HK5,K1 ?_⟩;exact HM5.out.sub_ (by rw [Ad6];exact List.Sublist.append_left (List.Sublist.cons_cons _ (List.Sublist.cons _ (List.Sublist.refl _))) _)
   . have hz:(kd:Int)=6:=by omega
     have hkf:EQ kd=.func (.func 204) #[] #[]:=by rw [hkd];rfl
     have hki:Dg kd=204:=by rw [hkd];rfl
     simp only [hz,hkf] at HMj HI ⊢;simp only [hz,hki] at CF;have HKD:=K1 hkd;clear hz hkd hkf hki;have c14:=HMj.out.cells 14 rfl;have c15:=HMj.out.cells 15 rfl;go_wp2_with fail;refine (CF.out _ _ HMj.out.asc).mono ?_;rintro e w5 ⟨rfl,m',R',hk',hm5⟩;have HK5:=K1 hk';have HM5:=K1 hm5;clear hk' hm5 CF c14 c15;go_wp2_with fail;have e1:=HKD.out;subst e1;go_meet;refine ⟨rfl,m',R',HK5,K1 ?_⟩;exact HM5.out.sub_ (by rw [Ad6];exact List.Sublist.append_left (List.Sublist.cons_cons _ (List.Sublist.cons _ (List.Sublist.refl _))) _)
  case rest =>
   obtain ⟨rfl,m',R',HK5,HM5⟩:=hcut;clear HMj CF
   by_cases hc0:code=0
   . subst hc0;obtain ⟨f1,f2,f3,f4⟩:=HK.out _ _ HK5.out;obtain ⟨f',B',gP',cP',P',gM',cM',M',BG',gG',G',BR',Ar',cr',rcd',Ai',ci',t',nx',cn',BO',Ao',co',opn'⟩:=m';dsimp only at f1 f2 f3 f4;subst f1;have hm5:=HM5.out;rw [<- f4] at hcb;rw [<- f3] at hnb;have HF1:=K1 f2;clear f2 f3 f4;have c17:=(Af (hm5.obj 0 rfl) 17).trans (show _=some (U O cn') from rfl);have c16:=(Af (hm5.obj 0 rfl) 16).trans (show _=some (U O nx') from rfl);have f0:=fun j=>hm5.frozen 0 j rfl
     dsimp only at c17 c16 f0
     obtain ⟨cn1,hcn1⟩:∃ cn1,cn1=cn'+1:=⟨_,rfl⟩
     have hcn1i:(cn':Int)+1=(cn1:Int):=by omega
     have wcn1:IntKind.i64.wrap (cn1:Int)=(cn1:Int):=Ad7 _ (by omega)
     obtain ⟨nx1,hnx1⟩:∃ nx1,nx1=nx'+1:=⟨_,rfl⟩
     have hnx1i:(nx':Int)+1=(nx1:Int):=by omega
     have wnx1:IntKind.i64.wrap (nx1:Int)=(nx1:Int):=Ad7 _ (by omega)
     obtain ⟨tt1,htt1⟩:∃ tt1,tt1=st+1:=⟨_,rfl⟩
     have htt1i:(st:Int)+1=(tt1:Int):=by omega
     have wtt1:IntKind.i64.wrap (tt1:Int)=(tt1:Int):=Ad7 _ (by omega);have HNX:=K1 (Ad9 hcn1 (Ad9 hnx1 htt1));clear hcn1 hnx1 htt1;have hm6:=(((hm5.set (i:=0) (j:=17) rfl (U O cn1)).fS rfl).set (i:=0) (j:=16) rfl (U O nx1)).fS rfl;replace HM5:=K1 hm6;clear hm5 hm6
     obtain ⟨len,hlen⟩:∃ len,len=(Bo m.f t').length:=⟨_,rfl⟩
     have HLE:=K1 hlen;clear hlen;go_wp2_with fail;refine A9 fun W6 hW=>?_;replace HM5:=K1 (hW.out.symm ▸ HM5.out);clear hW c16 c17 f0;refine AC (.reads [0,1,2,3,4,5,6,7,8,9] .fin) 10 (fun W'=>W'.cell? ⟨m.f.g,16,none⟩=some (U O nx1)/\W'.cell? ⟨m.f.g,15,none⟩=some (.slice Ai' len ci')) ?_;replace HM5:=K1 HM5.out.drew;generalize W6.drew=V6 at *;refine Ad0 (⟨Af (HM5.out.obj 0 rfl) 16,by rw [HLE.out];exact Af (HM5.out.obj 0 rfl) 15⟩) ?_;refine Ad1 ?_
     by_cases hl:nx1=len
     . have HL:=K1 hl;have hl2:((nx1:Int) == (len:Int))=true:=by rw [hl];simp
       clear hl;go_wp2_with fail;refine A9 fun W7 hW=>?_;replace HM5:=K1 (hW.out.symm ▸ HM5.out);clear hW;refine AC (.reads [0,1,2,3,4,5,6,7,8,9,10,11,12,13,14] (.eff 15 (.reads [16,17] (.eff 18 (.reads [19,20] (.eff 21 (.fin))))))) 22 (fun W'=>W'.cell? ⟨m.f.g,6,none⟩=some (.pointer (some ⟨m.f.gp,0,none⟩))/\W'.cell? ⟨m.f.g,0,none⟩=some (U O m.f.u)/\W'.cell? ⟨gi,1,none⟩=some (U O st)) ?_;replace HM5:=K1 HM5.out.drew;generalize W7.drew=V7 at *;refine Ad0 (⟨Af (HM5.out.obj 0 rfl) 6,Af (HM5.out.obj 0 rfl) 0,HM5.out.cells 14 rfl 1⟩) ?_;refine Ady ?_;go_wp2_with fail
       have hph:m.f.phi<=V7.heap.size:=DL (HM5.out.holds 11 _ rfl) (HM5.out.st 11 rfl).in_;refine (SF m.f HO.out tt1 V7 (HM5.out.st 11 rfl) hph).mono ?_;rintro e w8 ⟨A8,c8,rfl,hc8,hr8,hA8,hb8⟩;have HM7:=K1 ((HM5.out.push_rd hb8 hr8 hA8).fA);have HC8:=K1 hc8;clear hb8 hr8 hA8 hph HM5 hc8;go_wp2_with fail;refine Adz (⟨Af (HM7.out.obj 0 rfl) 6,Af (HM7.out.obj 0 rfl) 0,HM7.out.cells 14 rfl 1⟩) ?_;refine PlS.rc_ (⟨Af (HM7.out.obj 0 rfl) 6,Af (HM7.out.obj 0 rfl) 0,HM7.out.cells 14 rfl 1⟩) ?_;refine Ady ?_
       have c15:=(Af (HM7.out.obj 0 rfl) 15).trans (show _=some (.slice Ai' (Bo m.f t').length ci') from rfl);have f15:=fun j=>HM7.out.frozen 0 j rfl
       try dsimp only at c15 f15
       have HM8:=K1 ((HM7.out.set (i:=0) (j:=15) rfl (.slice A8 (Bo m.f tt1).length c8)).fS rfl);clear HM7;go_wp2_with fail;refine Adz (⟨Af (HM8.out.obj 0 rfl) 6,Af (HM8.out.obj 0 rfl) 0,HM8.out.cells 14 rfl 1⟩) ?_;clear c15 f15;refine PlS.rc_ (⟨Af (HM8.out.obj 0 rfl) 6,Af (HM8.out.obj 0 rfl) 0,HM8.out.cells 14 rfl 1⟩) ?_;refine Ady ?_;have c16:=(Af (HM8.out.obj 0 rfl) 16).trans (show _=some (U O nx1) from rfl);have f16:=fun j=>HM8.out.frozen 0 j rfl
       try dsimp only at c16 f16
       have HM9:=K1 ((HM8.out.set (i:=0) (j:=16) rfl (U O 0)).fS rfl);clear HM8;go_wp2_with fail;refine Adz (⟨Af (HM9.out.obj 0 rfl) 6,Af (HM9.out.obj 0 rfl) 0,HM9.out.cells 14 rfl 1⟩) (Ad1 ?_);clear c16 f16;go_wp2_with fail;go_ret;refine ⟨rfl,(⟨m.f,B',gP',cP',P',gM',cM',M',BG',gG',G',BR',Ar',cr',rcd',Ai',ci',t',nx',cn',BO',Ao',co',opn'⟩:Mc),R',HK5.out,A8,c8,fun _=>?_,?_⟩
       . rw [HF1.out,<- HTT.out,<- HNX.out.2.2];exact HC8.out
       . have e9:((⟨m.f,B',gP',cP',P',gM',cM',M',BG',gG',G',BR',Ar',cr',rcd',Ai',ci',t',nx',cn',BO',Ao',co',opn'⟩:Mc)).step A8 c8=(⟨m.f,B',gP',cP',P',gM',cM',M',BG',gG',G',BR',Ar',cr',rcd',A8,c8,t'+1,0,cn'+1,BO',Ao',co',opn'⟩:Mc):=if_pos (show nx'+1=(Bo m.f t').length by rw [<- HNX.out.2.1,HL.out,HLE.out]);rw [e9];have e8:t'+1=tt1:=by rw [HF1.out,<- HTT.out,HNX.out.2.2]
         have e7:cn'+1=cn1:=HNX.out.1.symm;rw [e8,e7];have h9:=(HM9.out.reset (i:=6) (c':=.rd A8 (icells (Bo m.f tt1))) rfl (HM9.out.rd 15 rfl) (fun h=>h) (fun g hg=>⟨15,_,rfl,fun h=>h,hg⟩)).fS rfl;have h10:=Mem.cast h9 (show _=((⟨m.f,B',gP',cP',P',gM',cM',M',BG',gG',G',BR',Ar',cr',rcd',A8,c8,tt1,0,cn1,BO',Ao',co',opn'⟩:Mc).ps++[_,.rd A8 (icells (Bo m.f tt1))])++R' from rfl);exact h10.mid
     . have HL:=K1 hl;have hl2:((nx1:Int) == (len:Int))=false:=beq_eq_false_iff_ne.2 (by omega);clear hl;go_wp2_with fail;go_ret;refine ⟨rfl,(⟨m.f,B',gP',cP',P',gM',cM',M',BG',gG',G',BR',Ar',cr',rcd',Ai',ci',t',nx',cn',BO',Ao',co',opn'⟩:Mc),R',HK5.out,none,0,fun h=>absurd h ?_,?_⟩
       . show ¬ nx'+1=(Bo m.f t').length;rw [<- HNX.out.2.1,<- HLE.out];exact HL.out
       . have e9:((⟨m.f,B',gP',cP',P',gM',cM',M',BG',gG',G',BR',Ar',cr',rcd',Ai',ci',t',nx',cn',BO',Ao',co',opn'⟩:Mc)).step none 0=(⟨m.f,B',gP',cP',P',gM',cM',M',BG',gG',G',BR',Ar',cr',rcd',Ai',ci',t',nx'+1,cn'+1,BO',Ao',co',opn'⟩:Mc):=if_neg (show ¬ nx'+1=(Bo m.f t').length by rw [<- HNX.out.2.1,<- HLE.out];exact HL.out);rw [e9,<- HNX.out.2.1,<- HNX.out.1];exact Mem.mid (Y:=[_]) HM5.out
   . have hc1:(code != 0)=true:=by simpa using hc0
     have HC:=K1 hc0;clear hc0;go_wp2_with fail;go_ret;exact ⟨rfl,m',R',HK5.out,.inl ⟨HC.out,HM5.out.mid⟩⟩
end
section
theorem MB (w:World) (A0:Option Addr) (n c0 by_:Nat) (l:List (Nat × Nat)) (hr:Rd w w.heap.size A0 (rcells l)) (hl:l.length=n) (hn:n<=100000) (hb:by_<=100000) (hp:∀ p∈l,p.1<=100000/\p.2<=100000) :
  Calls Tryz.prog 170 #[.slice A0 n c0,U O by_] w fun e w'=>∃ A c,e=.returned (.slice A n c)/\n<=c/\Mem w' [.bel w.heap.size w,rrO w.heap.size n c A (B4 by_ l)]:=by
 have HM0:=K1 (((Mem.start w).add_rd (i:=0) rfl hr).add (c:=rrO w.heap.size 0 0 none (B4 by_ (l.take 0))) ⟨Bh _ _ _ _,Ad8 _⟩ (fun _ _ _ _ g hg=>by cases hg));have HL:=K1 (Ad9 hl hp);clear hr hl hp;go_enter Tryz.func170,Tryz.ntmps170;go_wp2_with fail
 go_loopw [5,6] (fun s5 s6 wr=>∃ (k:Nat) (A:Option Addr) (c:Nat),k<=n/\s5=.slice A k c/\s6=U O k/\Hid (Mem wr [.bel w.heap.size w,.rd A0 (rcells l),rrO w.heap.size k c A (B4 by_ (l.take k))])) (fun _ s6 _=>n-(intOf s6).toNat)
 case atStart=>exact ⟨0,none,0,Nat.zero_le _,rfl,rfl,HM0⟩
 case round =>
  clear HM0;obtain ⟨k,A,c,hk,rfl,rfl,HM⟩:=hrel
  by_cases hlt:k<n
  . obtain ⟨⟨x,y⟩,hxy⟩:=Au l k (by rw [HL.out.1];exact hlt);obtain ⟨b,off,rfl,_⟩:=HM.out.ranges 1 rfl (by have:=HL.out.1;omega);have HXY:=K1 hxy;have hbd:=HL.out.2 _ (List.mem_of_getElem? hxy);dsimp only at hbd;have HT:=K1 (show B4 by_ (l.take (k+1))=B4 by_ (l.take k)++[(x+by_,y+by_)] by rw [List.take_add_one,hxy];simp [B4])
    obtain ⟨x1,hx1⟩:∃ x1,x1=x+by_:=⟨_,rfl⟩
    obtain ⟨y1,hy1⟩:∃ y1,y1=y+by_:=⟨_,rfl⟩
    rw [<- hx1,<- hy1] at HT;have ix:(x:Int)+(by_:Int)=(x1:Int):=by omega
    have iy:(y:Int)+(by_:Int)=(y1:Int):=by omega
    have wx:IntKind.i64.wrap (x1:Int)=(x1:Int):=Ad7 _ (by omega);have wy:IntKind.i64.wrap (y1:Int)=(y1:Int):=Ad7 _ (by omega);clear hxy hx1 hy1;go_wp2_with fail;refine A9 fun W0 hW=>?_;replace HM:=K1 (hW.out.symm ▸ HM.out);clear hW;refine AC (.reads [0,1,2,3,4,5,6,7,8,9,10,11,12,13,14,15] (.eff 16 (.eff 17 (.reads [18] .fin)))) 19 (fun W'=>W'.cell? ⟨b,off+k*2,none⟩=some (U O x)/\W'.cell? ⟨b,off+k*2+1,none⟩=some (U O y)) ?_;replace HM:=K1 HM.out.drew;generalize W0.drew=V at *;refine Ad0 (HM.out.range2 1 rfl HXY.out) ?_;refine Ady ?_;go_wp2_with fail;refine AH fun W7 hW=>?_
    replace HM:=K1 (HM.out.alloc_ hW.out);clear hW;refine Adz (HM.out.range2 1 rfl HXY.out) ?_;refine Ady ?_;refine AQ (n:=k) rfl _ _ 192 rfl HM.out 2 Gv rfl rfl _ 1 _ [U O x1,U O y1] rfl (HM.out.box 3 rfl) rfl (by intro u hu;simp at hu;rcases hu with rfl | rfl <;> rfl) (by omega) ?_;intro A' c' W8 hM8;replace HM:=K1 (hM8.front 3);clear hM8;go_wp2_with fail;refine Adz (HM.out.range2 1 rfl HXY.out) ?_;refine PlS.rc_ (HM.out.range2 1 rfl HXY.out) ?_;refine Ad1 ?_;go_wp2_with fail;go_roundw
    case rel =>
     refine ⟨k+1,A',c',by omega,rfl,by go_num,?_⟩;rw [HT.out];unfold rrO;rw [EX];exact HM
    case measure=>simp [intOf];omega
  . have hkn:k=n:=by omega
    subst hkn;have HF:=K1 HM.out;clear HM;go_wp2_with fail;go_ret;have e1:l.take k=l:=List.take_of_length_le (by rw [HL.out.1];exact Ad8 _);have h9:=HF.out;rw [e1] at h9;exact ⟨A,c,rfl,Be (h9.own 2 rfl),h9.pick [0,2] _ rfl (by decide)⟩
theorem SG (w:World) (lo hi s:Nat) (hlo:lo<=hi) (hhi:hi<=1000) (hs:1<=s/\s<=1048576) :
  Calls Tryz.prog 163 #[.agg #[U O lo,U O hi],U O s] w fun e w'=>∃ A c,e=.returned (.slice A (Bj s (lo,hi)).length c)/\(Bj s (lo,hi)).length<=c/\Mem w' [.bel w.heap.size w,rrO w.heap.size (Bj s (lo,hi)).length c A (Bj s (lo,hi))]:=by
 have CB:=K1 (fun W=>Jx (hi-lo) s W (by omega) hs);have hln:(Bd (hi-lo) s).length<=1000:=by rw [DN];have:=Cm (hi-lo) s;omega
 have hbl:∀ p∈Bd (hi-lo) s,p.1<=100000/\p.2<=100000:=fun p hp=>by
  have h1:=EE (hi-lo) s hs.1 p hp;have h2:=Hb (hi-lo) s p hp;omega
 have HE:=K1 (show Bj s (lo,hi)=B4 lo (Bd (hi-lo) s)/\(Bj s (lo,hi)).length=(Bd (hi-lo) s).length from ⟨rfl,Eh _ _⟩);have CS:=K1 (fun W A c hr=>MB W A (Bd (hi-lo) s).length c lo (Bd (hi-lo) s) hr rfl (by omega) (by omega) hbl);have HM:=K1 ((Mem.start w).alloc (.cells #[U O lo,U O hi] 72))
 obtain ⟨d,hd⟩:∃ d,d=hi-lo:=⟨_,rfl⟩
 rw [<- hd] at CB CS HE hln;have id_:(hi:Int)-(lo:Int)=(d:Int):=by omega
 have wd:IntKind.i64.wrap (d:Int)=(d:Int):=Ad7 _ (by omega);clear hd hbl;go_enter Tryz.func163,Tryz.ntmps163;go_wp2_with fail;refine A9 fun W0 hW=>?_;replace HM:=K1 (hW.out.symm ▸ HM.out);clear hW;refine AC (.reads [0,1,2,3,4,5,7,8] (.eff 6 (.eff 9 (.reads [10] (.fin))))) 11 (fun W'=>∀ j,W'.cell? ⟨w.heap.size,j,none⟩=([U O lo,U O hi]:List Value)[j]?) ?_;replace HM:=K1 HM.out.drew;generalize W0.drew=V at *;refine Ad0 (HM.out.cells 1 rfl) ?_;refine Ady ?_;go_wp2_with fail;refine (CB.out _).mono ?_;rintro e w2 ⟨A1,c1,rfl,hc1,hm2⟩;have hrd:=AJ (hm2.own 1 rfl);have hA1:=AF (hm2.own 1 rfl)
 replace HM:=K1 (HM.out.push_rd (hm2.bel 0 rfl) hrd hA1);clear hm2 hrd hA1 CB;go_wp2_with fail;refine Adz (HM.out.cells 1 rfl) ?_;refine Ady ?_;go_wp2_with fail;refine (CS.out _ _ _ (HM.out.rd 2 rfl)).mono ?_;rintro e w3 ⟨A2,c2,rfl,hc2,hm3⟩;have hg:=(HM.out.bel 0 rfl).size;replace HM:=K1 ((HM.out.push_own (hm3.bel 0 rfl) (hm3.own 1 rfl) rfl).lower (i:=3) rfl hg);clear hm3 CS hg;go_wp2_with fail;refine Adz (HM.out.cells 1 rfl) ?_;refine Ad0 (HM.out.cells 1 rfl) ?_;refine Ad1 ?_;go_wp2_with fail;go_ret;rw [HE.out.2];refine ⟨A2,c2,rfl,hc2,?_⟩;rw [HE.out.1];exact HM.out.pick [0,3] _ rfl (by decide)
end
end Go.Proofs.YtdpojpcoghcieaaGreat
