/- A part of the proof of TopSerial: MachDo. Conditions: none. -/
import Derived.Test.YtdpojpcoghcieaaGreatSdBJ
set_option maxHeartbeats 8000000
namespace Go.Proofs.YtdpojpcoghcieaaGreat
open Lib renaming hid → K1
open List renaming filterMap_cons → p1, filterMap_nil → p2, getElem?_cons_zero → p3, getElem?_cons_succ → p4
open Go.RowKit
attribute [local go_sem] run_store_fn run_store_nf
def kindId:Nat→FuncId
 | 1=>199
 | 2=>200
 | 3=>201
 | 4=>202
 | 5=>203
 | _=>204
theorem idxD1 (W:World):(Instr.index 308 (.agg #[.nilFunc,.func (.func 199) #[] #[],.func (.func 200) #[] #[],.func (.func 201) #[] #[],.func (.func 202) #[] #[],.func (.func 203) #[] #[],.func (.func 204) #[] #[]]) (.int .i64 1)).run Tryz.prog W=.ok (.func (.func 199) #[] #[]) W:=by kernel_rfl
theorem idxD2 (W:World):(Instr.index 308 (.agg #[.nilFunc,.func (.func 199) #[] #[],.func (.func 200) #[] #[],.func (.func 201) #[] #[],.func (.func 202) #[] #[],.func (.func 203) #[] #[],.func (.func 204) #[] #[]]) (.int .i64 2)).run Tryz.prog W=.ok (.func (.func 200) #[] #[]) W:=by kernel_rfl
theorem idxD3 (W:World):(Instr.index 308 (.agg #[.nilFunc,.func (.func 199) #[] #[],.func (.func 200) #[] #[],.func (.func 201) #[] #[],.func (.func 202) #[] #[],.func (.func 203) #[] #[],.func (.func 204) #[] #[]]) (.int .i64 3)).run Tryz.prog W=.ok (.func (.func 201) #[] #[]) W:=by kernel_rfl
theorem idxD4 (W:World):(Instr.index 308 (.agg #[.nilFunc,.func (.func 199) #[] #[],.func (.func 200) #[] #[],.func (.func 201) #[] #[],.func (.func 202) #[] #[],.func (.func 203) #[] #[],.func (.func 204) #[] #[]]) (.int .i64 4)).run Tryz.prog W=.ok (.func (.func 202) #[] #[]) W:=by kernel_rfl
theorem idxD5 (W:World):(Instr.index 308 (.agg #[.nilFunc,.func (.func 199) #[] #[],.func (.func 200) #[] #[],.func (.func 201) #[] #[],.func (.func 202) #[] #[],.func (.func 203) #[] #[],.func (.func 204) #[] #[]]) (.int .i64 5)).run Tryz.prog W=.ok (.func (.func 203) #[] #[]) W:=by kernel_rfl
theorem idxD6 (W:World):(Instr.index 308 (.agg #[.nilFunc,.func (.func 199) #[] #[],.func (.func 200) #[] #[],.func (.func 201) #[] #[],.func (.func 202) #[] #[],.func (.func 203) #[] #[],.func (.func 204) #[] #[]]) (.int .i64 6)).run Tryz.prog W=.ok (.func (.func 204) #[] #[]) W:=by kernel_rfl
def Mc.step (m:Mc) (Ai:Option Addr) (ci:Nat):Mc :=
 if m.next+1=m.its.length then { m with cnt:=m.cnt+1,next:=0,t:=m.t+1,Ai:=Ai,ci:=ci } else { m with cnt:=m.cnt+1,next:=m.next+1 }
theorem mstep_any (f:Mf) (hf:f.Ok) (t:Nat) (W:World) (hP:PlanAt W f.plo f.phi f.gp f.c f.p) (hh:f.phi≤W.heap.size) :
  Calls Tryz.prog 69 #[.pointer (some ⟨f.gp,0,none⟩),.int .i64 f.u,.int .i64 t] W fun e w'=>∃ A cc,e=.returned (.slice A (itsAt f t).length cc)∧(itsAt f t).length≤cc∧Rd w' w'.heap.size A (icells (itsAt f t))∧(∀ p:Addr,A=some p→W.heap.size≤p.block)∧Below W.heap.size W w':=by
 unfold itsAt
 by_cases ht:t<f.c.st
 · rw [if_pos ht]
   refine (planStep_any W f.plo f.phi f.gp f.c f.p f.u t hP hh hf.c hf.p.2 hf.u ht).mono ?_
   rintro e w' ⟨A,cc,rfl,ho,hb⟩
   exact ⟨A,cc,rfl,own_cap ho,rd_of_own ho,own_from_base ho,hb⟩
 · rw [if_neg ht]
   refine (planStep_end W f.plo f.phi f.gp f.c f.p f.u t hP hh hf.u (by omega)).mono ?_
   rintro e w' ⟨rfl,rfl⟩
   exact ⟨none,0,rfl,Nat.le_refl _,Rd.nil_ _ _ _,fun p hp=>(by cases hp),Below.refl _ _⟩
set_option maxRecDepth 100000 in
theorem mdo_any (w:World) (m:Mc) (R:List Ch) (h:Mem w (m.ps++R)) (ho:m.f.Ok) (x:It) (hx:m.its[m.next]?=some x) (hb:m.its.length≤1000000000) (hst:x.step=m.t) (htb:m.t≤1000) (hcb:m.cnt≤1000000) (hk:1≤x.kind∧x.kind≤6) (a1 a2:Option Addr) (code:Int) (K:Mc→List Ch→Prop)
  (hK:∀ m' R',K m' R'→m'.f=m.f∧m'.t=m.t∧m'.next=m.next∧m'.cnt=m.cnt)
  (CF:∀ (W:World) (Y:List Ch),Mem W (m.ps++(Y++R))→Calls Tryz.prog (kindId x.kind) #[.pointer (some ⟨m.f.g,0,none⟩),.agg x.cells.toArray,.agg #[.pointer a1,.pointer a2]] W fun e w'=>e=.returned (.int .i64 code)∧∃ m' R',K m' R'∧Mem w' (m'.ps++(Y++R'))) :
  Calls Tryz.prog 195 #[.pointer (some ⟨m.f.g,0,none⟩),.pointer a1,.pointer a2] w fun e w'=>e=.returned (.int .i64 code)∧∃ m' R',K m' R'∧((code≠0∧Mem w' (m'.ps++R'))∨(code=0∧∃ Ai ci,(m'.next+1=m'.its.length→(itsAt m'.f (m'.t+1)).length≤ci)∧Mem w' ((m'.step Ai ci).ps++R'))):=by
 have CNx:=K1 (fun (W:World) hM=>mnext_any W m R hM x hx hb)
 have CD:=K1 (fun (W:World)=>doers_any W)
 have CF:=K1 CF
 have HM:=K1 h
 have hnl:=(List.getElem?_eq_some_iff.1 hx).1
 have HK:=K1 hK
 have HO:=K1 ho
 have hnb:m.next≤1000000000:=by omega
 obtain ⟨tt,htt⟩:∃ tt,tt=m.t:=⟨_,rfl⟩
 have HTT:=K1 htt
 rw [← htt] at hst htb
 obtain ⟨kd,st,n,⟨asn,aa,t1,t2,t3,t4,t5,lo,hi⟩⟩:=x
 dsimp only [It.cells,Ac.cells] at *
 simp only [List.cons_append,List.nil_append] at *
 have hkc:kd=1∨kd=2∨kd=3∨kd=4∨kd=5∨kd=6:=by omega
 subst hst
 clear h hx hk hK ho hnl htt
 go_enter Tryz.func195,Tryz.ntmps195
 go_wp2_with fail
 refine (CNx.out _ HM.out).mono ?_
 rintro e w1 ⟨rfl,hb1⟩
 replace HM:=K1 (((HM.out.below hb1).alloc (.cells #[.int .i64 kd,.int .i64 st,.int .i64 n,.bool asn,.bool aa,.int .i64 t1,.int .i64 t2,.int .i64 t3,.int .i64 t4,.int .i64 t5,.int .i64 lo,.int .i64 hi] 146)).fA)
 clear hb1 CNx
 have HI:=K1 (show ∀ (W:World) (Y R:List Ch),Mem W ((m.ps++(.obj w1.heap.size (.cells #[.int .i64 kd,.int .i64 st,.int .i64 n,.bool asn,.bool aa,.int .i64 t1,.int .i64 t2,.int .i64 t3,.int .i64 t4,.int .i64 t5,.int .i64 lo,.int .i64 hi] 146 (0,0))::Y))++R)→∀ i,W.cell? ⟨w1.heap.size,i,none⟩=([.int .i64 kd,.int .i64 st,.int .i64 n,.bool asn,.bool aa,.int .i64 t1,.int .i64 t2,.int .i64 t3,.int .i64 t4,.int .i64 t5,.int .i64 lo,.int .i64 hi]:List Value)[i]? from fun W Y R h=>h.cells 14 rfl)
 generalize hgi:w1.heap.size=gi at *
 go_upto_region 6 with fail
 go_cut [9] from 20 to 25 (fun s9 W=>∃ gj,s9=.pointer (some ⟨gj,0,none⟩)∧Hid (Mem W ((m.ps++[.obj gi (.cells #[.int .i64 kd,.int .i64 st,.int .i64 n,.bool asn,.bool aa,.int .i64 t1,.int .i64 t2,.int .i64 t3,.int .i64 t4,.int .i64 t5,.int .i64 lo,.int .i64 hi] 146 (0,0)),.obj gj (.cells #[.int .i64 kd,.int .i64 st,.int .i64 n,.bool asn,.bool aa,.int .i64 t1,.int .i64 t2,.int .i64 t3,.int .i64 t4,.int .i64 t5,.int .i64 lo,.int .i64 hi,kindF kd] 311 (0,0))])++R)))
 case first =>
  clear CF
  refine name_wp fun W0 hW=>?_
  replace HM:=K1 (hW.out.symm ▸ HM.out)
  clear hW
  rcases hkc with hkd | hkd | hkd | hkd | hkd | hkd
  · have hz:(kd:Int)=1:=by omega
    simp only [hz] at HM HI ⊢
    have HKD:=K1 hkd
    clear hz hkd
    have hidx:=idxD1
    refine wp_region_stage (.reads [0,2,3] (.two 1 6 (.reads [4,5] (.eff 6 (.eff 7 (.fin)))) (.eff 1 (.reads [4,5] (.eff 7 (.fin)))))) 8 (fun W'=>∀ i,W'.cell? ⟨gi,i,none⟩=([.int .i64 1,.int .i64 st,.int .i64 n,.bool asn,.bool aa,.int .i64 t1,.int .i64 t2,.int .i64 t3,.int .i64 t4,.int .i64 t5,.int .i64 lo,.int .i64 hi]:List Value)[i]?)
     (by kernel_rfl) (by kernel_rfl) (by intro d v c a w h;cases d <;> exact h) ?_
    replace HM:=K1 HM.out.drew
    generalize W0.drew=V at *
    refine PlS.reads_ (HM.out.cells 14 rfl) (by kernel_rfl) ?_
    simp only [pickO,p1,p2,p3,p4]
    apply Exists.intro
    apply And.intro
    · intro W' hS
      repeat still_step
      exact wpStill_nil rfl
    refine PlS.two_ ?_ ?_
    · refine PlS.eff_ ?_
      simp only [pickO,p1,p2,p3,p4]
      go_wp2_with fail
      refine (CD.out _).mono ?_
      rintro e w3 ⟨rfl,hb3⟩
      replace HM:=K1 (HM.out.below hb3)
      clear hb3
      go_wp2_with fail
      refine After.go (HM.out.cells 14 rfl) ?_
      refine PlS.reads_ (HM.out.cells 14 rfl) (by kernel_rfl) ?_
      simp only [pickO,p1,p2,p3,p4]
      apply Exists.intro
      apply And.intro
      · intro W' hS
        repeat still_step
        exact wpStill_nil rfl
      refine PlS.eff_ ?_
      simp only [pickO,p1,p2,p3,p4]
      go_wp2_with fail
      refine name_after fun W3 hW3=>?_
      replace HM:=K1 ((HM.out.alloc_ hW3.out).fA)
      clear hW3
      generalize hgj:w3.heap.size=gj at *
      clear hgj
      refine After.go (HM.out.cells 14 rfl) ?_
      refine PlS.eff_ ?_
      simp only [pickO,p1,p2,p3,p4]
      have c14:=HM.out.cells 14 rfl
      have c15:=HM.out.cells 15 rfl
      have f15:=fun j=>HM.out.frozen 15 j rfl
      have hf:=(HM.out.fill (i:=15) rfl [.int .i64 1,.int .i64 st,.int .i64 n,.bool asn,.bool aa,.int .i64 t1,.int .i64 t2,.int .i64 t3,.int .i64 t4,.int .i64 t5,.int .i64 lo,.int .i64 hi,.func (.func 199) #[] #[]] rfl).fS rfl
      simp only [World.setCells,Nat.reduceAdd,Nat.zero_add] at hf
      have HF:=K1 hf
      clear hf HM
      go_wp2_with fail
      refine After.go (HF.out.cells 14 rfl) (PlS.fin_ ?_)
      clear c14 c15 f15
      go_wp2_with fail
      have e1:=HKD.out
      subst e1
      go_meet
      refine ⟨gj,rfl,K1 ?_⟩
      exact HF.out
    · refine PlS.eff_ ?_
      simp only [pickO,p1,p2,p3,p4]
      go_wp2_with fail
      refine name_after fun W3 hW3=>?_
      replace HM:=K1 ((HM.out.alloc_ hW3.out).fA)
      clear hW3
      generalize hgj:V.heap.size=gj at *
      clear hgj
      refine After.go (HM.out.cells 14 rfl) ?_
      refine PlS.eff_ ?_
      simp only [pickO,p1,p2,p3,p4]
      go_wp2_with fail
      refine (CD.out _).mono ?_
      rintro e w3 ⟨rfl,hb3⟩
      replace HM:=K1 (HM.out.below hb3)
      clear hb3
      go_wp2_with fail
      refine After.go (HM.out.cells 14 rfl) ?_
      refine PlS.reads_ (HM.out.cells 14 rfl) (by kernel_rfl) ?_
      simp only [pickO,p1,p2,p3,p4]
      apply Exists.intro
      apply And.intro
      · intro W' hS
        repeat still_step
        exact wpStill_nil rfl
      refine PlS.eff_ ?_
      simp only [pickO,p1,p2,p3,p4]
      have c14:=HM.out.cells 14 rfl
      have c15:=HM.out.cells 15 rfl
      have f15:=fun j=>HM.out.frozen 15 j rfl
      have hf:=(HM.out.fill (i:=15) rfl [.int .i64 1,.int .i64 st,.int .i64 n,.bool asn,.bool aa,.int .i64 t1,.int .i64 t2,.int .i64 t3,.int .i64 t4,.int .i64 t5,.int .i64 lo,.int .i64 hi,.func (.func 199) #[] #[]] rfl).fS rfl
      simp only [World.setCells,Nat.reduceAdd,Nat.zero_add] at hf
      have HF:=K1 hf
      clear hf HM
      go_wp2_with fail
      refine After.go (HF.out.cells 14 rfl) (PlS.fin_ ?_)
      clear c14 c15 f15
      go_wp2_with fail
      have e1:=HKD.out
      subst e1
      go_meet
      refine ⟨gj,rfl,K1 ?_⟩
      exact HF.out
  · have hz:(kd:Int)=2:=by omega
    simp only [hz] at HM HI ⊢
    have HKD:=K1 hkd
    clear hz hkd
    have hidx:=idxD2
    refine wp_region_stage (.reads [0,2,3] (.two 1 6 (.reads [4,5] (.eff 6 (.eff 7 (.fin)))) (.eff 1 (.reads [4,5] (.eff 7 (.fin)))))) 8 (fun W'=>∀ i,W'.cell? ⟨gi,i,none⟩=([.int .i64 2,.int .i64 st,.int .i64 n,.bool asn,.bool aa,.int .i64 t1,.int .i64 t2,.int .i64 t3,.int .i64 t4,.int .i64 t5,.int .i64 lo,.int .i64 hi]:List Value)[i]?)
     (by kernel_rfl) (by kernel_rfl) (by intro d v c a w h;cases d <;> exact h) ?_
    replace HM:=K1 HM.out.drew
    generalize W0.drew=V at *
    refine PlS.reads_ (HM.out.cells 14 rfl) (by kernel_rfl) ?_
    simp only [pickO,p1,p2,p3,p4]
    apply Exists.intro
    apply And.intro
    · intro W' hS
      repeat still_step
      exact wpStill_nil rfl
    refine PlS.two_ ?_ ?_
    · refine PlS.eff_ ?_
      simp only [pickO,p1,p2,p3,p4]
      go_wp2_with fail
      refine (CD.out _).mono ?_
      rintro e w3 ⟨rfl,hb3⟩
      replace HM:=K1 (HM.out.below hb3)
      clear hb3
      go_wp2_with fail
      refine After.go (HM.out.cells 14 rfl) ?_
      refine PlS.reads_ (HM.out.cells 14 rfl) (by kernel_rfl) ?_
      simp only [pickO,p1,p2,p3,p4]
      apply Exists.intro
      apply And.intro
      · intro W' hS
        repeat still_step
        exact wpStill_nil rfl
      refine PlS.eff_ ?_
      simp only [pickO,p1,p2,p3,p4]
      go_wp2_with fail
      refine name_after fun W3 hW3=>?_
      replace HM:=K1 ((HM.out.alloc_ hW3.out).fA)
      clear hW3
      generalize hgj:w3.heap.size=gj at *
      clear hgj
      refine After.go (HM.out.cells 14 rfl) ?_
      refine PlS.eff_ ?_
      simp only [pickO,p1,p2,p3,p4]
      have c14:=HM.out.cells 14 rfl
      have c15:=HM.out.cells 15 rfl
      have f15:=fun j=>HM.out.frozen 15 j rfl
      have hf:=(HM.out.fill (i:=15) rfl [.int .i64 2,.int .i64 st,.int .i64 n,.bool asn,.bool aa,.int .i64 t1,.int .i64 t2,.int .i64 t3,.int .i64 t4,.int .i64 t5,.int .i64 lo,.int .i64 hi,.func (.func 200) #[] #[]] rfl).fS rfl
      simp only [World.setCells,Nat.reduceAdd,Nat.zero_add] at hf
      have HF:=K1 hf
      clear hf HM
      go_wp2_with fail
      refine After.go (HF.out.cells 14 rfl) (PlS.fin_ ?_)
      clear c14 c15 f15
      go_wp2_with fail
      have e1:=HKD.out
      subst e1
      go_meet
      refine ⟨gj,rfl,K1 ?_⟩
      exact HF.out
    · refine PlS.eff_ ?_
      simp only [pickO,p1,p2,p3,p4]
      go_wp2_with fail
      refine name_after fun W3 hW3=>?_
      replace HM:=K1 ((HM.out.alloc_ hW3.out).fA)
      clear hW3
      generalize hgj:V.heap.size=gj at *
      clear hgj
      refine After.go (HM.out.cells 14 rfl) ?_
      refine PlS.eff_ ?_
      simp only [pickO,p1,p2,p3,p4]
      go_wp2_with fail
      refine (CD.out _).mono ?_
      rintro e w3 ⟨rfl,hb3⟩
      replace HM:=K1 (HM.out.below hb3)
      clear hb3
      go_wp2_with fail
      refine After.go (HM.out.cells 14 rfl) ?_
      refine PlS.reads_ (HM.out.cells 14 rfl) (by kernel_rfl) ?_
      simp only [pickO,p1,p2,p3,p4]
      apply Exists.intro
      apply And.intro
      · intro W' hS
        repeat still_step
        exact wpStill_nil rfl
      refine PlS.eff_ ?_
      simp only [pickO,p1,p2,p3,p4]
      have c14:=HM.out.cells 14 rfl
      have c15:=HM.out.cells 15 rfl
      have f15:=fun j=>HM.out.frozen 15 j rfl
      have hf:=(HM.out.fill (i:=15) rfl [.int .i64 2,.int .i64 st,.int .i64 n,.bool asn,.bool aa,.int .i64 t1,.int .i64 t2,.int .i64 t3,.int .i64 t4,.int .i64 t5,.int .i64 lo,.int .i64 hi,.func (.func 200) #[] #[]] rfl).fS rfl
      simp only [World.setCells,Nat.reduceAdd,Nat.zero_add] at hf
      have HF:=K1 hf
      clear hf HM
      go_wp2_with fail
      refine After.go (HF.out.cells 14 rfl) (PlS.fin_ ?_)
      clear c14 c15 f15
      go_wp2_with fail
      have e1:=HKD.out
      subst e1
      go_meet
      refine ⟨gj,rfl,K1 ?_⟩
      exact HF.out
  · have hz:(kd:Int)=3:=by omega
    simp only [hz] at HM HI ⊢
    have HKD:=K1 hkd
    clear hz hkd
    have hidx:=idxD3
    refine wp_region_stage (.reads [0,2,3] (.two 1 6 (.reads [4,5] (.eff 6 (.eff 7 (.fin)))) (.eff 1 (.reads [4,5] (.eff 7 (.fin)))))) 8 (fun W'=>∀ i,W'.cell? ⟨gi,i,none⟩=([.int .i64 3,.int .i64 st,.int .i64 n,.bool asn,.bool aa,.int .i64 t1,.int .i64 t2,.int .i64 t3,.int .i64 t4,.int .i64 t5,.int .i64 lo,.int .i64 hi]:List Value)[i]?)
     (by kernel_rfl) (by kernel_rfl) (by intro d v c a w h;cases d <;> exact h) ?_
    replace HM:=K1 HM.out.drew
    generalize W0.drew=V at *
    refine PlS.reads_ (HM.out.cells 14 rfl) (by kernel_rfl) ?_
    simp only [pickO,p1,p2,p3,p4]
    apply Exists.intro
    apply And.intro
    · intro W' hS
      repeat still_step
      exact wpStill_nil rfl
    refine PlS.two_ ?_ ?_
    · refine PlS.eff_ ?_
      simp only [pickO,p1,p2,p3,p4]
      go_wp2_with fail
      refine (CD.out _).mono ?_
      rintro e w3 ⟨rfl,hb3⟩
      replace HM:=K1 (HM.out.below hb3)
      clear hb3
      go_wp2_with fail
      refine After.go (HM.out.cells 14 rfl) ?_
      refine PlS.reads_ (HM.out.cells 14 rfl) (by kernel_rfl) ?_
      simp only [pickO,p1,p2,p3,p4]
      apply Exists.intro
      apply And.intro
      · intro W' hS
        repeat still_step
        exact wpStill_nil rfl
      refine PlS.eff_ ?_
      simp only [pickO,p1,p2,p3,p4]
      go_wp2_with fail
      refine name_after fun W3 hW3=>?_
      replace HM:=K1 ((HM.out.alloc_ hW3.out).fA)
      clear hW3
      generalize hgj:w3.heap.size=gj at *
      clear hgj
      refine After.go (HM.out.cells 14 rfl) ?_
      refine PlS.eff_ ?_
      simp only [pickO,p1,p2,p3,p4]
      have c14:=HM.out.cells 14 rfl
      have c15:=HM.out.cells 15 rfl
      have f15:=fun j=>HM.out.frozen 15 j rfl
      have hf:=(HM.out.fill (i:=15) rfl [.int .i64 3,.int .i64 st,.int .i64 n,.bool asn,.bool aa,.int .i64 t1,.int .i64 t2,.int .i64 t3,.int .i64 t4,.int .i64 t5,.int .i64 lo,.int .i64 hi,.func (.func 201) #[] #[]] rfl).fS rfl
      simp only [World.setCells,Nat.reduceAdd,Nat.zero_add] at hf
      have HF:=K1 hf
      clear hf HM
      go_wp2_with fail
      refine After.go (HF.out.cells 14 rfl) (PlS.fin_ ?_)
      clear c14 c15 f15
      go_wp2_with fail
      have e1:=HKD.out
      subst e1
      go_meet
      refine ⟨gj,rfl,K1 ?_⟩
      exact HF.out
    · refine PlS.eff_ ?_
      simp only [pickO,p1,p2,p3,p4]
      go_wp2_with fail
      refine name_after fun W3 hW3=>?_
      replace HM:=K1 ((HM.out.alloc_ hW3.out).fA)
      clear hW3
      generalize hgj:V.heap.size=gj at *
      clear hgj
      refine After.go (HM.out.cells 14 rfl) ?_
      refine PlS.eff_ ?_
      simp only [pickO,p1,p2,p3,p4]
      go_wp2_with fail
      refine (CD.out _).mono ?_
      rintro e w3 ⟨rfl,hb3⟩
      replace HM:=K1 (HM.out.below hb3)
      clear hb3
      go_wp2_with fail
      refine After.go (HM.out.cells 14 rfl) ?_
      refine PlS.reads_ (HM.out.cells 14 rfl) (by kernel_rfl) ?_
      simp only [pickO,p1,p2,p3,p4]
      apply Exists.intro
      apply And.intro
      · intro W' hS
        repeat still_step
        exact wpStill_nil rfl
      refine PlS.eff_ ?_
      simp only [pickO,p1,p2,p3,p4]
      have c14:=HM.out.cells 14 rfl
      have c15:=HM.out.cells 15 rfl
      have f15:=fun j=>HM.out.frozen 15 j rfl
      have hf:=(HM.out.fill (i:=15) rfl [.int .i64 3,.int .i64 st,.int .i64 n,.bool asn,.bool aa,.int .i64 t1,.int .i64 t2,.int .i64 t3,.int .i64 t4,.int .i64 t5,.int .i64 lo,.int .i64 hi,.func (.func 201) #[] #[]] rfl).fS rfl
      simp only [World.setCells,Nat.reduceAdd,Nat.zero_add] at hf
      have HF:=K1 hf
      clear hf HM
      go_wp2_with fail
      refine After.go (HF.out.cells 14 rfl) (PlS.fin_ ?_)
      clear c14 c15 f15
      go_wp2_with fail
      have e1:=HKD.out
      subst e1
      go_meet
      refine ⟨gj,rfl,K1 ?_⟩
      exact HF.out
  · have hz:(kd:Int)=4:=by omega
    simp only [hz] at HM HI ⊢
    have HKD:=K1 hkd
    clear hz hkd
    have hidx:=idxD4
    refine wp_region_stage (.reads [0,2,3] (.two 1 6 (.reads [4,5] (.eff 6 (.eff 7 (.fin)))) (.eff 1 (.reads [4,5] (.eff 7 (.fin)))))) 8 (fun W'=>∀ i,W'.cell? ⟨gi,i,none⟩=([.int .i64 4,.int .i64 st,.int .i64 n,.bool asn,.bool aa,.int .i64 t1,.int .i64 t2,.int .i64 t3,.int .i64 t4,.int .i64 t5,.int .i64 lo,.int .i64 hi]:List Value)[i]?)
     (by kernel_rfl) (by kernel_rfl) (by intro d v c a w h;cases d <;> exact h) ?_
    replace HM:=K1 HM.out.drew
    generalize W0.drew=V at *
    refine PlS.reads_ (HM.out.cells 14 rfl) (by kernel_rfl) ?_
    simp only [pickO,p1,p2,p3,p4]
    apply Exists.intro
    apply And.intro
    · intro W' hS
      repeat still_step
      exact wpStill_nil rfl
    refine PlS.two_ ?_ ?_
    · refine PlS.eff_ ?_
      simp only [pickO,p1,p2,p3,p4]
      go_wp2_with fail
      refine (CD.out _).mono ?_
      rintro e w3 ⟨rfl,hb3⟩
      replace HM:=K1 (HM.out.below hb3)
      clear hb3
      go_wp2_with fail
      refine After.go (HM.out.cells 14 rfl) ?_
      refine PlS.reads_ (HM.out.cells 14 rfl) (by kernel_rfl) ?_
      simp only [pickO,p1,p2,p3,p4]
      apply Exists.intro
      apply And.intro
      · intro W' hS
        repeat still_step
        exact wpStill_nil rfl
      refine PlS.eff_ ?_
      simp only [pickO,p1,p2,p3,p4]
      go_wp2_with fail
      refine name_after fun W3 hW3=>?_
      replace HM:=K1 ((HM.out.alloc_ hW3.out).fA)
      clear hW3
      generalize hgj:w3.heap.size=gj at *
      clear hgj
      refine After.go (HM.out.cells 14 rfl) ?_
      refine PlS.eff_ ?_
      simp only [pickO,p1,p2,p3,p4]
      have c14:=HM.out.cells 14 rfl
      have c15:=HM.out.cells 15 rfl
      have f15:=fun j=>HM.out.frozen 15 j rfl
      have hf:=(HM.out.fill (i:=15) rfl [.int .i64 4,.int .i64 st,.int .i64 n,.bool asn,.bool aa,.int .i64 t1,.int .i64 t2,.int .i64 t3,.int .i64 t4,.int .i64 t5,.int .i64 lo,.int .i64 hi,.func (.func 202) #[] #[]] rfl).fS rfl
      simp only [World.setCells,Nat.reduceAdd,Nat.zero_add] at hf
      have HF:=K1 hf
      clear hf HM
      go_wp2_with fail
      refine After.go (HF.out.cells 14 rfl) (PlS.fin_ ?_)
      clear c14 c15 f15
      go_wp2_with fail
      have e1:=HKD.out
      subst e1
      go_meet
      refine ⟨gj,rfl,K1 ?_⟩
      exact HF.out
    · refine PlS.eff_ ?_
      simp only [pickO,p1,p2,p3,p4]
      go_wp2_with fail
      refine name_after fun W3 hW3=>?_
      replace HM:=K1 ((HM.out.alloc_ hW3.out).fA)
      clear hW3
      generalize hgj:V.heap.size=gj at *
      clear hgj
      refine After.go (HM.out.cells 14 rfl) ?_
      refine PlS.eff_ ?_
      simp only [pickO,p1,p2,p3,p4]
      go_wp2_with fail
      refine (CD.out _).mono ?_
      rintro e w3 ⟨rfl,hb3⟩
      replace HM:=K1 (HM.out.below hb3)
      clear hb3
      go_wp2_with fail
      refine After.go (HM.out.cells 14 rfl) ?_
      refine PlS.reads_ (HM.out.cells 14 rfl) (by kernel_rfl) ?_
      simp only [pickO,p1,p2,p3,p4]
      apply Exists.intro
      apply And.intro
      · intro W' hS
        repeat still_step
        exact wpStill_nil rfl
      refine PlS.eff_ ?_
      simp only [pickO,p1,p2,p3,p4]
      have c14:=HM.out.cells 14 rfl
      have c15:=HM.out.cells 15 rfl
      have f15:=fun j=>HM.out.frozen 15 j rfl
      have hf:=(HM.out.fill (i:=15) rfl [.int .i64 4,.int .i64 st,.int .i64 n,.bool asn,.bool aa,.int .i64 t1,.int .i64 t2,.int .i64 t3,.int .i64 t4,.int .i64 t5,.int .i64 lo,.int .i64 hi,.func (.func 202) #[] #[]] rfl).fS rfl
      simp only [World.setCells,Nat.reduceAdd,Nat.zero_add] at hf
      have HF:=K1 hf
      clear hf HM
      go_wp2_with fail
      refine After.go (HF.out.cells 14 rfl) (PlS.fin_ ?_)
      clear c14 c15 f15
      go_wp2_with fail
      have e1:=HKD.out
      subst e1
      go_meet
      refine ⟨gj,rfl,K1 ?_⟩
      exact HF.out
  · have hz:(kd:Int)=5:=by omega
    simp only [hz] at HM HI ⊢
    have HKD:=K1 hkd
    clear hz hkd
    have hidx:=idxD5
    refine wp_region_stage (.reads [0,2,3] (.two 1 6 (.reads [4,5] (.eff 6 (.eff 7 (.fin)))) (.eff 1 (.reads [4,5] (.eff 7 (.fin)))))) 8 (fun W'=>∀ i,W'.cell? ⟨gi,i,none⟩=([.int .i64 5,.int .i64 st,.int .i64 n,.bool asn,.bool aa,.int .i64 t1,.int .i64 t2,.int .i64 t3,.int .i64 t4,.int .i64 t5,.int .i64 lo,.int .i64 hi]:List Value)[i]?)
     (by kernel_rfl) (by kernel_rfl) (by intro d v c a w h;cases d <;> exact h) ?_
    replace HM:=K1 HM.out.drew
    generalize W0.drew=V at *
    refine PlS.reads_ (HM.out.cells 14 rfl) (by kernel_rfl) ?_
    simp only [pickO,p1,p2,p3,p4]
    apply Exists.intro
    apply And.intro
    · intro W' hS
      repeat still_step
      exact wpStill_nil rfl
    refine PlS.two_ ?_ ?_
    · refine PlS.eff_ ?_
      simp only [pickO,p1,p2,p3,p4]
      go_wp2_with fail
      refine (CD.out _).mono ?_
      rintro e w3 ⟨rfl,hb3⟩
      replace HM:=K1 (HM.out.below hb3)
      clear hb3
      go_wp2_with fail
      refine After.go (HM.out.cells 14 rfl) ?_
      refine PlS.reads_ (HM.out.cells 14 rfl) (by kernel_rfl) ?_
      simp only [pickO,p1,p2,p3,p4]
      apply Exists.intro
      apply And.intro
      · intro W' hS
        repeat still_step
        exact wpStill_nil rfl
      refine PlS.eff_ ?_
      simp only [pickO,p1,p2,p3,p4]
      go_wp2_with fail
      refine name_after fun W3 hW3=>?_
      replace HM:=K1 ((HM.out.alloc_ hW3.out).fA)
      clear hW3
      generalize hgj:w3.heap.size=gj at *
      clear hgj
      refine After.go (HM.out.cells 14 rfl) ?_
      refine PlS.eff_ ?_
      simp only [pickO,p1,p2,p3,p4]
      have c14:=HM.out.cells 14 rfl
      have c15:=HM.out.cells 15 rfl
      have f15:=fun j=>HM.out.frozen 15 j rfl
      have hf:=(HM.out.fill (i:=15) rfl [.int .i64 5,.int .i64 st,.int .i64 n,.bool asn,.bool aa,.int .i64 t1,.int .i64 t2,.int .i64 t3,.int .i64 t4,.int .i64 t5,.int .i64 lo,.int .i64 hi,.func (.func 203) #[] #[]] rfl).fS rfl
      simp only [World.setCells,Nat.reduceAdd,Nat.zero_add] at hf
      have HF:=K1 hf
      clear hf HM
      go_wp2_with fail
      refine After.go (HF.out.cells 14 rfl) (PlS.fin_ ?_)
      clear c14 c15 f15
      go_wp2_with fail
      have e1:=HKD.out
      subst e1
      go_meet
      refine ⟨gj,rfl,K1 ?_⟩
      exact HF.out
    · refine PlS.eff_ ?_
      simp only [pickO,p1,p2,p3,p4]
      go_wp2_with fail
      refine name_after fun W3 hW3=>?_
      replace HM:=K1 ((HM.out.alloc_ hW3.out).fA)
      clear hW3
      generalize hgj:V.heap.size=gj at *
      clear hgj
      refine After.go (HM.out.cells 14 rfl) ?_
      refine PlS.eff_ ?_
      simp only [pickO,p1,p2,p3,p4]
      go_wp2_with fail
      refine (CD.out _).mono ?_
      rintro e w3 ⟨rfl,hb3⟩
      replace HM:=K1 (HM.out.below hb3)
      clear hb3
      go_wp2_with fail
      refine After.go (HM.out.cells 14 rfl) ?_
      refine PlS.reads_ (HM.out.cells 14 rfl) (by kernel_rfl) ?_
      simp only [pickO,p1,p2,p3,p4]
      apply Exists.intro
      apply And.intro
      · intro W' hS
        repeat still_step
        exact wpStill_nil rfl
      refine PlS.eff_ ?_
      simp only [pickO,p1,p2,p3,p4]
      have c14:=HM.out.cells 14 rfl
      have c15:=HM.out.cells 15 rfl
      have f15:=fun j=>HM.out.frozen 15 j rfl
      have hf:=(HM.out.fill (i:=15) rfl [.int .i64 5,.int .i64 st,.int .i64 n,.bool asn,.bool aa,.int .i64 t1,.int .i64 t2,.int .i64 t3,.int .i64 t4,.int .i64 t5,.int .i64 lo,.int .i64 hi,.func (.func 203) #[] #[]] rfl).fS rfl
      simp only [World.setCells,Nat.reduceAdd,Nat.zero_add] at hf
      have HF:=K1 hf
      clear hf HM
      go_wp2_with fail
      refine After.go (HF.out.cells 14 rfl) (PlS.fin_ ?_)
      clear c14 c15 f15
      go_wp2_with fail
      have e1:=HKD.out
      subst e1
      go_meet
      refine ⟨gj,rfl,K1 ?_⟩
      exact HF.out
  · have hz:(kd:Int)=6:=by omega
    simp only [hz] at HM HI ⊢
    have HKD:=K1 hkd
    clear hz hkd
    have hidx:=idxD6
    refine wp_region_stage (.reads [0,2,3] (.two 1 6 (.reads [4,5] (.eff 6 (.eff 7 (.fin)))) (.eff 1 (.reads [4,5] (.eff 7 (.fin)))))) 8 (fun W'=>∀ i,W'.cell? ⟨gi,i,none⟩=([.int .i64 6,.int .i64 st,.int .i64 n,.bool asn,.bool aa,.int .i64 t1,.int .i64 t2,.int .i64 t3,.int .i64 t4,.int .i64 t5,.int .i64 lo,.int .i64 hi]:List Value)[i]?)
     (by kernel_rfl) (by kernel_rfl) (by intro d v c a w h;cases d <;> exact h) ?_
    replace HM:=K1 HM.out.drew
    generalize W0.drew=V at *
    refine PlS.reads_ (HM.out.cells 14 rfl) (by kernel_rfl) ?_
    simp only [pickO,p1,p2,p3,p4]
    apply Exists.intro
    apply And.intro
    · intro W' hS
      repeat still_step
      exact wpStill_nil rfl
    refine PlS.two_ ?_ ?_
    · refine PlS.eff_ ?_
      simp only [pickO,p1,p2,p3,p4]
      go_wp2_with fail
      refine (CD.out _).mono ?_
      rintro e w3 ⟨rfl,hb3⟩
      replace HM:=K1 (HM.out.below hb3)
      clear hb3
      go_wp2_with fail
      refine After.go (HM.out.cells 14 rfl) ?_
      refine PlS.reads_ (HM.out.cells 14 rfl) (by kernel_rfl) ?_
      simp only [pickO,p1,p2,p3,p4]
      apply Exists.intro
      apply And.intro
      · intro W' hS
        repeat still_step
        exact wpStill_nil rfl
      refine PlS.eff_ ?_
      simp only [pickO,p1,p2,p3,p4]
      go_wp2_with fail
      refine name_after fun W3 hW3=>?_
      replace HM:=K1 ((HM.out.alloc_ hW3.out).fA)
      clear hW3
      generalize hgj:w3.heap.size=gj at *
      clear hgj
      refine After.go (HM.out.cells 14 rfl) ?_
      refine PlS.eff_ ?_
      simp only [pickO,p1,p2,p3,p4]
      have c14:=HM.out.cells 14 rfl
      have c15:=HM.out.cells 15 rfl
      have f15:=fun j=>HM.out.frozen 15 j rfl
      have hf:=(HM.out.fill (i:=15) rfl [.int .i64 6,.int .i64 st,.int .i64 n,.bool asn,.bool aa,.int .i64 t1,.int .i64 t2,.int .i64 t3,.int .i64 t4,.int .i64 t5,.int .i64 lo,.int .i64 hi,.func (.func 204) #[] #[]] rfl).fS rfl
      simp only [World.setCells,Nat.reduceAdd,Nat.zero_add] at hf
      have HF:=K1 hf
      clear hf HM
      go_wp2_with fail
      refine After.go (HF.out.cells 14 rfl) (PlS.fin_ ?_)
      clear c14 c15 f15
      go_wp2_with fail
      have e1:=HKD.out
      subst e1
      go_meet
      refine ⟨gj,rfl,K1 ?_⟩
      exact HF.out
    · refine PlS.eff_ ?_
      simp only [pickO,p1,p2,p3,p4]
      go_wp2_with fail
      refine name_after fun W3 hW3=>?_
      replace HM:=K1 ((HM.out.alloc_ hW3.out).fA)
      clear hW3
      generalize hgj:V.heap.size=gj at *
      clear hgj
      refine After.go (HM.out.cells 14 rfl) ?_
      refine PlS.eff_ ?_
      simp only [pickO,p1,p2,p3,p4]
      go_wp2_with fail
      refine (CD.out _).mono ?_
      rintro e w3 ⟨rfl,hb3⟩
      replace HM:=K1 (HM.out.below hb3)
      clear hb3
      go_wp2_with fail
      refine After.go (HM.out.cells 14 rfl) ?_
      refine PlS.reads_ (HM.out.cells 14 rfl) (by kernel_rfl) ?_
      simp only [pickO,p1,p2,p3,p4]
      apply Exists.intro
      apply And.intro
      · intro W' hS
        repeat still_step
        exact wpStill_nil rfl
      refine PlS.eff_ ?_
      simp only [pickO,p1,p2,p3,p4]
      have c14:=HM.out.cells 14 rfl
      have c15:=HM.out.cells 15 rfl
      have f15:=fun j=>HM.out.frozen 15 j rfl
      have hf:=(HM.out.fill (i:=15) rfl [.int .i64 6,.int .i64 st,.int .i64 n,.bool asn,.bool aa,.int .i64 t1,.int .i64 t2,.int .i64 t3,.int .i64 t4,.int .i64 t5,.int .i64 lo,.int .i64 hi,.func (.func 204) #[] #[]] rfl).fS rfl
      simp only [World.setCells,Nat.reduceAdd,Nat.zero_add] at hf
      have HF:=K1 hf
      clear hf HM
      go_wp2_with fail
      refine After.go (HF.out.cells 14 rfl) (PlS.fin_ ?_)
      clear c14 c15 f15
      go_wp2_with fail
      have e1:=HKD.out
      subst e1
      go_meet
      refine ⟨gj,rfl,K1 ?_⟩
      exact HF.out
 case rest =>
  obtain ⟨gj,rfl,HMj⟩:=hcut
  clear HM CD
  go_upto_region 7 with fail
  go_cut [10] from 26 to 34 (fun s10 W=>s10=.int .i64 code∧∃ m' R',Hid (K m' R')∧Hid (Mem W ((m'.ps++[.obj gi (.cells #[.int .i64 kd,.int .i64 st,.int .i64 n,.bool asn,.bool aa,.int .i64 t1,.int .i64 t2,.int .i64 t3,.int .i64 t4,.int .i64 t5,.int .i64 lo,.int .i64 hi] 146 (0,0))])++R')))
  case first =>
   rcases hkc with hkd | hkd | hkd | hkd | hkd | hkd
   · have hz:(kd:Int)=1:=by omega
     have hkf:kindF kd=.func (.func 199) #[] #[]:=by rw [hkd];rfl
     have hki:kindId kd=199:=by rw [hkd];rfl
     simp only [hz,hkf] at HMj HI ⊢
     simp only [hz,hki] at CF
     have HKD:=K1 hkd
     clear hz hkd hkf hki
     have c14:=HMj.out.cells 14 rfl
     have c15:=HMj.out.cells 15 rfl
     go_wp2_with fail
     refine (CF.out _ _ HMj.out.asc).mono ?_
     rintro e w5 ⟨rfl,m',R',hk',hm5⟩
     have HK5:=K1 hk'
     have HM5:=K1 hm5
     clear hk' hm5 CF c14 c15
     go_wp2_with fail
     have e1:=HKD.out
     subst e1
     go_meet
     refine ⟨rfl,m',R',HK5,K1 ?_⟩
     exact HM5.out.sub_ (by rw [List.append_assoc];exact List.Sublist.append_left (List.Sublist.cons_cons _ (List.Sublist.cons _ (List.Sublist.refl _))) _)
   · have hz:(kd:Int)=2:=by omega
     have hkf:kindF kd=.func (.func 200) #[] #[]:=by rw [hkd];rfl
     have hki:kindId kd=200:=by rw [hkd];rfl
     simp only [hz,hkf] at HMj HI ⊢
     simp only [hz,hki] at CF
     have HKD:=K1 hkd
     clear hz hkd hkf hki
     have c14:=HMj.out.cells 14 rfl
     have c15:=HMj.out.cells 15 rfl
     go_wp2_with fail
     refine (CF.out _ _ HMj.out.asc).mono ?_
     rintro e w5 ⟨rfl,m',R',hk',hm5⟩
     have HK5:=K1 hk'
     have HM5:=K1 hm5
     clear hk' hm5 CF c14 c15
     go_wp2_with fail
     have e1:=HKD.out
     subst e1
     go_meet
     refine ⟨rfl,m',R',HK5,K1 ?_⟩
     exact HM5.out.sub_ (by rw [List.append_assoc];exact List.Sublist.append_left (List.Sublist.cons_cons _ (List.Sublist.cons _ (List.Sublist.refl _))) _)
   · have hz:(kd:Int)=3:=by omega
     have hkf:kindF kd=.func (.func 201) #[] #[]:=by rw [hkd];rfl
     have hki:kindId kd=201:=by rw [hkd];rfl
     simp only [hz,hkf] at HMj HI ⊢
     simp only [hz,hki] at CF
     have HKD:=K1 hkd
     clear hz hkd hkf hki
     have c14:=HMj.out.cells 14 rfl
     have c15:=HMj.out.cells 15 rfl
     go_wp2_with fail
     refine (CF.out _ _ HMj.out.asc).mono ?_
     rintro e w5 ⟨rfl,m',R',hk',hm5⟩
     have HK5:=K1 hk'
     have HM5:=K1 hm5
     clear hk' hm5 CF c14 c15
     go_wp2_with fail
     have e1:=HKD.out
     subst e1
     go_meet
     refine ⟨rfl,m',R',HK5,K1 ?_⟩
     exact HM5.out.sub_ (by rw [List.append_assoc];exact List.Sublist.append_left (List.Sublist.cons_cons _ (List.Sublist.cons _ (List.Sublist.refl _))) _)
   · have hz:(kd:Int)=4:=by omega
     have hkf:kindF kd=.func (.func 202) #[] #[]:=by rw [hkd];rfl
     have hki:kindId kd=202:=by rw [hkd];rfl
     simp only [hz,hkf] at HMj HI ⊢
     simp only [hz,hki] at CF
     have HKD:=K1 hkd
     clear hz hkd hkf hki
     have c14:=HMj.out.cells 14 rfl
     have c15:=HMj.out.cells 15 rfl
     go_wp2_with fail
     refine (CF.out _ _ HMj.out.asc).mono ?_
     rintro e w5 ⟨rfl,m',R',hk',hm5⟩
     have HK5:=K1 hk'
     have HM5:=K1 hm5
     clear hk' hm5 CF c14 c15
     go_wp2_with fail
     have e1:=HKD.out
     subst e1
     go_meet
     refine ⟨rfl,m',R',HK5,K1 ?_⟩
     exact HM5.out.sub_ (by rw [List.append_assoc];exact List.Sublist.append_left (List.Sublist.cons_cons _ (List.Sublist.cons _ (List.Sublist.refl _))) _)
   · have hz:(kd:Int)=5:=by omega
     have hkf:kindF kd=.func (.func 203) #[] #[]:=by rw [hkd];rfl
     have hki:kindId kd=203:=by rw [hkd];rfl
     simp only [hz,hkf] at HMj HI ⊢
     simp only [hz,hki] at CF
     have HKD:=K1 hkd
     clear hz hkd hkf hki
     have c14:=HMj.out.cells 14 rfl
     have c15:=HMj.out.cells 15 rfl
     go_wp2_with fail
     refine (CF.out _ _ HMj.out.asc).mono ?_
     rintro e w5 ⟨rfl,m',R',hk',hm5⟩
     have HK5:=K1 hk'
     have HM5:=K1 hm5
     clear hk' hm5 CF c14 c15
     go_wp2_with fail
     have e1:=HKD.out
     subst e1
     go_meet
     refine ⟨rfl,m',R',HK5,K1 ?_⟩
     exact HM5.out.sub_ (by rw [List.append_assoc];exact List.Sublist.append_left (List.Sublist.cons_cons _ (List.Sublist.cons _ (List.Sublist.refl _))) _)
   · have hz:(kd:Int)=6:=by omega
     have hkf:kindF kd=.func (.func 204) #[] #[]:=by rw [hkd];rfl
     have hki:kindId kd=204:=by rw [hkd];rfl
     simp only [hz,hkf] at HMj HI ⊢
     simp only [hz,hki] at CF
     have HKD:=K1 hkd
     clear hz hkd hkf hki
     have c14:=HMj.out.cells 14 rfl
     have c15:=HMj.out.cells 15 rfl
     go_wp2_with fail
     refine (CF.out _ _ HMj.out.asc).mono ?_
     rintro e w5 ⟨rfl,m',R',hk',hm5⟩
     have HK5:=K1 hk'
     have HM5:=K1 hm5
     clear hk' hm5 CF c14 c15
     go_wp2_with fail
     have e1:=HKD.out
     subst e1
     go_meet
     refine ⟨rfl,m',R',HK5,K1 ?_⟩
     exact HM5.out.sub_ (by rw [List.append_assoc];exact List.Sublist.append_left (List.Sublist.cons_cons _ (List.Sublist.cons _ (List.Sublist.refl _))) _)
  case rest =>
   obtain ⟨rfl,m',R',HK5,HM5⟩:=hcut
   clear HMj CF
   by_cases hc0:code=0
   · subst hc0
     obtain ⟨f1,f2,f3,f4⟩:=HK.out _ _ HK5.out
     obtain ⟨f',B',gP',cP',P',gM',cM',M',BG',gG',G',BR',Ar',cr',rcd',Ai',ci',t',nx',cn',BO',Ao',co',opn'⟩:=m'
     dsimp only at f1 f2 f3 f4
     subst f1
     have hm5:=HM5.out
     rw [← f4] at hcb
     rw [← f3] at hnb
     have HF1:=K1 f2
     clear f2 f3 f4
     have c17:=(blk_cells (hm5.obj 0 rfl) 17).trans (show _=some (.int .i64 cn') from rfl)
     have c16:=(blk_cells (hm5.obj 0 rfl) 16).trans (show _=some (.int .i64 nx') from rfl)
     have f0:=fun j=>hm5.frozen 0 j rfl
     dsimp only at c17 c16 f0
     obtain ⟨cn1,hcn1⟩:∃ cn1,cn1=cn'+1:=⟨_,rfl⟩
     have hcn1i:(cn':Int)+1=(cn1:Int):=by omega
     have wcn1:IntKind.i64.wrap (cn1:Int)=(cn1:Int):=IntWalk.i64_in _ (by omega)
     obtain ⟨nx1,hnx1⟩:∃ nx1,nx1=nx'+1:=⟨_,rfl⟩
     have hnx1i:(nx':Int)+1=(nx1:Int):=by omega
     have wnx1:IntKind.i64.wrap (nx1:Int)=(nx1:Int):=IntWalk.i64_in _ (by omega)
     obtain ⟨tt1,htt1⟩:∃ tt1,tt1=st+1:=⟨_,rfl⟩
     have htt1i:(st:Int)+1=(tt1:Int):=by omega
     have wtt1:IntKind.i64.wrap (tt1:Int)=(tt1:Int):=IntWalk.i64_in _ (by omega)
     have HNX:=K1 (And.intro hcn1 (And.intro hnx1 htt1))
     clear hcn1 hnx1 htt1
     have hm6:=(((hm5.set (i:=0) (j:=17) rfl (.int .i64 cn1)).fS rfl).set (i:=0) (j:=16) rfl (.int .i64 nx1)).fS rfl
     replace HM5:=K1 hm6
     clear hm5 hm6
     obtain ⟨len,hlen⟩:∃ len,len=(itsAt m.f t').length:=⟨_,rfl⟩
     have HLE:=K1 hlen
     clear hlen
     go_wp2_with fail
     refine name_wp fun W6 hW=>?_
     replace HM5:=K1 (hW.out.symm ▸ HM5.out)
     clear hW c16 c17 f0
     refine wp_region_stage (.reads [0,1,2,3,4,5,6,7,8,9] .fin) 10 (fun W'=>W'.cell? ⟨m.f.g,16,none⟩=some (.int .i64 nx1)∧W'.cell? ⟨m.f.g,15,none⟩=some (.slice Ai' len ci'))
      (by kernel_rfl) (by kernel_rfl) (by intro d v c a w h;cases d <;> exact h) ?_
     replace HM5:=K1 HM5.out.drew
     generalize W6.drew=V6 at *
     refine PlS.reads_ (⟨blk_cells (HM5.out.obj 0 rfl) 16,by rw [HLE.out];exact blk_cells (HM5.out.obj 0 rfl) 15⟩) (by kernel_rfl) ?_
     simp only [pickO,p1,p2,p3,p4]
     apply Exists.intro
     apply And.intro
     · intro W' hS
       obtain ⟨s1,s2⟩:=hS
       repeat still_step
       exact wpStill_nil rfl
     refine PlS.fin_ ?_
     by_cases hl:nx1=len
     · have HL:=K1 hl
       have hl2:((nx1:Int) == (len:Int))=true:=by rw [hl];simp
       clear hl
       go_wp2_with fail
       refine name_wp fun W7 hW=>?_
       replace HM5:=K1 (hW.out.symm ▸ HM5.out)
       clear hW
       refine wp_region_stage (.reads [0,1,2,3,4,5,6,7,8,9,10,11,12,13,14] (.eff 15 (.reads [16,17] (.eff 18 (.reads [19,20] (.eff 21 (.fin))))))) 22 (fun W'=>W'.cell? ⟨m.f.g,6,none⟩=some (.pointer (some ⟨m.f.gp,0,none⟩))∧W'.cell? ⟨m.f.g,0,none⟩=some (.int .i64 m.f.u)∧W'.cell? ⟨gi,1,none⟩=some (.int .i64 st))
        (by kernel_rfl) (by kernel_rfl) (by intro d v c a w h;cases d <;> exact h) ?_
       replace HM5:=K1 HM5.out.drew
       generalize W7.drew=V7 at *
       refine PlS.reads_ (⟨blk_cells (HM5.out.obj 0 rfl) 6,blk_cells (HM5.out.obj 0 rfl) 0,HM5.out.cells 14 rfl 1⟩) (by kernel_rfl) ?_
       simp only [pickO,p1,p2,p3,p4]
       apply Exists.intro
       apply And.intro
       · intro W' hS
         obtain ⟨s1,s2,s3⟩:=hS
         repeat still_step
         exact wpStill_nil rfl
       refine PlS.eff_ ?_
       simp only [pickO,p1,p2,p3,p4]
       go_wp2_with fail
       have hph:m.f.phi≤V7.heap.size:=st_lt (HM5.out.holds 11 _ rfl) (HM5.out.st 11 rfl).in_
       refine (mstep_any m.f HO.out tt1 V7 (HM5.out.st 11 rfl) hph).mono ?_
       rintro e w8 ⟨A8,c8,rfl,hc8,hr8,hA8,hb8⟩
       have HM7:=K1 ((HM5.out.push_rd hb8 hr8 hA8).fA)
       have HC8:=K1 hc8
       clear hb8 hr8 hA8 hph HM5 hc8
       go_wp2_with fail
       refine After.go (⟨blk_cells (HM7.out.obj 0 rfl) 6,blk_cells (HM7.out.obj 0 rfl) 0,HM7.out.cells 14 rfl 1⟩) ?_
       refine PlS.reads_ (⟨blk_cells (HM7.out.obj 0 rfl) 6,blk_cells (HM7.out.obj 0 rfl) 0,HM7.out.cells 14 rfl 1⟩) (by kernel_rfl) ?_
       simp only [pickO,p1,p2,p3,p4]
       apply Exists.intro
       apply And.intro
       · intro W' hS
         clear hS
         repeat still_step
         exact wpStill_nil rfl
       refine PlS.eff_ ?_
       simp only [pickO,p1,p2,p3,p4]
       have c15:=(blk_cells (HM7.out.obj 0 rfl) 15).trans (show _=some (.slice Ai' (itsAt m.f t').length ci') from rfl)
       have f15:=fun j=>HM7.out.frozen 0 j rfl
       try dsimp only at c15 f15
       have HM8:=K1 ((HM7.out.set (i:=0) (j:=15) rfl (.slice A8 (itsAt m.f tt1).length c8)).fS rfl)
       clear HM7
       go_wp2_with fail
       refine After.go (⟨blk_cells (HM8.out.obj 0 rfl) 6,blk_cells (HM8.out.obj 0 rfl) 0,HM8.out.cells 14 rfl 1⟩) ?_
       clear c15 f15
       refine PlS.reads_ (⟨blk_cells (HM8.out.obj 0 rfl) 6,blk_cells (HM8.out.obj 0 rfl) 0,HM8.out.cells 14 rfl 1⟩) (by kernel_rfl) ?_
       simp only [pickO,p1,p2,p3,p4]
       apply Exists.intro
       apply And.intro
       · intro W' hS
         clear hS
         repeat still_step
         exact wpStill_nil rfl
       refine PlS.eff_ ?_
       simp only [pickO,p1,p2,p3,p4]
       have c16:=(blk_cells (HM8.out.obj 0 rfl) 16).trans (show _=some (.int .i64 nx1) from rfl)
       have f16:=fun j=>HM8.out.frozen 0 j rfl
       try dsimp only at c16 f16
       have HM9:=K1 ((HM8.out.set (i:=0) (j:=16) rfl (.int .i64 0)).fS rfl)
       clear HM8
       go_wp2_with fail
       refine After.go (⟨blk_cells (HM9.out.obj 0 rfl) 6,blk_cells (HM9.out.obj 0 rfl) 0,HM9.out.cells 14 rfl 1⟩) (PlS.fin_ ?_)
       clear c16 f16
       go_wp2_with fail
       go_ret
       refine ⟨rfl,(⟨m.f,B',gP',cP',P',gM',cM',M',BG',gG',G',BR',Ar',cr',rcd',Ai',ci',t',nx',cn',BO',Ao',co',opn'⟩:Mc),R',HK5.out,A8,c8,fun _=>?_,?_⟩
       · rw [HF1.out,← HTT.out,← HNX.out.2.2];exact HC8.out
       · have e9:((⟨m.f,B',gP',cP',P',gM',cM',M',BG',gG',G',BR',Ar',cr',rcd',Ai',ci',t',nx',cn',BO',Ao',co',opn'⟩:Mc)).step A8 c8=(⟨m.f,B',gP',cP',P',gM',cM',M',BG',gG',G',BR',Ar',cr',rcd',A8,c8,t'+1,0,cn'+1,BO',Ao',co',opn'⟩:Mc):=if_pos (show nx'+1=(itsAt m.f t').length by rw [← HNX.out.2.1,HL.out,HLE.out])
         rw [e9]
         have e8:t'+1=tt1:=by rw [HF1.out,← HTT.out,HNX.out.2.2]
         have e7:cn'+1=cn1:=HNX.out.1.symm
         rw [e8,e7]
         have h9:=(HM9.out.reset (i:=6) (c':=.rd A8 (icells (itsAt m.f tt1))) rfl (HM9.out.rd 15 rfl) (fun h=>h) (fun g hg=>⟨15,_,rfl,fun h=>h,hg⟩)).fS rfl
         have h10:=Mem.cast h9 (show _=((⟨m.f,B',gP',cP',P',gM',cM',M',BG',gG',G',BR',Ar',cr',rcd',A8,c8,tt1,0,cn1,BO',Ao',co',opn'⟩:Mc).ps++[_,.rd A8 (icells (itsAt m.f tt1))])++R' from rfl)
         exact h10.mid
     · have HL:=K1 hl
       have hl2:((nx1:Int) == (len:Int))=false:=beq_eq_false_iff_ne.2 (by omega)
       clear hl
       go_wp2_with fail
       go_ret
       refine ⟨rfl,(⟨m.f,B',gP',cP',P',gM',cM',M',BG',gG',G',BR',Ar',cr',rcd',Ai',ci',t',nx',cn',BO',Ao',co',opn'⟩:Mc),R',HK5.out,none,0,fun h=>absurd h ?_,?_⟩
       · show ¬ nx'+1=(itsAt m.f t').length
         rw [← HNX.out.2.1,← HLE.out];exact HL.out
       · have e9:((⟨m.f,B',gP',cP',P',gM',cM',M',BG',gG',G',BR',Ar',cr',rcd',Ai',ci',t',nx',cn',BO',Ao',co',opn'⟩:Mc)).step none 0=(⟨m.f,B',gP',cP',P',gM',cM',M',BG',gG',G',BR',Ar',cr',rcd',Ai',ci',t',nx'+1,cn'+1,BO',Ao',co',opn'⟩:Mc):=if_neg (show ¬ nx'+1=(itsAt m.f t').length by rw [← HNX.out.2.1,← HLE.out];exact HL.out)
         rw [e9,← HNX.out.2.1,← HNX.out.1]
         exact Mem.mid (Y:=[_]) HM5.out
   · have hc1:(code != 0)=true:=by simpa using hc0
     have HC:=K1 hc0
     clear hc0
     go_wp2_with fail
     go_ret
     exact ⟨rfl,m',R',HK5.out,.inl ⟨HC.out,HM5.out.mid⟩⟩
end Go.Proofs.YtdpojpcoghcieaaGreat
