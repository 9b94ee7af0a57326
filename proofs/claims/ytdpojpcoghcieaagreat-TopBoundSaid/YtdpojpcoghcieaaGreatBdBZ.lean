/- A part of the proof of TopBound: TopBound, Law, TopOpen. Conditions: none. -/
import Derived.ProofKit
import Derived.Deep.Fields
import Derived.Deep.Slices
import Derived.ChangeSame
import Derived.Carry
import Derived.Test.YtdpojpcoghcieaaGreatBdBY
set_option maxHeartbeats 8000000
namespace Go.Proofs.YtdpojpcoghcieaaGreat
open Lib renaming hid → K1
open List renaming filterMap_cons → p1, filterMap_nil → p2, getElem?_cons_zero → p3, getElem?_cons_succ → p4
open Go.RowKit
set_option maxRecDepth 100000 in
theorem topTotal_any {g:Gi} {i:Inp} (w:World) (hc:i.r.c.Ok) (hp:i.r.p≤60) (hpl:g.pl=rpC i.r.c i.r.p (.slice i.A i.r.ns.length i.cap)) :
  Calls Tryz.prog 7 #[.agg g.cells.toArray] w fun e w'=>e=.returned (.int .i64 (totR i.r))∧Below w.heap.size w w':=by
 have CP:=K1 (fun W=>Gi.plan_any (g:=g) W)
 rw [hpl] at CP
 have CT:=K1 (fun W=>rtotal_any W i.r.c i.r.p (.slice i.A i.r.ns.length i.cap) hc hp)
 have HT:=K1 (show i.r.c.st*sumR (fun u=>(plIts i.r.c i.r.p 0 u).length) i.r.c.k=totR i.r from rfl)
 rw [HT.out] at CT
 have HM:=K1 ((Mem.start w).alloc (.cells g.cells.toArray 29))
 generalize totR i.r=T at *
 generalize (rpC i.r.c i.r.p (.slice i.A i.r.ns.length i.cap)).toArray=PC at *
 clear hpl hc hp HT
 dsimp only [Gi.cells] at *
 go_enter Tryz.func7,Tryz.ntmps7
 have c1:=HM.out.cells 1 rfl
 go_wp2_with fail
 refine (CP.out _).mono ?_
 rintro e w1 ⟨rfl,hb⟩
 replace HM:=K1 (HM.out.below hb)
 clear hb c1
 go_wp2_with fail
 refine (CT.out _).mono ?_
 rintro e w2 ⟨rfl,hb⟩
 replace HM:=K1 (HM.out.below hb)
 clear hb
 go_wp2_with fail
 go_ret
 exact ⟨rfl,HM.out.bel 0 rfl⟩
set_option maxRecDepth 100000 in
theorem topBound_no {g:Gi} {w:World} (ha:g.At w) (B:Option Addr) (n m:Nat) (hn:n≤9223372036854775807) (hf:g.few n=false) :
  Calls Tryz.prog 4 #[.agg g.cells.toArray,.slice B n m] w fun e w'=>e=.returned (.bool true)∧Below w.heap.size w w':=by
 have CF:=K1 (fun W (hb:Below w.heap.size w W)=>Gi.few_any (ha.below hb) B n m hn)
 rw [hf] at CF
 have HM:=K1 ((Mem.start w).alloc (.cells g.cells.toArray 29))
 clear ha hf
 dsimp only [Gi.cells] at *
 go_enter Tryz.func4,Tryz.ntmps4
 have c1:=HM.out.cells 1 rfl
 go_wp2_with fail
 refine (CF.out _ (HM.out.bel 0 rfl)).mono ?_
 rintro e w1 ⟨rfl,hb⟩
 replace HM:=K1 (HM.out.below hb)
 clear hb c1
 go_wp2_with fail
 refine (Si.works_any _).mono ?_
 rintro e w2 ⟨rfl,hb⟩
 replace HM:=K1 (HM.out.below hb)
 clear hb
 go_wp2_with fail
 go_ret
 exact ⟨rfl,HM.out.bel 0 rfl⟩
theorem bktMsgs_le {r:Rn} (hc:r.c.Ok) (hp:r.p≤60) {b:Nat} (hb:b<(plBs r.c r.p).length):bktMsgs r b≤480:=by
 obtain ⟨⟨x,y⟩,h⟩:=get_some (plBs r.c r.p) b hb
 have h1:=plBs_in hc _ (List.mem_of_getElem? h)
 have h2:=segs_in (j:=⟨0,b,x,y,r.c.k,r.c.s⟩) h1.1 hc.k.1
 have h3:(shiftL x (evenL (y-x) r.c.k)).length=r.c.k:=by rw [shift_len,even_len]
 have h4:=cntTo_le (s:=r.c.s) (m:=60) (rs:=shiftL x (evenL (y-x) r.c.k)) (fun p hp'=>by have:=h2 p hp';dsimp only at this h1;omega) r.c.k (by omega)
 have h5:=hc.k.2
 unfold bktMsgs
 rw [h]
 simp only [Option.getD_some]
 omega
set_option maxRecDepth 100000 in
theorem topBound_yes {i:Inp} {w:World} (hi:i.Ok) (ha:i.At w) (ZA:Option Addr) (len cap:Nat) (zs:List Int) (hz:Rd w w.heap.size ZA (zC zs)) (hlen:zs.length=len) (hl:len≤300)
  (CF:∀ W,Below w.heap.size w W→Calls Tryz.prog 6 #[.agg i.cells.toArray,.slice ZA len cap] W fun e w'=>e=.returned (.bool true)∧Below W.heap.size W w')
  (CT:∀ W,Below w.heap.size w W→Calls Tryz.prog 7 #[.agg i.cells.toArray] W fun e w'=>e=.returned (.int .i64 (totR i.r))∧Below W.heap.size W w') :
  Calls Tryz.prog 4 #[.agg i.cells.toArray,.slice ZA len cap] w fun e w'=>e=.returned (.bool true)∧Below w.heap.size w w':=by
 have HCF:=K1 CF
 have HCT:=K1 CT
 have CP:=K1 (fun W (hb:Below w.heap.size w W)=>progress_any W i hi (ha.below hb) ZA cap len zs ((hz.below hb).more hb.size) hlen (by omega))
 have CB:=K1 (fun W=>buckets_any i.r.p i.r.c.bu W (by have:=hi.p;omega) hi.c.bu)
 have HBP:=K1 (fun n b (h:ProgR i zs n b)=>prog_bound h)
 have hin:=plBs_in (p:=i.r.p) hi.c
 have CM:=K1 (fun W b x y (h:(plBs i.r.c i.r.p)[b]?=some (x,y))=>messages_any W x y i.r.c.k i.r.c.s (hin _ (List.mem_of_getElem? h)).1 (Nat.le_trans (hin _ (List.mem_of_getElem? h)).2 (by have:=hi.p;omega)) ⟨hi.c.k.1,by have:=hi.c.k;omega⟩ hi.c.s)
 obtain ⟨M,hM⟩:∃ M:Nat→Nat,M=bktMsgs i.r:=⟨_,rfl⟩
 have HME:=K1 (show ∀ b x y,(plBs i.r.c i.r.p)[b]?=some (x,y)→cntTo i.r.c.s (shiftL x (evenL (y-x) i.r.c.k)) i.r.c.k=M b by
  intro b x y h
  rw [hM]
  unfold bktMsgs
  rw [h]
  rfl)
 have HMB:=K1 (show ∀ b,b<(plBs i.r.c i.r.p).length→M b≤480 by
  intro b hb
  rw [hM]
  exact bktMsgs_le hi.c (by have:=hi.p;omega) hb)
 obtain ⟨F,hF⟩:∃ F:Nat→Nat,F=fun b=>4*(i.r.c.k-1)*M b+2*i.r.c.k:=⟨_,rfl⟩
 have HTOT:=K1 (show totR i.r=i.r.c.st*(sumR F (plBs i.r.c i.r.p).length+i.r.c.k*(i.r.c.mi+1)) by rw [tot_formula hi.c,hF,hM])
 obtain ⟨d,hd⟩:∃ d,d=i.r.c.k-1:=⟨_,rfl⟩
 have HFS:=K1 (show ∀ b,sumR F (b+1)=sumR F b+4*d*M b+2*i.r.c.k by intro b;rw [sumR,hF,hd];simp only [];omega)
 have hk8:=hi.c.k
 have HFB:=K1 (show ∀ b,b≤(plBs i.r.c i.r.p).length→sumR F b≤20000*b by
  intro b
  induction b with
  | zero=>intro _;simp [sumR]
  | succ b ih =>
    intro hb
    have h1:=HMB.out b (by omega)
    have h2:4*d*M b≤4*7*480:=Nat.mul_le_mul (by omega) h1
    have h3:=HFS.out b
    have h4:=ih (by omega)
    omega)
 have hnb:=(plBs_ok hi.c (by have:=hi.p;omega:i.r.p≤60)).2.1
 have hmi:=hi.c.mi.2
 have hst:=hi.c.st
 have hpp:=hi.p
 have e0:(i.r.c.k:Int)-1=(d:Int):=by omega
 have hd7:d≤7:=by omega
 have hHP:=K1 (show bucketsL i.r.p i.r.c.bu=plBs i.r.c i.r.p from rfl)
 rw [hHP.out] at CB
 unfold OwnR at CB
 clear CF CT hin hM hF hd hi ha hz hHP
 generalize totR i.r=TR at *
 generalize plBs i.r.c i.r.p=bs at *
 obtain ⟨nb,hnb2⟩:∃ nb,nb=bs.length:=⟨_,rfl⟩
 rw [← hnb2] at CB HMB HTOT HFB hnb
 have HNB:=K1 hnb2
 clear hnb2
 have HM:=K1 ((Mem.start w).alloc (.cells i.cells.toArray 29))
 obtain ⟨⟨⟨sh,ra,mo,k,ba,mi,st,bu,s,wi,ca⟩,p,ns,n,ds,dat⟩,A,acap,DA,dcap,l,SA,scap,ss,RA,rcap⟩:=i
 dsimp only [Inp.cells] at *
 go_enter Tryz.func4,Tryz.ntmps4
 have c1:=HM.out.cells 1 rfl
 go_wp2_with fail
 refine (HCF.out _ (HM.out.bel 0 rfl)).mono ?_
 rintro e w1 ⟨rfl,hb⟩
 replace HM:=K1 (HM.out.below hb)
 clear hb c1 HCF
 have c1:=HM.out.cells 1 rfl
 replace HM:=K1 (HM.out.alloc (.cells #[.slice A ns.length acap,.int .i64 sh,.int .i64 ra,.int .i64 mo,.int .i64 k,.int .i64 ba,.int .i64 mi,.int .i64 st,.int .i64 bu,.int .i64 s,.int .i64 wi,.int .i64 ca] 24))
 have c1':=HM.out.cells 1 rfl
 have c2:=HM.out.cells 2 rfl
 go_wp2_with fail
 refine (CB.out _).mono ?_
 rintro e w2 ⟨A2,cc2,rfl,ho,hcc2,hb⟩
 replace HM:=K1 (HM.out.push_rd hb (rd_of_own ho) (own_from_base ho))
 clear c1 c1' c2 ho hb CB
 have hb0:sumR F 0=0:=rfl
 have HB0:=K1 hb0
 clear hb0
 go_wp2_with fail
 generalize w1.heap.size=g2 at *
 generalize hg1:w.heap.size=g1 at *
 have HG1:=K1 hg1
 clear hg1
 go_loopw [6,25] (fun s6 s25 wr=>∃ (b S:Nat),b≤nb∧S≤1200000∧s6=.int .i64 S∧s25=.int .i64 b∧Hid (sumR F b=S∧Mem wr [.bel g1 w,.obj g1 (.cells #[.slice A ns.length acap,.int .i64 sh,.int .i64 ra,.int .i64 mo,.int .i64 k,.int .i64 ba,.int .i64 mi,.int .i64 st,.int .i64 bu,.int .i64 s,.int .i64 wi,.int .i64 ca,.slice DA n dcap,.slice SA p scap,.slice RA ds.length rcap] 29 (0,0)),.obj g2 (.cells #[.slice A ns.length acap,.int .i64 sh,.int .i64 ra,.int .i64 mo,.int .i64 k,.int .i64 ba,.int .i64 mi,.int .i64 st,.int .i64 bu,.int .i64 s,.int .i64 wi,.int .i64 ca] 24 (0,0)),.rd A2 (rcells bs)])) (fun _ s25 _=>nb-(intOf s25).toNat)
 case atStart=>exact ⟨0,0,Nat.zero_le _,by omega,rfl,rfl,K1 ⟨HB0.out,HM.out⟩⟩
 case round =>
  clear HM
  obtain ⟨b,S,hb,hS,rfl,rfl,HM⟩:=hrel
  have HS:=K1 HM.out.1
  replace HM:=K1 HM.out.2
  by_cases hlt:b<nb
  · obtain ⟨⟨x,y⟩,hxy⟩:=get_some bs b (by have:=HNB.out;omega)
    obtain ⟨b4,o4,rfl,_⟩:=HM.out.ranges 3 rfl (by have:=HNB.out;omega)
    have HXY:=K1 hxy
    have HMX:=K1 (HME.out b x y hxy)
    obtain ⟨q1,q2⟩:=HM.out.range2 3 rfl hxy
    have hmb:=HMB.out b hlt
    have hfs:=HFS.out b
    have hfb:=HFB.out (b+1) (by omega)
    rw [HS.out] at hfs
    have hCM:=K1 (fun W=>CM.out W b x y hxy)
    rw [HMX.out] at hCM
    generalize M b=m at *
    clear hxy
    obtain ⟨m4,hm4⟩:∃ m4,m4=4*d:=⟨_,rfl⟩
    have e1:(4:Int)*(d:Int)=(m4:Int):=by omega
    obtain ⟨P,hP⟩:∃ P,P=m4*m:=⟨_,rfl⟩
    have e2:(m4:Int)*(m:Int)=(P:Int):=by rw [hP,Int.natCast_mul]
    have hPb:P≤28*480:=by rw [hP];exact Nat.mul_le_mul (by omega) hmb
    have hm4b:m4≤28:=by omega
    have hfs2:sumR F (b+1)=S+P+2*k:=by rw [hfs,hP,hm4]
    rw [hfs2] at hfb
    have HFS2:=K1 hfs2
    have HS2:S+P+2*k≤1200000:=by
     have:20000*(b+1)≤20000*60:=Nat.mul_le_mul_left _ (by omega)
     omega
    have HS3:=K1 HS2
    clear hfs hfs2 hm4 hP hfb HS2
    replace HM:=K1 (HM.out.alloc (.cells #[.int .i64 x,.int .i64 y] 47))
    go_wp2_with fail
    clear q1 q2
    generalize wr.heap.size=gt at *
    refine name_wp fun W0 hW=>?_
    replace HM:=K1 (hW.out.symm ▸ HM.out)
    clear hW
    refine wp_region_stage (.reads [0,1,2,3,4,5,6,7,8,9] (.eff 10 (.reads [11,12,13] (.fin)))) 14 (fun W'=>(∀ j,W'.cell? ⟨g2,j,none⟩=([.slice A ns.length acap,.int .i64 sh,.int .i64 ra,.int .i64 mo,.int .i64 k,.int .i64 ba,.int .i64 mi,.int .i64 st,.int .i64 bu,.int .i64 s,.int .i64 wi,.int .i64 ca]:List Value)[j]?)∧(∀ j,W'.cell? ⟨gt,j,none⟩=([.int .i64 x,.int .i64 y]:List Value)[j]?))
     (by kernel_rfl) (by kernel_rfl) (by intro d v c a w h;cases d <;> exact h) ?_
    replace HM:=K1 HM.out.drew
    generalize W0.drew=V at *
    refine PlS.reads_ ⟨HM.out.cells 2 rfl,HM.out.cells 4 rfl⟩ (by kernel_rfl) ?_
    simp only [pickO,p1,p2,p3,p4]
    apply Exists.intro
    apply And.intro
    · intro W' hS
      obtain ⟨s0,s1⟩:=hS
      repeat still_step
      exact wpStill_nil rfl
    refine PlS.eff_ ?_
    simp only [pickO,p1,p2,p3,p4]
    go_wp2_with fail
    refine (hCM.out _).mono ?_
    rintro e w3 ⟨rfl,hb3⟩
    replace HM:=K1 (HM.out.below hb3)
    clear hb3 hCM
    go_wp2_with fail
    refine After.go ⟨HM.out.cells 2 rfl,HM.out.cells 4 rfl⟩ ?_
    refine PlS.reads_ ⟨HM.out.cells 2 rfl,HM.out.cells 4 rfl⟩ (by kernel_rfl) ?_
    simp only [pickO,p1,p2,p3,p4]
    apply Exists.intro
    apply And.intro
    · intro W' hS
      clear hS
      repeat still_step
      exact wpStill_nil rfl
    refine PlS.fin_ ?_
    have c2:=HM.out.cells 2 rfl
    go_wp2_with fail
    go_roundw
    case rel=>exact ⟨b+1,S+P+2*k,by omega,HS3.out,by go_num,by go_num,K1 ⟨HFS2.out,HM.out.front 4⟩⟩
    case measure=>simp [intOf];omega
  · have hbn:b=nb:=by omega
    subst hbn
    have c2:=HM.out.cells 2 rfl
    obtain ⟨m1,hm1⟩:∃ m1,m1=mi+1:=⟨_,rfl⟩
    have e1:(mi:Int)+1=(m1:Int):=by omega
    obtain ⟨Q,hQ⟩:∃ Q,Q=k*m1:=⟨_,rfl⟩
    have e2:(k:Int)*(m1:Int)=(Q:Int):=by rw [hQ,Int.natCast_mul]
    have hQb:Q≤8*1001:=by rw [hQ];exact Nat.mul_le_mul (by omega) (by omega)
    obtain ⟨T,hT⟩:∃ T,T=S+Q:=⟨_,rfl⟩
    have e3:(S:Int)+(Q:Int)=(T:Int):=by omega
    have hTR:TR=st*T:=by rw [HTOT.out,HS.out,hT,hQ,hm1]
    have e4:(st:Int)*(T:Int)=(TR:Int):=by rw [hTR,Int.natCast_mul]
    have hTb:TR≤1000*1300000:=by rw [hTR];exact Nat.mul_le_mul hst (by omega)
    have hm1b:m1≤1001:=by omega
    have hTb2:T≤1300000:=by omega
    clear hm1 hQ hT hTR HTOT hb hlt HME HMB HFS HFB CM
    have c1:=HM.out.cells 1 rfl
    go_wp2_with fail
    clear c2
    refine (CP.out _ (HM.out.bel 0 rfl)).mono ?_
    rintro e w4 ⟨⟨nn,z,bb,rfl,hnn,hpr⟩,hb4⟩
    have hpb:=HBP.out nn bb hpr
    replace HM:=K1 (HM.out.below hb4)
    obtain ⟨dd,hdd⟩:∃ dd,dd=len-nn:=⟨_,rfl⟩
    rw [← hdd]
    have e5:(nn:Int)+(dd:Int)=(len:Int):=by omega
    replace HM:=K1 (HM.out.alloc (.cells #[.int .i64 nn,.int .i64 z,.int .i64 dd,.bool bb] 50))
    clear hb4 hpr CP HBP c1 hdd
    go_wp2_with fail
    refine (Si.works_any _).mono ?_
    rintro e w5 ⟨rfl,hb5⟩
    replace HM:=K1 (HM.out.below hb5)
    clear hb5
    have c1:=HM.out.cells 1 rfl
    go_wp2_with fail
    refine (HCT.out _ (HM.out.bel 0 rfl)).mono ?_
    rintro e w6 ⟨rfl,hb6⟩
    replace HM:=K1 (HM.out.below hb6)
    clear hb6 c1 HCT
    have c4:=HM.out.cells 4 rfl
    have hle:=hpb.1
    by_cases hq:nn=TR
    · have hbb:bb=true:=hpb.2.2 hq
      subst hq
      subst hbb
      go_wp2_with fail
      go_ret
      rw [HG1.out]
      exact ⟨ret_bool (by simp),HM.out.bel 0 rfl⟩
    · have hbb:bb=false:=by
       cases bb
       · rfl
       · exact absurd (hpb.2.1 rfl) hq
      subst hbb
      go_wp2_with fail
      go_ret
      rw [HG1.out]
      exact ⟨ret_bool (by simp <;> omega),HM.out.bel 0 rfl⟩
theorem topBound_any {g:Gi} {w:World} (ha:g.At w) (ZA:Option Addr) (cap:Nat) (zs:List Int) (hz:Rd w w.heap.size ZA (zC zs)) (hm:zs.length≤9223372036854775807) :
  Calls Tryz.prog 4 #[.agg g.cells.toArray,.slice ZA zs.length cap] w fun e w'=>e=.returned (.bool true)∧Below w.heap.size w w':=by
 cases hf:g.few zs.length
 · exact topBound_no ha ZA zs.length cap hm hf
 · obtain ⟨hs,hl⟩:=Gi.few_small hf
   obtain ⟨i,hcells,hi,hia,_,hpl⟩:=Gi.inp hs ha
   have CF:∀ W,Below w.heap.size w W→Calls Tryz.prog 6 #[.agg g.cells.toArray,.slice ZA zs.length cap] W fun e w'=>e=.returned (.bool true)∧Below W.heap.size W w':=fun W hb=>by
    have:=Gi.few_any (ha.below hb) ZA zs.length cap hm
    rw [hf] at this
    exact this
   have CT:∀ W,Below w.heap.size w W→Calls Tryz.prog 7 #[.agg g.cells.toArray] W fun e w'=>e=.returned (.int .i64 (totR i.r))∧Below W.heap.size W w':=fun W _ =>
    topTotal_any W hi.c (by have:=hi.p;omega) hpl
   rw [← hcells] at CF CT ⊢
   exact topBound_yes hi hia ZA zs.length cap zs hz rfl hl CF CT
end Go.Proofs.YtdpojpcoghcieaaGreat
namespace Go.Proofs.YtdpojpcoghcieaaGreat
open Go.ChangeShapes Go.WideShapes Go.ChangeAt Go.RowKit Go.Deep
section
variable {H:Type} {enc:TypeId × Value→H} {P:Program}
theorem trodAll_stays (hl:laidOutB P=true) {W W':World} {sp:Nat→Bool}:∀ {ts:List TypeId} {vs:List Value} {ds:List (DataW H)} {ps:List MemPlace},(∀ t∈ts,P.readableRec t=true∧t<P.types.size) →
  DataW.TrodAll enc P W 0 (fun _=>true) true ts vs ds ps→(∀ p∈ps,W.sameAt W' p)→(∀ p∈ps,sp p.block=true)→DataW.TrodAll enc P W' 0 sp true ts vs ds ps
 | [],[],[],_,_,h,_,_=>h
 | t::ts,v::vs,d::ds,ps,ht,h,hs,hp=>by
   obtain ⟨p,q,h1,h2,rfl⟩:=h
   exact ⟨p,q,WideElems.Trod_stays hl (ht t (by simp)).1 (ht t (by simp)).2 h1 (fun x hx=>hs x (by simp [hx])) (fun x hx=>hp x (by simp [hx])),
    trodAll_stays hl (fun t' h'=>ht t' (by simp [h'])) h2 (fun x hx=>hs x (by simp [hx])) (fun x hx=>hp x (by simp [hx])),rfl⟩
 | [],_::_,_,_,_,h,_,_=>h.elim
 | [],[],_::_,_,_,h,_,_=>h.elim
 | _::_,[],_,_,_,h,_,_=>h.elim
 | _::_,_::_,[],_,_,h,_,_=>h.elim
theorem law_post {f:Func} {s:ChangeSpec} {apart fresh handsOn again:Bool} {W W':World} {args:Array Value} {ds gs:List (DataW H)} {before:List MemPlace} {tb:TypeId}
  (hl:laidOutB P=true) (hpb:(f.params.toList.all fun t=>P.readableRec t && decide (t<P.types.size))=true) (hrt:f.resultTypes=#[tb]) (htb:P.underlying tb=some .bool) (hv:s.vars=[])
  (hs:s.fn H (ds++gs)={ results:=[.lit (.bool true)],args:=ds })
  (hW:DataW.Whole enc P f.params.toList s.vars apart W args.toList ds gs before) (hb:Below W.heap.size W W'):s.post enc P f apart fresh handsOn again W args (.bool true) W':=by
 have hp:∀ t∈f.params.toList,P.readableRec t=true∧t<P.types.size:=fun t ht=>by
  have:=List.all_eq_true.1 hpb t ht
  simpa using this
 have hW':=hW
 obtain ⟨p,q,hA,hV,rfl,hfz,hnd⟩:=hW
 rw [hv] at hV
 obtain ⟨rfl,rfl⟩:=trodVars_none hV
 have hlt:∀ x∈p++([]:List MemPlace),x.block<W.heap.size:=fun x hx=>hW'.lt x hx
 have hlt':∀ x∈p,x.block<W.heap.size:=fun x hx=>hlt x (by simp [hx])
 have hargs:∀ sp:Nat→Bool,(∀ x∈p++([]:List MemPlace),sp x.block=true)→DataW.TrodAll enc P W' 0 sp true f.params.toList args.toList (s.fn H (ds++[])).args p:=fun sp hsp=>by
  rw [hs]
  exact trodAll_stays hl hp hA (fun x hx=>hb.same (hlt' x hx)) (fun x hx=>hsp x (by simp [hx]))
 have hres:∀ (b:Nat) (sp:Nat→Bool) (hd:Bool),DataW.TrodAll enc P W' b sp hd f.resultTypes.toList ((Value.bool true).resultList f.resultTypes.size) (s.fn H (ds++[])).results []:=fun _ _ _=>by
  rw [hs,hrt]
  exact trodAll_mk1 (shut_bool htb true)
 have hvars:∀ sp:Nat→Bool,(∀ x∈p++([]:List MemPlace),sp x.block=true)→DataW.TrodVars enc P W' sp s.vars (s.fn H (ds++[])).vars []:=fun _ _=>by
  rw [hv,hs]
  exact rfl
 have hold:∀ x∈p++([]:List MemPlace),(fun b=>decide (b<W.heap.size)) x.block=true:=fun x hx=>by simpa using hlt x hx
 refine ⟨ds,[],p++[],[],p,[],hW',hres _ _ _,hargs _ hold,hvars _ hold,World.keptBut_mono (fun x hx=>⟨hx,?_⟩) (hb.frame (·∈p++[])),fun _=>?_⟩
 · right;simpa using hx
 · refine ⟨?_,_,_,([]++p)++[],⟨[]++p,[],trodAll_append (hargs _ (fun _ _=>rfl)) (hres _ _ _),hvars _ (fun _ _=>rfl),rfl,?_,?_⟩,?_⟩
   · intro j t r ht hr
     rw [hrt] at ht hr
     match j with
     | 0 =>
       simp at ht
       subst ht
       simp [Value.resultList] at hr
       subst hr
       exact okWide_bool_mk htb true
     | j+1=>simp at ht
   · intro b off hx
     have hin:MemPlace.cell b off∈p++[]:=by simpa using hx
     rw [hb.frozen (hlt _ hin)]
     exact hfz b off hin
   · intro ha
     have:=hnd ha
     simpa using this
   · intro x hx _
     simpa using hx
theorem list12 {l:List Value} (h:l.length=12):∃ a0 a1 a2 a3 a4 a5 a6 a7 a8 a9 a10 a11,l=[a0,a1,a2,a3,a4,a5,a6,a7,a8,a9,a10,a11]:=by
 match l,h with
 | [a0,a1,a2,a3,a4,a5,a6,a7,a8,a9,a10,a11],_=>exact ⟨_,_,_,_,_,_,_,_,_,_,_,_,rfl⟩
theorem open_slice_int {w:World} {base:Nat} {spare:Nat→Bool} {held:Bool} {t e:TypeId} {k:IntKind} {fuel:Nat} {c:Value} {y:DataW H × List MemPlace} (ht:P.underlying t=some (.slice e)) (he:P.underlying e=some (.int k)) (hc:P.cellsOf e=1)
  (h:DataW.trod enc P w base spare held fuel t [c]=some y) :
  ∃ (A:Option Addr) (zs:List Int) (cap:Nat),c=.slice A zs.length cap∧zs.length≤cap∧zs.length≤9223372036854775807∧Rd w w.heap.size A (zs.map (Value.int k))∧∀ z∈zs,(Lit.int k z).wf=true:=by
 rcases open_ints ht he hc h with ⟨hcs,hx⟩ | ⟨a,len,cap,zs,hcs,_,hl,hm,hz,hx,hcell,hwz⟩
 · injection hcs with hcs _
   exact ⟨none,[],0,hcs,by simp,by simp,Rd.nil_ _ _ _,by simp⟩
 · injection hcs with hcs _
   have hlz:len≤zs.length:=by rw [hz];split <;> omega
   have htl:(zs.take len).length=len:=by simp;omega
   unfold maxLen at hm
   refine ⟨some a,zs.take len,cap,by rw [htl];exact hcs,by omega,by omega,fun h0=>?_,fun z hz=>hwz z (List.mem_of_mem_take hz)⟩
   have h0':0<zs.length:=by simp at h0;omega
   have c0:=hcell 0 h0'
   obtain ⟨b,off,spot⟩:=a
   have hsp:spot=none:=by
    cases spot with
    | none=>rfl
    | some s =>
      simp only [Addr.add,if_true,World.cell?] at c0
      split at c0 <;> simp at c0
   subst hsp
   refine ⟨b,off,rfl,World.block_lt_of_cell? w _ (by simpa [Addr.add] using c0),fun j u hu=>?_⟩
   rw [List.getElem?_map,List.getElem?_take] at hu
   split at hu
   · rename_i hj
     have hjz:j<zs.length:=by omega
     have:=hcell j hjz
     rw [show (⟨b,off,none⟩:Addr).add j=⟨b,off+j,none⟩ from by unfold Addr.add;split <;> simp_all] at this
     rw [this]
     simpa [List.getD,hjz] using hu
   · cases hu
end
end Go.Proofs.YtdpojpcoghcieaaGreat
namespace Go.Proofs.YtdpojpcoghcieaaGreat
open Go.ChangeShapes Go.WideShapes Go.ChangeAt Go.RowKit Go.Deep
theorem wf_bd {k:IntKind} {n:Int} (h:(Lit.int k n).wf=true):k.min≤n∧n≤k.max:=by
 simpa [Lit.wf] using h
theorem Tryz.own:ownKnob Tryz.prog.godebug=none:=by kernel_rfl
theorem Tryz.laidOut:laidOutB Tryz.prog=true:=by kernel_rfl
theorem Tryz.cellsInt:Tryz.prog.cellsOf 3=1:=by kernel_rfl
theorem Tryz.cellsInt64:Tryz.prog.cellsOf 2=1:=by kernel_rfl
theorem cells_any {H:Type} {enc:TypeId × Value→H} {P:Program} {w:World} {base:Nat} {spare:Nat→Bool} {held:Bool} {t:TypeId} {fs:Array Field} {fuel:Nat} {cs:List Value} {y:DataW H × List MemPlace} (hs:P.underlying t=some (.struct fs)) (hone:oneCellFields P fs=true) (hC:P.cellsOf t=fs.size)
  (h:DataW.trod enc P w base spare held fuel t cs=some y):cs.length=fs.size∧∀ (j:Nat) (f:Field),fs[j]?=some f→∃ (c:Value) (y:DataW H × List MemPlace) (n:Nat),cs[j]?=some c∧DataW.trod enc P w base spare held n f.type [c]=some y:=by
 obtain ⟨ys,n,_,hx,hlen,hyl,hg⟩:=DataW.trod_struct hs h
 have hcl:cs.length=fs.size:=by rw [hlen,hC]
 refine ⟨hcl,fun j f hj=>?_⟩
 obtain ⟨ho,hk⟩:=hone_of hone j f hj
 have hjl:j<fs.size:=(Array.getElem?_eq_some_iff.1 hj).1
 have h1:=hg j f hj
 rw [ho,hk] at h1
 have hd:(cs.drop j).take 1=[cs[j]'(by omega)]:=by
  rw [List.drop_eq_getElem_cons (by omega)]
  rfl
 rw [hd,List.getElem?_eq_getElem (by omega)] at h1
 exact ⟨_,_,n,List.getElem?_eq_getElem (by omega),h1⟩
set_option maxRecDepth 100000 in
theorem cells_conf {H:Type} {enc:TypeId × Value→H} {w:World} {base:Nat} {spare:Nat→Bool} {held:Bool} {fuel:Nat} {cs:List Value} {y:DataW H × List MemPlace} (h:DataW.trod enc Tryz.prog w base spare held fuel 24 cs=some y) :
  ∃ (A:Option Addr) (zs:List Int) (cap:Nat) (sh ra mo wo ba mi st bu ch wi ca:Int),cs=[.slice A zs.length cap,.int .i64 sh,.int .i64 ra,.int .i64 mo,.int .i64 wo,.int .i64 ba,.int .i64 mi,.int .i64 st,.int .i64 bu,.int .i64 ch,.int .i64 wi,.int .i64 ca]∧zs.length≤cap∧zs.length≤9223372036854775807∧RdI w w.heap.size A zs∧(-9223372036854775808≤ra∧ra≤9223372036854775807)∧-9223372036854775808≤mo∧mo≤9223372036854775807:=by
 obtain ⟨hlen,hcs⟩:=cells_any Tryz.underlying24 (by kernel_rfl) (by kernel_rfl) h
 obtain ⟨a0,a1,a2,a3,a4,a5,a6,a7,a8,a9,a10,a11,rfl⟩:=list12 (hlen.trans rfl)
 obtain ⟨c0,y0,n0,e0,t0⟩:=hcs 0 _ rfl
 obtain ⟨A,zs,cap,rfl,hcap,hm,hr,_⟩:=open_slice_int Tryz.underlying22 Tryz.underlying3 Tryz.cellsInt t0
 obtain ⟨c1,y1,n1,e1,t1⟩:=hcs 1 _ rfl
 obtain ⟨i1,g1,_,_⟩:=DataW.trod_int Tryz.underlying3 t1
 obtain ⟨c2,y2,n2,e2,t2⟩:=hcs 2 _ rfl
 obtain ⟨i2,g2,_,wf2⟩:=DataW.trod_int Tryz.underlying2 t2
 obtain ⟨c3,y3,n3,e3,t3⟩:=hcs 3 _ rfl
 obtain ⟨i3,g3,_,wf3⟩:=DataW.trod_int Tryz.underlying2 t3
 obtain ⟨c4,y4,n4,e4,t4⟩:=hcs 4 _ rfl
 obtain ⟨i4,g4,_,_⟩:=DataW.trod_int Tryz.underlying3 t4
 obtain ⟨c5,y5,n5,e5,t5⟩:=hcs 5 _ rfl
 obtain ⟨i5,g5,_,_⟩:=DataW.trod_int Tryz.underlying3 t5
 obtain ⟨c6,y6,n6,e6,t6⟩:=hcs 6 _ rfl
 obtain ⟨i6,g6,_,_⟩:=DataW.trod_int Tryz.underlying3 t6
 obtain ⟨c7,y7,n7,e7,t7⟩:=hcs 7 _ rfl
 obtain ⟨i7,g7,_,_⟩:=DataW.trod_int Tryz.underlying3 t7
 obtain ⟨c8,y8,n8,e8,t8⟩:=hcs 8 _ rfl
 obtain ⟨i8,g8,_,_⟩:=DataW.trod_int Tryz.underlying3 t8
 obtain ⟨c9,y9,n9,e9,t9⟩:=hcs 9 _ rfl
 obtain ⟨i9,g9,_,_⟩:=DataW.trod_int Tryz.underlying3 t9
 obtain ⟨c10,y10,n10,e10,t10⟩:=hcs 10 _ rfl
 obtain ⟨i10,g10,_,_⟩:=DataW.trod_int Tryz.underlying3 t10
 obtain ⟨c11,y11,n11,e11,t11⟩:=hcs 11 _ rfl
 obtain ⟨i11,g11,_,_⟩:=DataW.trod_int Tryz.underlying3 t11
 simp at e0 e1 e2 e3 e4 e5 e6 e7 e8 e9 e10 e11 g1 g2 g3 g4 g5 g6 g7 g8 g9 g10 g11
 subst e0 e1 e2 e3 e4 e5 e6 e7 e8 e9 e10 e11 g1 g2 g3 g4 g5 g6 g7 g8 g9 g10 g11
 exact ⟨A,zs,cap,i1,i2,i3,i4,i5,i6,i7,i8,i9,i10,i11,rfl,hcap,hm,hr,wf_bd wf2,wf_bd wf3⟩
theorem Tryz.cellsEx:Tryz.prog.cellsOf 140=2:=by kernel_rfl
theorem Tryz.cellsIn:Tryz.prog.cellsOf 29=15:=by kernel_rfl
section
variable {H:Type} {enc:TypeId × Value→H} {w:World} {base:Nat} {spare:Nat→Bool} {held:Bool}
theorem cells_ex {fuel:Nat} {cs:List Value} {y:DataW H × List MemPlace} (h:DataW.trod enc Tryz.prog w base spare held fuel 140 cs=some y):∃ e:Ex,cs=e.cells∧RdX w w.heap.size e∧In64 e.xs∧In64 e.ys:=by
 obtain ⟨hlen,hcs⟩:=cells_any Tryz.underlying140 (by kernel_rfl) (by kernel_rfl) h
 match cs,hlen with
 | [a0,a1],_ =>
   obtain ⟨c0,y0,n0,e0,t0⟩:=hcs 0 _ rfl
   obtain ⟨c1,y1,n1,e1,t1⟩:=hcs 1 _ rfl
   obtain ⟨A,zs,cap,rfl,hcap,hm,hr,q0⟩:=open_slice_int Tryz.underlying26 Tryz.underlying2 Tryz.cellsInt64 t0
   obtain ⟨B,zs',cap',rfl,hcap',hm',hr',q1⟩:=open_slice_int Tryz.underlying26 Tryz.underlying2 Tryz.cellsInt64 t1
   simp at e0 e1
   subst e0 e1
   exact ⟨⟨A,zs,cap,B,zs',cap'⟩,rfl,⟨hr,hr',hcap,hcap',hm,hm'⟩,fun z hz=>wf_bd (q0 z hz),fun z hz=>wf_bd (q1 z hz)⟩
theorem choose_list {α:Type} (n:Nat) (p:Nat→α→Prop) (h:∀ i,i<n→∃ x,p i x):∃ l:List α,l.length=n∧∀ i x,l[i]?=some x→p i x:=by
 induction n with
 | zero=>exact ⟨[],rfl,by simp⟩
 | succ n ih =>
   obtain ⟨l,hl,hp⟩:=ih fun i hi=>h i (by omega)
   obtain ⟨x,hx⟩:=h n (by omega)
   refine ⟨l++[x],by simp [hl],fun i y hy=>?_⟩
   rcases Nat.lt_or_ge i n with hlt | hge
   · rw [List.getElem?_append_left (by omega)] at hy
     exact hp i y hy
   · rw [List.getElem?_append_right (by omega)] at hy
     have:i=n:=by
      rcases Nat.lt_or_ge (i-l.length) 1 with h1 | h1
      · omega
      · rw [List.getElem?_eq_none (by simpa using h1)] at hy;cases hy
     subst this
     simp [hl] at hy
     subst hy
     exact hx
theorem open_exs {fuel:Nat} {c:Value} {y:DataW H × List MemPlace} (h:DataW.trod enc Tryz.prog w base spare held fuel 25 [c]=some y) :
  ∃ (A:Option Addr) (l:List Ex) (cap:Nat),c=.slice A l.length cap∧l.length≤cap∧l.length≤9223372036854775807∧RdE w w.heap.size A l∧∀ e∈l,In64 e.xs∧In64 e.ys:=by
 rcases open_slice Tryz.underlying25 h with ⟨hcs,hx⟩ | ⟨a,len,cap,m,n,D,Pl,hcs,hb,hl,hm,hmm,hx,hi⟩
 · injection hcs with hcs _
   exact ⟨none,[],0,hcs,by simp,by simp,⟨Rd.nil_ _ _ _,by simp⟩,by simp⟩
 · injection hcs with hcs _
   unfold maxLen at hm
   have hlm:len≤m:=by rw [hmm];split <;> omega
   have hex:∀ i,i<len→∃ e:Ex,w.cell? (a.add (i*2))=some (.slice e.ax e.xs.length e.cx)∧w.cell? (a.add (i*2+1))=some (.slice e.ay e.ys.length e.cy)∧RdX w w.heap.size e∧In64 e.xs∧In64 e.ys:=fun i hil=>by
    obtain ⟨cs',hc,ht⟩:=hi i (by omega)
    rw [Tryz.cellsEx] at hc
    obtain ⟨e,rfl,hX⟩:=cells_ex ht
    obtain ⟨_,_,hat⟩:=World.cells?_some hc
    have h0:=hat 0 (by omega)
    have h1:=hat 1 (by omega)
    rw [Go.Deep.add_add] at h0 h1
    exact ⟨e,h0.trans rfl,h1.trans rfl,hX⟩
   obtain ⟨l,hll,hpl⟩:=choose_list len _ hex
   refine ⟨some a,l,cap,by rw [hll];exact hcs,by omega,by omega,⟨fun h0=>?_,fun e he=>?_⟩,fun e he=>?_⟩
   · rw [exCells_len] at h0
     have hl0:0<l.length:=by omega
     obtain ⟨e0,he0⟩:=get_some l 0 hl0
     have c0:=(hpl 0 e0 he0).1
     obtain ⟨b,off,spot⟩:=a
     have hsp:spot=none:=by
      cases spot with
      | none=>rfl
      | some s =>
        simp only [Nat.zero_mul,Addr.add,if_true,World.cell?] at c0
        split at c0 <;> simp at c0
     subst hsp
     have hadd:∀ j,(⟨b,off,none⟩:Addr).add j=⟨b,off+j,none⟩:=fun j=>by unfold Addr.add;split <;> simp_all
     refine ⟨b,off,rfl,World.block_lt_of_cell? w _ (by simpa [Addr.add] using c0),fun j u hu=>?_⟩
     have hj:j<2*l.length:=by rw [← exCells_len];exact (List.getElem?_eq_some_iff.1 hu).1
     obtain ⟨e,he⟩:=get_some l (j / 2) (by omega)
     have hp:=hpl _ e he
     have ha:=exCells_at l _ e he
     rw [hadd,hadd] at hp
     rcases Nat.mod_two_eq_zero_or_one j with hz | hz
     · have e2:2*(j / 2)=j:=by omega
       rw [e2] at ha
       rw [show j / 2*2=j from by omega] at hp
       rw [hp.1,← hu,ha.1]
     · have e2:2*(j / 2)+1=j:=by omega
       rw [e2] at ha
       rw [show j / 2*2+1=j from by omega] at hp
       rw [hp.2.1,← hu,ha.2]
   · obtain ⟨i,hi'⟩:=List.getElem?_of_mem he
     exact (hpl i e hi').2.2.1
   · obtain ⟨i,hi'⟩:=List.getElem?_of_mem he
     exact (hpl i e hi').2.2.2
end
theorem list15 {l:List Value} (h:l.length=15):∃ L a12 a13 a14,l=L++[a12,a13,a14]∧L.length=12:=by
 match l,h with
 | [a0,a1,a2,a3,a4,a5,a6,a7,a8,a9,a10,a11,a12,a13,a14],_=>exact ⟨[a0,a1,a2,a3,a4,a5,a6,a7,a8,a9,a10,a11],_,_,_,rfl,rfl⟩
theorem nats_of:∀ {zs:List Int},(∀ z∈zs,0≤z)→∃ ds:List Nat,zs=ds.map fun d:Nat=>(d:Int)
 | [],_=>⟨[],rfl⟩
 | z::r,h=>by
   obtain ⟨ds,rfl⟩:=nats_of (zs:=r) fun y hy=>h y (List.mem_cons_of_mem _ hy)
   have:=h z (List.mem_cons_self ..)
   exact ⟨z.toNat::ds,by simp;omega⟩
set_option maxRecDepth 100000 in
theorem open_gi {H:Type} {enc:TypeId × Value→H} {w:World} {base:Nat} {spare:Nat→Bool} {held:Bool} {r:Reach} {b0:Nat} {v:Value} {d:DataW H} {p:List MemPlace} (hv:Value.okWide Tryz.prog w r b0 29 v) (h:DataW.Trod enc Tryz.prog w base spare held 29 v d p) :
  ∃ g:Gi,v=.agg g.cells.toArray∧g.At w:=by
 obtain ⟨cs,rfl,hsz⟩:=okWide_struct Tryz.underlying29 hv
 obtain ⟨fuel,hf⟩:=h
 obtain ⟨ys,n,_,hx,hlen,hyl,hg⟩:=DataW.trod_struct Tryz.underlying29 hf
 have hc15:cs.toList.length=15:=by simpa [Tryz.cellsIn] using hsz
 obtain ⟨L,a12,a13,a14,hL,hL12⟩:=list15 hc15
 have hcells:(Value.agg cs).cells.toList=L++[a12,a13,a14]:=hL
 rw [hcells] at hg
 have hys:ys.length=4:=hyl.trans rfl
 match ys,hys with
 | [y0,y1,y2,y3],_ =>
   have g0:DataW.trod enc Tryz.prog w base spare held n 24 (((L++[a12,a13,a14]).drop 0).take (Tryz.prog.cellsOf 24))=some y0:=hg 0 _ rfl
   have g1:DataW.trod enc Tryz.prog w base spare held n 25 (((L++[a12,a13,a14]).drop 12).take (Tryz.prog.cellsOf 25))=some y1:=hg 1 _ rfl
   have g2:DataW.trod enc Tryz.prog w base spare held n 26 (((L++[a12,a13,a14]).drop 13).take (Tryz.prog.cellsOf 26))=some y2:=hg 2 _ rfl
   have g3:DataW.trod enc Tryz.prog w base spare held n 27 (((L++[a12,a13,a14]).drop 14).take (Tryz.prog.cellsOf 27))=some y3:=hg 3 _ rfl
   have k0:Tryz.prog.cellsOf 24=12:=by kernel_rfl
   have k1:Tryz.prog.cellsOf 25=1:=by kernel_rfl
   have k2:Tryz.prog.cellsOf 26=1:=by kernel_rfl
   have k3:Tryz.prog.cellsOf 27=1:=by kernel_rfl
   rw [k0] at g0
   rw [k1] at g1
   rw [k2] at g2
   rw [k3] at g3
   have d0:((L++[a12,a13,a14]).drop 0).take 12=L:=by rw [List.drop_zero,List.take_append_of_le_length (by omega),List.take_of_length_le (by omega)]
   have d1:((L++[a12,a13,a14]).drop 12).take 1=[a12]:=by rw [List.drop_append_of_le_length (by omega),List.drop_of_length_le (by omega)];rfl
   have d2:((L++[a12,a13,a14]).drop 13).take 1=[a13]:=by rw [show 13=L.length+1 by omega,List.drop_length_add_append];rfl
   have d3:((L++[a12,a13,a14]).drop 14).take 1=[a14]:=by rw [show 14=L.length+2 by omega,List.drop_length_add_append];rfl
   rw [d0] at g0
   rw [d1] at g1
   rw [d2] at g2
   rw [d3] at g3
   obtain ⟨A,zs,cap,sh,ra,mo,wo,ba,mi,st,bu,ch,wi,ca,hA,hcap,hm,hr,hra,hmo⟩:=cells_conf g0
   obtain ⟨DA,l,dcap,hD,_,hlm,hd,hex⟩:=open_exs g1
   obtain ⟨SA,ss,scap,hS,_,hsm,hs,hsw⟩:=open_slice_int Tryz.underlying26 Tryz.underlying2 Tryz.cellsInt64 g2
   obtain ⟨RA,rs,rcap,hR,_,hrm,hrr,hrw⟩:=open_slice_int Tryz.underlying27 Tryz.underlying141 (by kernel_rfl) g3
   obtain ⟨ds,rfl⟩:=nats_of (zs:=rs) fun z hz=>(wf_bd (hrw z hz)).1
   refine ⟨⟨A,cap,zs,DA,dcap,l,SA,scap,ss,RA,rcap,ds,sh,ra,mo,wo,ba,mi,st,bu,ch,wi,ca⟩,?_,⟨hr,hcap,hm,hd,hlm,hex,hs,hsm,fun z hz=>wf_bd (hsw z hz),?_,by simpa using hrm,hra,hmo⟩⟩
   · rw [show cs=cs.toList.toArray by simp,hL,hA,hD,hS,hR]
     simp [Gi.cells]
   · rw [List.map_map] at hrr
     exact hrr
end Go.Proofs.YtdpojpcoghcieaaGreat
