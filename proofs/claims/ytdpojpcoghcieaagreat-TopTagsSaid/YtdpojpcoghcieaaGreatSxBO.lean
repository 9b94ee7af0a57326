/- A part of the proof of TopTags: MsgsW. Conditions: none. -/
import Derived.Test.YtdpojpcoghcieaaGreatSxBL
set_option maxHeartbeats 8000000
set_option linter.all false
namespace Go.Proofs.YtdpojpcoghcieaaGreat
open Lib renaming hid → K1
open List renaming filterMap_cons → p1, filterMap_nil → p2, getElem?_cons_zero → p3, getElem?_cons_succ → p4
open Go.RowKit
set_option maxRecDepth 100000
open Value renaming int → U, slice → Us
open IntKind renaming i64 → O
open And renaming intro → Ail
open Nat renaming mod_lt → Aim
open Below renaming refl → Ain
open After renaming go → Aio
open List renaming map_append → Aip
section
theorem TV (w:World) (l:Ln) (R:List Ch) (h:Mem w (l.ps++R)) (ho:l.Ok) (hb:l.se<=1000000) :
  Calls Tryz.prog 49 #[.pointer (some ⟨l.g,0,none⟩)] w fun e w'=>∃ (A:Option Addr) (c:Nat) (ms:List Ms),e=.returned (Us A l.q.length c)/\ms.map Ms.t=l.q.map Prod.fst/\Rd w' w'.heap.size A (mcells ms)/\(∀ q,A=some q->w.heap.size<=q.block)/\Below w.heap.size w w':=by
 obtain ⟨g,base,cap,A,n,c,se,re,pk,ms⟩:=l;have hn:ms.length=n:=ho.ok.len;have hcap:1<=cap/\cap<=1048576:=ho.ok.cp;have hle:re<=se:=ho.ok.le;have hroom:se-re<=cap:=ho.ok.room;have hfew:n=min se cap:=ho.ok.few
 obtain ⟨d,hd⟩:∃ d,d=se-re:=⟨_,rfl⟩
 have hql:(qL cap se re ms).length=d:=by rw [Jo,hd]
 have hse:se<=1000000:=hb;have HG:=K1 (fun W (hb:Below w.heap.size w W)=>(show ∀ i,W.cell? ⟨g,i,none⟩=(BF A n c cap se re pk)[i]? from fun i=>Af (Ln.blk (h.below hb)) i));have HR:=K1 (fun W (hb:Below w.heap.size w W)=>(Ln.ring (h.below hb):Rd W W.heap.size A (mcells ms)));have HV:=K1 (fun W (hb:Below w.heap.size w W) (k:Nat) (m:Ms) (hm:ms[k]?=some m)=>(show Rd W W.heap.size m.A (zC m.v)/\m.v.length<=1000 from ⟨(h.below hb).st 2 rfl _ (LY hm),(ho.ok.vals m (List.mem_of_getElem? hm)).1⟩));have CL:=K1 (fun W (hb:Below w.heap.size w W)=>Fs W g n c cap se re pk A (HG.out W hb) hle (by omega))
 have CP:=K1 (fun W (hb:Below w.heap.size w W) (s:Nat) (hs:s<=1000000)=>H8 W g n c cap se re pk s A (HG.out W hb) hcap.1 (by omega))
 have HQ:=K1 (show ∀ j,j<d->∃ m,ms[(re+j) % cap]?=some m/\((qL cap se re ms).take (j+1)).map Prod.fst=((qL cap se re ms).take j).map Prod.fst++[m.t] by
  intro j hj;have h4:(re+j) % cap<cap:=Aim _ hcap.1;have h5:(re+j) % cap<=re+j:=Nat.mod_le _ _;obtain ⟨m,hm⟩:=Au ms ((re+j) % cap) (by omega);refine ⟨m,hm,?_⟩
  have hq:(qL cap se re ms)[j]?=some (m.t,m.v):=by
   unfold qL;rw [List.getElem?_map,List.getElem?_range (by omega)];simp [qAt,hm]
  rw [List.take_add_one,hq,Aip]
  rfl)
 dsimp only [Ln.q] at *;have HM:=K1 ((Mem.start w).add (c:=.own w.heap.size 78 6 (Us none 0 0) 0 []) ⟨Bh _ _ _ _,Nat.le_refl _⟩ (fun _ _ _ _ g hg=>by cases hg));have HQL:=K1 hql;have hdb:d<=1000000:=by omega
 have HFB:=K1 (show ∀ j,j<d->re+j<=1000000 from fun j hj=>by omega)
 have HNC:=K1 (show ∀ j,j<d->(re+j) % cap<n by
  intro j hj;have h4:(re+j) % cap<cap:=Aim _ hcap.1;have h5:(re+j) % cap<=re+j:=Nat.mod_le _ _
  omega)
 have hA:0<d->∃ b o,A=some ⟨b,o,none⟩:=fun h0=>by
  obtain ⟨b,o,e,_,_⟩:=HR.out w (Ain _ _) (by rw [E4];have:=HNC.out 0 h0;omega);exact ⟨b,o,e⟩
 have hdr:se-re=d:=hd.symm;rw [hdr] at CL;clear h ho hb hn hle hroom hfew hql hd hdr;go_enter Tryz.func49,Tryz.ntmps49;go_wp2_with fail;refine (CL.out _ (HM.out.bel 0 rfl)).mono ?_;rintro e w1 ⟨rfl,q1,rfl⟩;replace HM:=K1 (HM.out.drewN q1);clear CL;go_wp2_with fail
 go_loopw [3,8] (fun s3 s8 wr=>∃ (j:Nat) (A2:Option Addr) (c2:Nat) (l2:List Ms),j<=d/\s3=Us A2 j c2/\s8=U O j/\Hid (l2.map Ms.t=((qL cap se re ms).take j).map Prod.fst)/\Hid (Mem wr [.bel w.heap.size w,.own w.heap.size 78 6 (Us A2 j c2) j (mcells l2)])) (fun _ s8 _=>d-(intOf s8).toNat)
 case atStart=>exact ⟨0,none,0,[],Nat.zero_le _,rfl,rfl,K1 rfl,HM⟩
 case round =>
  clear HM;obtain ⟨j,A2,c2,l2,hj,rfl,rfl,HT,HM⟩:=hrel
  by_cases hlt:j<d
  . obtain ⟨b,o,rfl⟩:=hA (by omega);obtain ⟨⟨⟨st,bu,ph,ro,ch⟩,mA,mc,mv⟩,hm,hqt⟩:=HQ.out j hlt
    obtain ⟨s,hs⟩:∃ s,s=re+j:=⟨_,rfl⟩
    have hsb:s<=1000000:=by have:=HFB.out j hlt;omega
    have CPk:=K1 (fun W hb=>CP.out W hb s hsb);have hkn:=HNC.out j hlt;rw [<- hs] at hm hkn;generalize s % cap=k at *;have e1:(re:Int)+(j:Int)=(s:Int):=by omega
    have w1:IntKind.i64.wrap (s:Int)=(s:Int):=IntWalk.i64_in _ (by omega)
    obtain ⟨nv,hnv⟩:∃ nv,nv=mv.length:=⟨_,rfl⟩
    have HVk:=K1 (fun W hb=>HV.out W hb k _ hm);have hnb:nv<=1000:=by rw [hnv];exact (HVk.out w (Ain _ _)).2
    have HC:=K1 (fun W (hb:Below w.heap.size w W) j v (h:([U O st,U O bu,U O ph,U O ro,U O ch,Us mA nv mc]:List Value)[j]?=some v)=>(show W.cell? ⟨b,o+k*6+j,none⟩=some v by rw [Nat.add_assoc];exact DY (HR.out W hb) (Gg hm (by rw [hnv] at h;exact h))));have HG2:=K1 (fun W (hb:Below w.heap.size w W)=>(show ∀ i,W.cell? ⟨g,i,none⟩=([Us (some ⟨b,o,none⟩) n c,U O cap,U O se,U O re,U O pk]:List Value)[i]? from HG.out W hb));have CC:=K1 (fun W (hb:Below w.heap.size w W)=>LV mA nv mc mv W (HVk.out W hb).1 hnv.symm (by omega));have HS:=K1 (Ail hs hqt);clear hs hqt hm hnv HVk;replace HM:=K1 HM.out.hole_
    go_upto_region 5 with fail
    go_cut [5] from 10 to 25 (fun s5 W=>∃ g5:Nat,s5=.pointer (some ⟨g5,0,none⟩)/\Hid (Mem W [.bel w.heap.size w,.own w.heap.size 78 6 (Us A2 j c2) j (mcells l2),.obj g5 (.cells #[U O st,U O bu,U O ph,U O ro,U O ch,Us mA nv mc] 78 (0,0))]))
    case first =>
     refine A9 fun W1 hW=>?_;replace HM:=K1 (hW.out.symm ▸ HM.out);clear hW;refine AC (.reads [0,1,2,3,4,5,6,7,8,9,10,11] (.two 12 15 (.reads [13,14] (.eff 15 (.eff 16 (.fin)))) (.eff 12 (.reads [13,14] (.eff 16 (.fin)))))) 17 (fun W'=>(∀ i,W'.cell? ⟨g,i,none⟩=([Us (some ⟨b,o,none⟩) n c,U O cap,U O se,U O re,U O pk]:List Value)[i]?)/\(∀ j v,([U O st,U O bu,U O ph,U O ro,U O ch,Us mA nv mc]:List Value)[j]?=some v->W'.cell? ⟨b,o+k*6+j,none⟩=some v)) ?_;replace HM:=K1 HM.out.drew;generalize W1.drew=V1 at *;refine PlS.rd_ ⟨HG2.out _ (HM.out.bel 0 rfl),HC.out _ (HM.out.bel 0 rfl)⟩ ?_
     repeat' (first
      | (refine PlS.two_ ?_ ?_
         skip)
      | (refine PlS.reads_ ⟨HG2.out _ (HM.out.bel 0 rfl),HC.out _ (HM.out.bel 0 rfl)⟩ (by kernel_rfl) ?_
         simp only [AW,p1,p2,p3,p4];apply Exists.intro;apply Ail
         . intro W' hS;obtain ⟨s1,s2⟩:=hS
           still_step
           refine Ea rfl _ _ rfl b (o+k*6) rfl [U O st,U O bu,U O ph,U O ro,U O ch,Us mA nv mc] _ Tryz.underlying78 rfl (by kernel_rfl) s2 ?_
           exact wpStill_nil rfl)
      | (refine PlS.ef_ (k:=12) ?_
         go_wp2_with fail;refine (CPk.out _ (HM.out.bel 0 rfl)).mono ?_;rintro e w9 ⟨rfl,rfl⟩;go_wp2_with fail
         refine Aio ⟨HG2.out _ (HM.out.bel 0 rfl),HC.out _ (HM.out.bel 0 rfl)⟩ ?_)
      | (refine PlS.ef_ (k:=15) ?_
         obtain ⟨g5,hgg,_,hmm⟩:=HM.out.allocFit rfl (.cells #[U O 0,U O 0,U O 0,U O 0,U O 0,Us none 0 0] 78) 2 rfl;go_wp2_with fail;rw [<- hgg];refine AH fun W15 hW=>?_;have HM:=K1 (hW.out.symm ▸ hmm);clear hW hmm hgg
         refine Aio ⟨HG2.out _ (HM.out.bel 0 rfl),HC.out _ (HM.out.bel 0 rfl)⟩ ?_)
      | (refine PlS.ef_ (k:=16) ?_
         refine Bt rfl _ _ _ rfl HM.out 2 rfl #[U O st,U O bu,U O ph,U O ro,U O ch,Us mA nv mc] rfl rfl (by kernel_rfl) rfl rfl ?_;intro W16 hm16;have HM:=K1 hm16;clear hm16;go_wp2_with fail
         refine Aio ⟨HG2.out _ (HM.out.bel 0 rfl),HC.out _ (HM.out.bel 0 rfl)⟩ ?_)
      | (refine PlS.fin_ ?_
         go_wp2_with fail;go_meet
         exact ⟨g5,rfl,HM⟩))
    case rest =>
     obtain ⟨g5,rfl,HMB⟩:=hcut;clear HM;have HM:=K1 HMB.out;clear HMB;have c3:=HM.out.cells 2 rfl;go_wp2_with fail;clear c3;refine (CC.out _ (HM.out.bel 0 rfl)).mono ?_;rintro e w3 ⟨A3,c3,rfl,_,_,hb⟩;have hm4:=(HM.out.below hb).set (i:=2) (j:=5) rfl (Us A3 nv c3);have c2:=(HM.out.below hb).cells 2 rfl;have f2:=fun j=>(HM.out.below hb).frozen 2 j rfl
     have HM4:=K1 hm4;clear hm4 hb HM CC;go_upto_region 7 with fail
     clear c2 f2;refine A9 fun W5 hW=>?_;have hm5:=hW.out.symm ▸ HM4.out;clear hW HM4;have HM:=K1 (show Mem W5 [.bel w.heap.size w,.own w.heap.size 78 6 (Us A2 j c2) j (mcells l2),.obj g5 (.cells #[U O st,U O bu,U O ph,U O ro,U O ch,Us A3 nv c3] 78 (0,0))] from hm5);clear hm5;have k3:=HM.out.cells 2 rfl;have HM5:=K1 (HM.out.alloc (.cells #[U O st,U O bu,U O ph,U O ro,U O ch,Us A3 nv c3] 78));have HNV:=K1 (show nv=(List.replicate nv (0:Int)).length by simp)
     have HSN:=K1 (show mcells (l2++[⟨⟨st,bu,ph,ro,ch⟩,A3,c3,List.replicate nv 0⟩])=mcells l2++[U O st,U O bu,U O ph,U O ro,U O ch,Us A3 nv c3] by rw [Jr];simp [Ms.cells,Tg.cells])
     go_wp2_with (at_builtin;refine AQ (n:=j) rfl _ _ 62 rfl HM5.out 1 E7 rfl rfl _ 1 _ [U O st,U O bu,U O ph,U O ro,U O ch,Us A3 nv c3] rfl (HM5.out.box 3 rfl) rfl (by intro v hv;simp at hv;rcases hv with rfl | rfl | rfl | rfl | rfl | rfl <;> rfl) (by omega) ?_;intro A6 c6 W6 hm6;rw [<- HSN.out] at hm6;have HM6:=K1 hm6;clear hm6)
     go_roundw
     case rel =>
      refine ⟨j+1,A6,c6,_,by omega,rfl,by go_num,K1 ?_,K1 (HM6.out.pick [0,1] _ rfl (by decide))⟩;rw [Aip,HT.out,HS.out.2];rfl
     case measure=>simp [intOf];omega
  . have hjd:j=d:=by omega
    subst hjd;go_wp2_with fail;go_ret;refine ⟨A2,c2,l2,by simp [HQL.out],?_,AJ (HM.out.own 1 rfl),AF (HM.out.own 1 rfl),HM.out.bel 0 rfl⟩;have:=HT.out
    rwa [List.take_of_length_le (Nat.le_of_eq HQL.out)] at this
theorem TW (w:World) (x:Wv) (r:Rn) (R:List Ch) (h:Mem w (x.ps++R)) (ho:x.Ok r) (hb:x.count<=1000000) (u:Nat) (hu:u<r.c.k) (l:Ln) (hl:x.ls[u]?=some l) :
  Calls Tryz.prog 20 #[.pointer (some ⟨x.g,0,none⟩),U O u] w fun e w'=>∃ (A:Option Addr) (c:Nat) (ms:List Ms) (z:Value),e=.returned (.tuple #[Us A l.q.length c,z])/\ms.map Ms.t=l.q.map Prod.fst/\Rd w' w'.heap.size A (mcells ms)/\(∀ q,A=some q->w.heap.size<=q.block)/\Below w.heap.size w w':=by
 have hk:=ho.c.k;obtain ⟨m,h1⟩:=Au x.ms u (by rw [ho.lm];exact hu);obtain ⟨li,h2⟩:=Au x.ls ((u+r.c.k-1) % r.c.k) (by rw [ho.ll];exact Aim _ (by omega));have CA:=K1 (Jv w x _ (by have:=h;unfold Wv.ps at this;rw [List.append_assoc] at this;exact this) r.c.k ho.lm ho.ll hk u hu m li l h1 h2 hl);obtain ⟨q1,q2,q3,_⟩:=ho.l u l hl
 have hpl:∃ R2,(x.ps++R).Perm (l.ps++R2):=⟨_,(x.perm2 R h1 hl).trans (Gs m.ps l.ps _)⟩
 obtain ⟨R2,hp⟩:=hpl;have CM:=K1 (fun W (hb:Below w.heap.size w W)=>TV W l R2 ((h.below hb).perm hp) q1 (by omega));have CK:=K1 (fun W (hb:Below w.heap.size w W)=>Re W l.g l.n l.c l.cap l.se l.re l.pk l.A (fun i=>Af (Ln.blk ((h.below hb).perm hp)) i));have HB:=K1 (Ain w.heap.size w);dsimp only [ifV,ptV] at CA;generalize l.q.length=nq at *;clear h ho hb h1 h2 hl hk q1 q2 q3 hp;go_enter Tryz.func20,Tryz.ntmps20;go_wp2_with fail;refine CA.out.mono ?_;rintro e w1 ⟨rfl,q,rfl⟩;have HM:=K1 ((Mem.start w).drewN q);clear CA;go_wp2_with fail;refine (CM.out _ (HM.out.bel 0 rfl)).mono ?_
 rintro e w2 ⟨A,c,ms,rfl,ht,hr,hf,hb⟩;have HR:=K1 (Ail ht (Ail hr hf));replace HM:=K1 (HM.out.below hb);clear ht hr hf hb CM;go_wp2_with fail;refine (CK.out _ (HM.out.bel 0 rfl)).mono ?_;rintro e w3 ⟨rfl,rfl⟩;go_wp2_with fail;refine bodyPost_ret (v:=.tuple #[Us A nq c,U O l.pk]) ?_ rfl ⟨A,c,ms,_,rfl,HR.out.1,HR.out.2.1,fun q hq=>HR.out.2.2 q hq,HM.out.bel 0 rfl⟩;simp [results,Tryz.results20,go_sem]
end
end Go.Proofs.YtdpojpcoghcieaaGreat
