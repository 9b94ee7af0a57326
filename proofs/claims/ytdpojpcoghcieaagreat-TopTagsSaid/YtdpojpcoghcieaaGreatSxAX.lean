/- A part of the proof of TopTags: LinkSend, MachKit, MachNext, MachSend, Delete, ItsR. Conditions: none. -/
import Derived.Lib.SliceRun
import Derived.Test.YtdpojpcoghcieaaGreatSxAV
set_option maxHeartbeats 8000000
set_option linter.all false
namespace Go.Proofs.YtdpojpcoghcieaaGreat
open Lib renaming hid → K1
open Go.RowKit
set_option maxRecDepth 100000
open Value renaming int → U, slice → Us
open IntKind renaming i64 → O
open PlS renaming rd_ → Aai, ef_ → Aaj, fin_ → Aal
open After renaming go → Aak, last → Aan
open List renaming getElem?_eq_getElem → Aam, set_set → Aap, cons_append → Aar, nil_append → Aas, length_set → Aau, take_add_one → Aaw, getElem?_take → Aay, length_take → Aaz, filter_append → Aa0, getElem?_set_ne → Aa1, getElem?_set_self → Aa2, ext_getElem? → Aa3, getElem?_eq_none → Aa4, getElem?_of_mem → Aa7
open Nat renaming le_refl → Aao, zero_add → Aav, lt_or_ge → Aax
open And renaming intro → Aaq
open IntWalk renaming i64_in → Aat
open World renaming setCells → Aa5, size_alloc → Aa6
section
theorem Fz (x:Ms) (L:List Value) (k i:Nat) (v:Value):(x.cells++L).set ((k+1)*6+i) v=x.cells++L.set (k*6+i) v:=by
 have h:x.cells.length=6:=rfl;rw [List.set_append_right _ _ (by omega),h,show (k+1)*6+i-6=k*6+i by omega]
theorem Rz (x:Ms) (L:List Value) (k:Nat) (v:Value):(x.cells++L).set ((k+1)*6) v=x.cells++L.set (k*6) v:=Fz x L k 0 v
theorem Me:∀ (ms:List Ms) (k:Nat) (m:Ms),k<ms.length->mcells (ms.set k m)=((((((mcells ms).set (k*6) (U O m.t.step)).set (k*6+1) (U O m.t.bucket)).set (k*6+2) (U O m.t.phase)).set (k*6+3) (U O m.t.round)).set (k*6+4) (U O m.t.chunk)).set (k*6+5) (Us m.A m.v.length m.c)
 | [],_,_,h=>by simp at h
 | x::r,0,m,_=>rfl
 | x::r,k+1,m,h=>by
   have ih:=Me r k m (by simpa using h);have e1:mcells (x::r)=x.cells++mcells r:=rfl;have e2:mcells ((x::r).set (k+1) m)=x.cells++mcells (r.set k m):=rfl;rw [e1,e2,ih,Rz,Fz,Fz,Fz,Fz,Fz]
theorem Jr (ms:List Ms) (m:Ms):mcells (ms++[m])=mcells ms++m.cells:=by simp [mcells]
theorem Gp (m:Ms):∀ u∈m.cells,u.oneCell'=true:=by
 intro u hu;simp [Ms.cells,Tg.cells] at hu
 rcases hu with rfl | rfl | rfl | rfl | rfl | rfl <;> rfl
theorem R0:(Tryz.prog.info? 78).map (fun i=>(i.zero,i.size,i.bytes))=some (some (.agg #[U O 0,U O 0,U O 0,U O 0,U O 0,Us none 0 0]),6,64):=by kernel_rfl
theorem E7:RowT Tryz.prog 62 78 6 64:=by
 obtain ⟨i0,hi,hz0,hz1,hz2⟩:=info_parts R0;exact ⟨i0,_,Tryz.underlying62,hi,hz0,hz1,hz2,rfl,by decide,by decide⟩
theorem Mem.cast {W:World} {L L':List Ch} (h:Mem W L) (e:L=L'):Mem W L':=e ▸ h
theorem Mg {W:World} {L:List Ch} {i j cap se:Nat} {ms:List Ms} {m:Ms} (h:Mem W L) (hi:L[i]?=some (AD (lfam ms))) (hj:L[j]?=some (.rd m.A (zC m.v))):Mem W (L.set i (AD (lfam (Df cap se ms m)))):=by
 have key:∀ x∈Df cap se ms m,x∈ms\/x=m:=fun x hx=>by
  unfold Df at hx
  split at hx
  . exact List.mem_or_eq_of_mem_set hx
  . rcases List.mem_append.1 hx with hx | hx
    . exact .inl hx
    . exact .inr (List.mem_singleton.1 hx)
 refine h.reset hi (Da fun a ha=>?_) (fun h=>h) ?_
 . obtain ⟨x,hx,rfl⟩:=List.mem_map.1 ha
   rcases key x hx with hx | rfl
   . exact h.st i hi _ (List.mem_map.2 ⟨x,hx,rfl⟩)
   . exact h.rd j hj
 . rintro g ⟨a,ha,h0,p,hp,rfl⟩;obtain ⟨x,hx,rfl⟩:=List.mem_map.1 ha
   rcases key x hx with hx | rfl
   . exact ⟨i,_,hi,fun h=>h,_,List.mem_map.2 ⟨x,hx,rfl⟩,h0,p,hp,rfl⟩
   . exact ⟨j,_,hj,fun h=>h,h0,p,hp,rfl⟩
theorem R1 (w:World) (l:Ln) (R:List Ch) (h:Mem w (l.ps++R)) (ho:l.Ok) (hb:l.se<=100000000) (hroom:l.se-l.re=l.cap) (t:Tg) (Av:Option Addr) (nv cv:Nat) :
  Calls Tryz.prog 210 #[.pointer (some ⟨l.g,0,none⟩),.agg (t.cells++[Value.slice Av nv cv]).toArray] w fun e w'=>e=.returned (U O 11)/\Mem w' (l.ps++R):=by
 obtain ⟨g,base,cap,A,n,c,se,re,pk,ms⟩:=l;have hre:=ho.ok.le;have hcap:=ho.ok.cp;dsimp only at *;have CL:=K1 (fun (W:World) h=>Fs W g n c cap se re pk A h hre (by omega));rw [hroom] at CL;obtain ⟨st,bu,ph,ro,ch⟩:=t;dsimp only [Tg.cells] at *;simp only [Aar,Aas];have hm0:=(h.alloc (.cells #[U O st,U O bu,U O ph,U O ro,U O ch,Us Av nv cv] 78)).fA;have HM:=K1 hm0;clear hm0 h ho hb;go_enter Tryz.func210,Tryz.ntmps210;go_wp2_with fail;refine A9 fun W0 hW0=>?_;replace HM:=K1 (hW0.out.symm ▸ HM.out);clear hW0
 refine AC (.reads [0,2,3,4,5] (.eff 1 (.reads [6] .fin))) 7 (fun W'=>∀ i,W'.cell? ⟨g,i,none⟩=(BF A n c cap se re pk)[i]?) ?_;replace HM:=K1 HM.out.drew;generalize W0.drew=V at *;refine Aai (Af (HM.out.obj 0 rfl)) ?_;refine Aaj ?_;go_wp2_with fail;refine (CL.out _ (Af (HM.out.obj 0 rfl))).mono ?_;rintro e w2 ⟨rfl,q0,rfl⟩;replace HM:=K1 (HM.out.drewN q0);clear CL;go_wp2_with fail;refine Aak (Af (HM.out.obj 0 rfl)) ?_;refine Aai (Af (HM.out.obj 0 rfl)) ?_;refine Aal ?_;have c0:=HM.out.cells 0 rfl;go_wp2_with fail;go_ret;exact ⟨rfl,HM.out.mid⟩
theorem R3 (w:World) (l:Ln) (R:List Ch) (h:Mem w (l.ps++R)) (ho:l.Ok) (hb:l.se<=100000000) (hroom:l.se-l.re<l.cap) (t:Tg) (Av:Option Addr) (nv cv:Nat) (vs:List Int) (hv:Rd w w.heap.size Av (zC vs)) (hvl:vs.length=nv) (hvb:nv<=1000) :
  Calls Tryz.prog 210 #[.pointer (some ⟨l.g,0,none⟩),.agg (t.cells++[Value.slice Av nv cv]).toArray] w fun e w'=>e=.returned (U O 0)/\∃ A' c' Am cm,nv<=cm/\Mem w' (({ l with A:=A',n:=min (l.se+1) l.cap,c:=c',se:=l.se+1,pk:=max l.pk (l.se+1-l.re),ms:=Df l.cap l.se l.ms ⟨t,Am,cm,vs⟩ }:Ln).ps++R):=by
 obtain ⟨g,base,cap,A,n,c,se,re,pk,ms⟩:=l;have hre:=ho.ok.le;have hcap:=ho.ok.cp;have hlen:=ho.ok.len;have hfew:=ho.ok.few;have hpk:=ho.pk;have hpl:=fun m=>ho.ok.put_len m
 dsimp only at *;have CL:=K1 (fun (W:World) h=>Fs W g n c cap se re pk A h hre (by omega));have CP:=K1 (fun (W:World) h=>H8 W g n c cap se re pk se A h hcap.1 (by omega));have CC:=K1 (fun (W:World) (hb:Below w.heap.size w W)=>LV Av nv cv vs W ((hv.below hb).more hb.size) hvl (by omega));have HB:=K1 (Below.refl w.heap.size w)
 obtain ⟨d,hd⟩:∃ d,d=se-re:=⟨_,rfl⟩
 obtain ⟨d1,hd1⟩:∃ d1,d1=se+1-re:=⟨_,rfl⟩
 obtain ⟨s1,hs1⟩:∃ s1,s1=se+1:=⟨_,rfl⟩
 rw [<- hd] at CL hroom;have hs1i:(se:Int)+1=(s1:Int):=by omega
 have hs1b:s1<=1000000000:=by omega
 have hd1b:d1<=1000000000:=by omega
 have hpkb:pk<=1048576:=by omega
 have ws1:IntKind.i64.wrap (s1:Int)=(s1:Int):=Aat _ (by omega);have hdne:¬ d=cap:=by omega
 have hkc:se % cap<cap:=Nat.mod_lt _ hcap.1
 have hkl:se % cap<=n:=by
  rcases Aax se cap with h6 | h6
  . have:=Nat.mod_le se cap;omega
  . omega
 have CL2:=K1 (fun (W:World) (n' c':Nat) (A':Option Addr) h=>Fs W g n' c' cap s1 re pk A' h (by omega) hs1b);rw [show s1-re=d1 by omega] at CL2;rw [<- hd1,<- hs1];have HPL:Hid (∀ m,(Df cap se ms m).length=min s1 cap):=K1 (fun m=>by rw [hs1];exact hpl m);have HLE:=K1 hlen;have HPD:Hid (∀ m,Df cap se ms m=if se % cap<n then ms.set (se % cap) m else ms++[m]):=K1 (fun m=>by unfold Df;rw [hlen])
 obtain ⟨px,hpx⟩:∃ px,px=max pk d1:=⟨_,rfl⟩
 have hpxi:max (pk:Int) (d1:Int)=(px:Int):=by omega
 rw [<- hpx];have HVL:=K1 hvl;generalize se % cap=k at *;obtain ⟨st,bu,ph,ro,ch⟩:=t;dsimp only [Tg.cells] at *;simp only [Aar,Aas];have HM:=K1 ((h.alloc (.cells #[U O st,U O bu,U O ph,U O ro,U O ch,Us Av nv cv] 78)).fA);replace HB:=K1 (HB.out.alloc (Aao _) (.cells #[U O st,U O bu,U O ph,U O ro,U O ch,Us Av nv cv] 78));have hkb:k<=1048576:=by omega
 have hnb:n<=1048576:=by omega
 clear h ho hv hvl hlen hfew hpk hpl hd hd1 hs1 hb hpx hre;go_enter Tryz.func210,Tryz.ntmps210;go_wp2_with fail;replace HB:=K1 HB.out.drew;refine A9 fun W0 hW0=>?_;replace HM:=K1 (hW0.out.symm ▸ HM.out);replace HB:=K1 (show Below w.heap.size w W0.drew from hW0.out.symm ▸ HB.out);clear hW0;refine AC (.reads [0,2,3,4,5] (.eff 1 (.reads [6] .fin))) 7 (fun W'=>∀ i,W'.cell? ⟨g,i,none⟩=(BF A n c cap se re pk)[i]?) ?_;replace HM:=K1 HM.out.drew;generalize W0.drew=V at *;refine Aai (Af (HM.out.obj 0 rfl)) ?_;refine Aaj ?_;go_wp2_with fail;refine (CL.out _ (Af (HM.out.obj 0 rfl))).mono ?_
 rintro e w2 ⟨rfl,q0,rfl⟩;replace HM:=K1 (HM.out.drewN q0);replace HB:=K1 (HB.out.trans (Below.mono (B:=V.heap.size) ⟨rfl,rfl,rfl,Aao _,fun _ _=>rfl⟩ HB.out.size:Below w.heap.size V (V.drewN q0)));clear CL;go_wp2_with fail;refine Aak (Af (HM.out.obj 0 rfl)) ?_;refine Aai (Af (HM.out.obj 0 rfl)) ?_;refine Aal ?_;have c0:=HM.out.cells 0 rfl;have c3:=HM.out.cells 3 rfl;go_wp2_with fail;clear c3;refine (CC.out _ HB.out).mono ?_;rintro e w3 ⟨Am,cm,rfl,ho,hcm,hb⟩;have HM3:=K1 ((HM.out.push_own hb ho rfl).fA);clear ho hb CC HM HB;have c3:=HM3.out.cells 3 rfl;have f3:=fun j=>HM3.out.frozen 3 j rfl
 have HM4:=K1 (((HM3.out.set (i:=3) (j:=5) rfl (Us Am nv cm)).fS rfl).freeze (i:=4) rfl |>.fS rfl);clear HM3;have c0:=HM4.out.cells 0 rfl;go_wp2_with fail;refine (CP.out _ (Af (HM4.out.obj 0 rfl))).mono ?_;rintro e w4 ⟨rfl,rfl⟩;clear c3 f3 CP
 by_cases hkn:k<n
 . obtain ⟨b,rfl⟩:=HM4.out.ownA (n:=n) 1 rfl (by omega);go_wp2_with fail;refine A9 fun W4 hW4=>?_;replace HM4:=K1 (hW4.out.symm ▸ HM4.out);clear hW4 c0;refine AC (.reads [0,1,2,3,4,5,6] (.eff 7 .fin)) 7 (fun W'=>(∀ i,W'.cell? ⟨g,i,none⟩=(BF (some ⟨b,0,none⟩) n c cap se re pk)[i]?)/\(∀ i,W'.cell? ⟨w.heap.size,i,none⟩=([U O st,U O bu,U O ph,U O ro,U O ch,Us Am nv cm]:List Value)[i]?)) ?_;replace HM4:=K1 HM4.out.drew;generalize W4.drew=V4 at *;refine Aai ⟨Af (HM4.out.obj 0 rfl),HM4.out.cells 3 rfl⟩ ?_;refine Aaj ?_
   have ho1:V4.ownsRow base 78 6 (Us (some ⟨b,0,none⟩) n c) n (mcells ms):=HM4.out.own 1 rfl;have hl6:(mcells ms).length=n*6:=by rw [E4,HLE.out]
   obtain ⟨u0,k0⟩:∃ u,V4.cell? ⟨b,k*6,none⟩=some u:=⟨_,(ho1.cellAt (k*6+0) (by omega)).trans (Aam (by omega))⟩
   obtain ⟨u1,k1⟩:∃ u,V4.cell? ⟨b,k*6+1,none⟩=some u:=⟨_,(ho1.cellAt (k*6+1) (by omega)).trans (Aam (by omega))⟩
   obtain ⟨u2,k2⟩:∃ u,V4.cell? ⟨b,k*6+2,none⟩=some u:=⟨_,(ho1.cellAt (k*6+2) (by omega)).trans (Aam (by omega))⟩
   obtain ⟨u3,k3⟩:∃ u,V4.cell? ⟨b,k*6+3,none⟩=some u:=⟨_,(ho1.cellAt (k*6+3) (by omega)).trans (Aam (by omega))⟩
   obtain ⟨u4,k4⟩:∃ u,V4.cell? ⟨b,k*6+4,none⟩=some u:=⟨_,(ho1.cellAt (k*6+4) (by omega)).trans (Aam (by omega))⟩
   obtain ⟨u5,k5⟩:∃ u,V4.cell? ⟨b,k*6+5,none⟩=some u:=⟨_,(ho1.cellAt (k*6+5) (by omega)).trans (Aam (by omega))⟩
   have kf:=HM4.out.ownF 1 rfl;have hm5:=HM4.out.setOwn6 (i:=1) (k:=k*6) rfl (U O st) (U O bu) (U O ph) (U O ro) (U O ch) (Us Am nv cm);have hset:=Me ms k ⟨⟨st,bu,ph,ro,ch⟩,Am,cm,vs⟩ (by rw [HLE.out];exact hkn);dsimp only at hset;rw [HVL.out] at hset;have hm6:=Mem.cast hm5 (show _=([H7 g (some ⟨b,0,none⟩) n c cap se re pk,.own base 78 6 (Us (some ⟨b,0,none⟩) n c) n (mcells (ms.set k ⟨⟨st,bu,ph,ro,ch⟩,Am,cm,vs⟩)),AD (lfam ms),.obj w.heap.size (.cells #[U O st,U O bu,U O ph,U O ro,U O ch,Us Am nv cm] 78 (0,0)),.rd Am (zC vs)]++R) by rw [hset];rfl)
   have HM5:=K1 ((Mg (i:=2) (j:=4) (cap:=cap) (se:=se) (m:=⟨⟨st,bu,ph,ro,ch⟩,Am,cm,vs⟩) hm6 rfl rfl).fS rfl);clear hm5 hm6 hset HM4 ho1 hl6;go_wp2_with fail;refine Aan (by decide) (Aal ?_);clear k0 k1 k2 k3 k4 k5 kf;go_wp2_with fail;refine A9 fun W5 hW5=>?_;replace HM5:=K1 (hW5.out.symm ▸ HM5.out);clear hW5;refine AC (.reads [0,1,2,3,4,5] (.eff 6 (.eff 7 (.reads [8] (.eff 9 (.fin)))))) 9 (fun W'=>∀ i,W'.cell? ⟨g,i,none⟩=(BF (some ⟨b,0,none⟩) n c cap se re pk)[i]?) ?_;replace HM5:=K1 HM5.out.drew;generalize W5.drew=V5 at *;refine Aai (Af (HM5.out.obj 0 rfl)) ?_;refine Aaj ?_;go_wp2_with fail
   refine Aak (Af (HM5.out.obj 0 rfl)) (Aaj ?_);go_wp2_with fail;refine Aak (Af (HM5.out.obj 0 rfl)) ?_;refine Aai (Af (HM5.out.obj 0 rfl)) ?_;refine Aaj ?_;have c0:=HM5.out.cells 0 rfl;have f0:=fun j=>HM5.out.frozen 0 j rfl
   have HM6:=K1 ((HM5.out.set (i:=0) (j:=2) rfl (U O s1)).fS rfl);clear HM5;go_wp2_with fail;refine Aan (by decide) (Aal ?_);clear c0 f0;go_wp2_with fail;refine A9 fun W6 hW6=>?_;replace HM6:=K1 (hW6.out.symm ▸ HM6.out);clear hW6;refine AC (.reads [0,1,2,3,4,5] (.eff 6 (.reads [7] (.eff 8 (.reads [9] (.eff 10 .fin)))))) 10 (fun W'=>∀ i,W'.cell? ⟨g,i,none⟩=(BF (some ⟨b,0,none⟩) n c cap s1 re pk)[i]?) ?_;replace HM6:=K1 HM6.out.drew;generalize W6.drew=V6 at *;refine Aai (Af (HM6.out.obj 0 rfl)) ?_;refine Aaj ?_;go_wp2_with fail;refine (CL2.out _ _ _ _ (Af (HM6.out.obj 0 rfl))).mono ?_
   rintro e w7 ⟨rfl,q1,rfl⟩;replace HM6:=K1 (HM6.out.drewN q1);clear CL2;go_wp2_with fail;refine Aak (Af (HM6.out.obj 0 rfl)) ?_;refine Aai (Af (HM6.out.obj 0 rfl)) ?_;refine Aaj ?_;go_wp2_with fail;refine Aak (Af (HM6.out.obj 0 rfl)) ?_;refine Aai (Af (HM6.out.obj 0 rfl)) ?_;refine Aaj ?_;have c0:=HM6.out.cells 0 rfl;have f0:=fun j=>HM6.out.frozen 0 j rfl
   have HF:=K1 ((HM6.out.set (i:=0) (j:=4) rfl (U O px)).fS rfl);clear HM6;go_wp2_with fail;refine Aan (by decide) (Aal ?_);go_wp2_with fail;go_ret;refine ⟨rfl,(some ⟨b,0,none⟩),c,Am,cm,hcm,?_⟩;have hmid:=HF.out.mid (X:=[_,_,_]) (Y:=[_,_]);rw [<- HPL.out ⟨⟨st,bu,ph,ro,ch⟩,Am,cm,vs⟩,HPD.out];rw [if_pos hkn,Aau,HLE.out];rw [HPD.out,if_pos hkn] at hmid;exact hmid
 . have hkn2:k=n:=by omega
   subst hkn2;go_wp2_with fail;refine A9 fun W4 hW4=>?_;replace HM4:=K1 (hW4.out.symm ▸ HM4.out);clear hW4 c0;have HS:=K1 (show ∀ (W:World) (M:List Ch),Mem W M->M[0]?=some (H7 g A k c cap se re pk)->M[3]?=some (.obj w.heap.size (.cells #[U O st,U O bu,U O ph,U O ro,U O ch,Us Am nv cm] 78 (0,0)))->(∀ i,W.cell? ⟨g,i,none⟩=(BF A k c cap se re pk)[i]?)/\(∀ i,W.cell? ⟨w.heap.size,i,none⟩=([U O st,U O bu,U O ph,U O ro,U O ch,Us Am nv cm]:List Value)[i]?) from fun W M h h1 h2=>⟨Af (h.obj 0 h1),Af (h.obj 3 h2)⟩)
   refine AC (.reads [0,1,2,3,4,5] (.eff 6 (.eff 7 (.eff 8 (.reads [9] (.eff 10 .fin)))))) 10 (fun W'=>(∀ i,W'.cell? ⟨g,i,none⟩=(BF A k c cap se re pk)[i]?)/\(∀ i,W'.cell? ⟨w.heap.size,i,none⟩=([U O st,U O bu,U O ph,U O ro,U O ch,Us Am nv cm]:List Value)[i]?)) ?_;replace HM4:=K1 HM4.out.drew;generalize W4.drew=V4 at *;refine Aai (HS.out _ _ HM4.out rfl rfl) ?_;refine Aaj ?_;have hm5:=(HM4.out.alloc (.cells #[U O st,U O bu,U O ph,U O ro,U O ch,Us Am nv cm] 78)).fA;replace HM4:=K1 hm5;clear hm5;go_wp2_with fail;refine Aak (HS.out _ _ HM4.out rfl rfl) ?_;refine Aaj ?_
   refine AQ (n:=k) rfl _ _ 62 rfl HM4.out 1 E7 rfl rfl _ 1 _ (Ms.cells ⟨⟨st,bu,ph,ro,ch⟩,Am,cm,vs⟩) rfl (by have:=HM4.out.box 5 rfl;simpa [Ms.cells,Tg.cells,HVL.out] using this) rfl (Gp _) (by omega) ?_;intro A' c' W5 hm5;replace hm5:=hm5.fS rfl;rw [<- Jr] at hm5;have HM5:=K1 ((Mg (i:=2) (j:=4) (cap:=cap) (se:=se) (m:=⟨⟨st,bu,ph,ro,ch⟩,Am,cm,vs⟩) hm5 rfl rfl).fS rfl);clear hm5 HM4;go_wp2_with fail;refine Aak (HS.out _ _ HM5.out rfl rfl) (Aaj ?_);go_wp2_with fail;refine Aak (HS.out _ _ HM5.out rfl rfl) ?_;refine Aai (HS.out _ _ HM5.out rfl rfl) ?_;refine Aaj ?_;have c0:=HM5.out.cells 0 rfl
   have f0:=fun j=>HM5.out.frozen 0 j rfl
   replace HM5:=K1 ((HM5.out.set (i:=0) (j:=0) rfl (Us A' (k+1) c')).fS rfl);go_wp2_with fail;refine Aan (by decide) (Aal ?_);clear c0 f0;go_wp2_with fail;refine A9 fun W5 hW5=>?_;replace HM5:=K1 (hW5.out.symm ▸ HM5.out);clear hW5
   obtain ⟨k1,hk1⟩:∃ k1,k1=k+1:=⟨_,rfl⟩
   rw [<- hk1] at HM5;refine AC (.reads [0,1,2,3,4,5] (.eff 6 (.eff 7 (.reads [8] (.eff 9 (.fin)))))) 9 (fun W'=>∀ i,W'.cell? ⟨g,i,none⟩=(BF A' k1 c' cap se re pk)[i]?) ?_;replace HM5:=K1 HM5.out.drew;generalize W5.drew=V5 at *;refine Aai (Af (HM5.out.obj 0 rfl)) ?_;refine Aaj ?_;go_wp2_with fail;refine Aak (Af (HM5.out.obj 0 rfl)) (Aaj ?_);go_wp2_with fail;refine Aak (Af (HM5.out.obj 0 rfl)) ?_;refine Aai (Af (HM5.out.obj 0 rfl)) ?_;refine Aaj ?_;have c0:=HM5.out.cells 0 rfl;have f0:=fun j=>HM5.out.frozen 0 j rfl
   have HM6:=K1 ((HM5.out.set (i:=0) (j:=2) rfl (U O s1)).fS rfl);clear HM5;go_wp2_with fail;refine Aan (by decide) (Aal ?_);clear c0 f0;go_wp2_with fail;refine A9 fun W6 hW6=>?_;replace HM6:=K1 (hW6.out.symm ▸ HM6.out);clear hW6;refine AC (.reads [0,1,2,3,4,5] (.eff 6 (.reads [7] (.eff 8 (.reads [9] (.eff 10 .fin)))))) 10 (fun W'=>∀ i,W'.cell? ⟨g,i,none⟩=(BF A' k1 c' cap s1 re pk)[i]?) ?_;replace HM6:=K1 HM6.out.drew;generalize W6.drew=V6 at *;refine Aai (Af (HM6.out.obj 0 rfl)) ?_;refine Aaj ?_;go_wp2_with fail;refine (CL2.out _ _ _ _ (Af (HM6.out.obj 0 rfl))).mono ?_;rintro e w7 ⟨rfl,q1,rfl⟩
   replace HM6:=K1 (HM6.out.drewN q1);clear CL2;go_wp2_with fail;refine Aak (Af (HM6.out.obj 0 rfl)) ?_;refine Aai (Af (HM6.out.obj 0 rfl)) ?_;refine Aaj ?_;go_wp2_with fail;refine Aak (Af (HM6.out.obj 0 rfl)) ?_;refine Aai (Af (HM6.out.obj 0 rfl)) ?_;refine Aaj ?_;have c0:=HM6.out.cells 0 rfl;have f0:=fun j=>HM6.out.frozen 0 j rfl
   have HF:=K1 ((HM6.out.set (i:=0) (j:=4) rfl (U O px)).fS rfl);clear HM6;go_wp2_with fail;refine Aan (by decide) (Aal ?_);go_wp2_with fail;go_ret;refine ⟨rfl,A',c',Am,cm,hcm,?_⟩;have hmid:=HF.out.mid (X:=[_,_,_]) (Y:=[_,_,_]);rw [<- HPL.out ⟨⟨st,bu,ph,ro,ch⟩,Am,cm,vs⟩,HPD.out];rw [if_neg hkn,List.length_append,HLE.out,List.length_singleton,<- hk1];rw [HPD.out,if_neg hkn] at hmid;exact hmid
theorem Mem.inW {W W':World} {L:List Ch} (h:Mem W L) (e:W'=W):Mem W' L:=e ▸ h
def setL:List Value->Nat->List Value->List Value
 | xs,_,[]=>xs
 | xs,o,v::l=>setL (xs.set o v) (o+1) l
theorem Js:∀ (xs:List Value) (o:Nat) (vs:List Value),(setL xs o vs).length=xs.length
 | xs,o,[]=>rfl
 | xs,o,v::l=>by rw [setL,Js,Aau]
theorem Ib:∀ (xs:List Value) (o:Nat) (vs:List Value) (j:Nat),j<o->(setL xs o vs)[j]?=xs[j]?
 | xs,o,[],j,_=>rfl
 | xs,o,v::l,j,h=>by rw [setL,Ib _ _ _ _ (by omega),Aa1 (by omega)]
theorem Jt:∀ (xs:List Value) (o:Nat) (vs:List Value) (j:Nat),j<vs.length->o+j<xs.length->(setL xs o vs)[o+j]?=vs[j]?
 | xs,o,[],j,h,_=>by simp at h
 | xs,o,v::l,0,_,h=>by rw [setL,Ib _ _ _ _ (by omega),Nat.add_zero,Aa2 (by omega)];rfl
 | xs,o,v::l,j+1,h,h2=>by
   rw [setL,show o+(j+1)=o+1+j by omega,Jt _ _ _ j (by simpa using h) (by rw [Aau];omega)];simp
theorem R4 (xs vs:List Value) (h:vs.length=xs.length):setL xs 0 vs=vs:=by
 apply Aa3;intro j
 rcases Aax j vs.length with h1 | h1
 . have:=Jt xs 0 vs j h1 (by omega)
   rwa [Aav] at this
 . rw [Aa4 (by rw [Js];omega),Aa4 h1]
theorem R5 (xs:List Value) (o n:Nat) (vs:List Value) (h:n<=o):(setL xs o vs).take n=xs.take n:=by
 apply Aa3;intro j;rw [Aay,Aay]
 split
 . exact Ib _ _ _ _ (by omega)
 . rfl
theorem Mem.setCells {g i base e size n cap:Nat}:∀ (vs:List Value) {W:World} {L:List Ch} {o:Nat} {xs:List Value},Mem W L->L[i]?=some (.own base e size (Us (some ⟨g,0,none⟩) n cap) n xs) ->
  Mem (W.setCells g o vs) (L.set i (.own base e size (Us (some ⟨g,0,none⟩) n cap) n (setL xs o vs)))
 | [],W,L,o,xs,h,hi=>by rw [setL,Dv hi];exact h
 | v::l,W,L,o,xs,h,hi=>by
   have h1:=Mem.setCells l (o:=o+1) (h.setOwn (j:=o) hi v) (AU hi);rw [Aap] at h1;exact h1
theorem Mem.fillTo {g i:Nat} {t:TypeId}:∀ (vs pre post:List Value) {W:World} {L:List Ch},Mem W L->post.length=vs.length->L[i]?=some (.obj g (.cells (pre++post).toArray t (0,0)))->Mem (W.setCells g pre.length vs) (L.set i (.obj g (.cells (pre++vs).toArray t (0,0))))
 | [],pre,post,W,L,h,hl,hi=>by
   have:post=[]:=List.eq_nil_of_length_eq_zero hl;subst this;rw [Dv hi];exact h
 | v::l,pre,[],W,L,h,hl,hi=>by simp at hl
 | v::l,pre,p::post,W,L,h,hl,hi=>by
   have h0:=h.set (j:=pre.length) hi v;have e1:((pre++p::post).toArray.setIfInBounds pre.length v)=((pre++[v])++post).toArray:=by simp
   rw [e1] at h0;have h1:=Mem.fillTo l (pre++[v]) post h0 (by simpa using hl) (AU hi);rw [Aap,List.append_assoc] at h1;have e2:(pre++[v]).length=pre.length+1:=by simp
   rw [e2] at h1;exact h1
theorem Mem.fill {g i:Nat} {t:TypeId} {W:World} {L:List Ch} {cs:Array Value} (h:Mem W L) (hi:L[i]?=some (.obj g (.cells cs t (0,0)))) (vs:List Value) (hl:cs.size=vs.length):Mem (W.setCells g 0 vs) (L.set i (.obj g (.cells vs.toArray t (0,0)))):=by
 have:=h.fillTo vs [] cs.toList (by simpa using hl) (by simpa using hi)
 simpa using this
theorem Mh {P:Program} {w:World} (t e ty:TypeId) (k:IntKind) (ht:P.underlying t=some (.slice e)) (hv:∀ w,(zeroValue e).run P w=.ok (.int k 0) w) {L:List Ch} (HM:Mem w L) (i:Nat) {base N C g lo n:Nat} {xs:List Value} (hk:L[i]?=some (.own base e 1 (Us (some ⟨g,0,none⟩) N C) N xs)) (hn:0<n) (hfit:lo+n<=N) (c:Nat) :
  ∃ w',(Builtin.clear_ #[t] ty #[Us (some ⟨g,lo,none⟩) n c]).run P w=.ok (.tuple #[]) w'/\Mem w' (L.set i (.own base e 1 (Us (some ⟨g,0,none⟩) N C) N (setL xs lo (List.replicate n (.int k 0))))):=by
 have ho:=HM.own i hk;have hx:=ho.1
 exact ⟨_,Lib.run_clear_slice w t e ty (.int k 0) ht hv rfl rfl g lo n c hn (fun j hj=>by
  rw [ho.cellAt (lo+j) (by omega),Aam (by omega)];rfl) (fun j _=>ho.frozenAt _),HM.setCells _ hk⟩
def itAt (W:World) (b o:Nat) (x:It):Prop:=W.cell? ⟨b,o,none⟩=some (U O x.kind)/\W.cell? ⟨b,o+1,none⟩=some (U O x.step)/\W.cell? ⟨b,o+2,none⟩=some (U O x.n)/\W.cell? ⟨b,o+3,none⟩=some (.bool x.a.send)/\W.cell? ⟨b,o+4,none⟩=some (.bool x.a.add)/\W.cell? ⟨b,o+5,none⟩=some (U O x.a.step)/\W.cell? ⟨b,o+6,none⟩=some (U O x.a.bucket)/\W.cell? ⟨b,o+7,none⟩=some (U O x.a.phase)/\W.cell? ⟨b,o+8,none⟩=some (U O x.a.round)/\W.cell? ⟨b,o+9,none⟩=some (U O x.a.chunk)/\W.cell? ⟨b,o+10,none⟩=some (U O x.a.lo)/\W.cell? ⟨b,o+11,none⟩=some (U O x.a.hi)
theorem Gq {W:World} {B b o k:Nat} {l:List It} {x:It} (h:Rd W B (some ⟨b,o,none⟩) (icells l)) (hx:l[k]?=some x):itAt W b (o+k*12) x:=by
 have hl:0<(icells l).length:=by
  have:=(List.getElem?_eq_some_iff.1 hx).1;unfold icells;rw [Dx It.cells 12 (fun _=>rfl)];omega
 obtain ⟨b',o',e,_,hc⟩:=h hl;injection e with e
 injection e with e1 e2
 subst e1;subst e2
 have key:∀ i u,x.cells[i]?=some u->W.cell? ⟨b,o+k*12+i,none⟩=some u:=fun i u hu=>by
  rw [Nat.add_assoc];exact hc _ _ (Ef It.cells 12 (fun _=>rfl) l k x hx i u hu)
 exact ⟨key 0 _ rfl,key 1 _ rfl,key 2 _ rfl,key 3 _ rfl,key 4 _ rfl,key 5 _ rfl,key 6 _ rfl,key 7 _ rfl,key 8 _ rfl,key 9 _ rfl,key 10 _ rfl,key 11 _ rfl⟩
def EP:List Value:=[U O 0,U O 0,U O 0,.bool false,.bool false,U O 0,U O 0,U O 0,U O 0,U O 0,U O 0,U O 0]
theorem Mi (w:World) (m:Mc) (R:List Ch) (h:Mem w (m.ps++R)) (x:It) (hx:m.its[m.next]?=some x) (hb:m.its.length<=1000000000) :
  Calls Tryz.prog 196 #[.pointer (some ⟨m.f.g,0,none⟩)] w fun e w'=>e=.returned (.tuple #[.agg x.cells.toArray,.bool true])/\Below w.heap.size w w':=by
 have hn:=(List.getElem?_eq_some_iff.1 hx).1;have hnl:¬ m.its.length<=m.next:=by omega
 have hnb:m.next<=1000000000:=by omega
 obtain ⟨b,o,hA,_,_⟩:=(h.rd 6 rfl) (by unfold icells;rw [Dx It.cells 12 (fun _=>rfl)];omega)
 have HS:=K1 (show ∀ (W:World),Below w.heap.size w W->W.cell? ⟨m.f.g,15,none⟩=some (Us (some ⟨b,o,none⟩) m.its.length m.ci)/\W.cell? ⟨m.f.g,16,none⟩=some (U O m.next)/\itAt W b (o+m.next*12) x from fun W hb=>by
  have h':=h.below hb;have hr:=h'.rd 6 rfl;rw [hA] at hr;refine ⟨?_,(Af (h'.obj 0 rfl) 16),Gq hr hx⟩
  rw [<- hA];exact Af (h'.obj 0 rfl) 15)
 dsimp only [itAt] at HS;have HM:=K1 ((Mem.start w).alloc (.cells EP.toArray 146));obtain ⟨kd,st,n,⟨asn,aa,t1,t2,t3,t4,t5,lo,hi⟩⟩:=x;dsimp only [It.cells,Ac.cells,EP] at *;simp only [Aar,Aas];generalize m.its.length=len at *;generalize m.next=nx at *;clear h hx hA;go_enter Tryz.func196,Tryz.ntmps196;go_wp2_with fail;refine A9 fun W0 hW=>?_;replace HM:=K1 (hW.out.symm ▸ HM.out);clear hW
 refine AC (.reads [0,1,2,3,4,5,6,7,8,9,10,11,12,13] .fin) 14 (fun W'=>W'.cell? ⟨m.f.g,15,none⟩=some (Us (some ⟨b,o,none⟩) len m.ci)/\W'.cell? ⟨m.f.g,16,none⟩=some (U O nx)/\W'.cell? ⟨b,o+nx*12,none⟩=some (U O kd)/\W'.cell? ⟨b,o+nx*12+1,none⟩=some (U O st)/\W'.cell? ⟨b,o+nx*12+2,none⟩=some (U O n)/\W'.cell? ⟨b,o+nx*12+3,none⟩=some (.bool asn)/\W'.cell? ⟨b,o+nx*12+4,none⟩=some (.bool aa)/\W'.cell? ⟨b,o+nx*12+5,none⟩=some (U O t1)/\W'.cell? ⟨b,o+nx*12+6,none⟩=some (U O t2)/\W'.cell? ⟨b,o+nx*12+7,none⟩=some (U O t3)/\W'.cell? ⟨b,o+nx*12+8,none⟩=some (U O t4)/\W'.cell? ⟨b,o+nx*12+9,none⟩=some (U O t5)/\W'.cell? ⟨b,o+nx*12+10,none⟩=some (U O lo)/\W'.cell? ⟨b,o+nx*12+11,none⟩=some (U O hi)) ?_
 replace HM:=K1 HM.out.drew;generalize W0.drew=V at *;refine Aai (HS.out _ (HM.out.bel 0 rfl)) ?_;refine Aal ?_;go_wp2_with fail;refine A9 fun W1 hW=>?_;replace HM:=K1 (hW.out.symm ▸ HM.out);clear hW
 refine AC (.reads [0,1,2,3,4,5,6,7,8,9] (.eff 10 (.reads [11] .fin))) 12 (fun W'=>W'.cell? ⟨m.f.g,15,none⟩=some (Us (some ⟨b,o,none⟩) len m.ci)/\W'.cell? ⟨m.f.g,16,none⟩=some (U O nx)/\W'.cell? ⟨b,o+nx*12,none⟩=some (U O kd)/\W'.cell? ⟨b,o+nx*12+1,none⟩=some (U O st)/\W'.cell? ⟨b,o+nx*12+2,none⟩=some (U O n)/\W'.cell? ⟨b,o+nx*12+3,none⟩=some (.bool asn)/\W'.cell? ⟨b,o+nx*12+4,none⟩=some (.bool aa)/\W'.cell? ⟨b,o+nx*12+5,none⟩=some (U O t1)/\W'.cell? ⟨b,o+nx*12+6,none⟩=some (U O t2)/\W'.cell? ⟨b,o+nx*12+7,none⟩=some (U O t3)/\W'.cell? ⟨b,o+nx*12+8,none⟩=some (U O t4)/\W'.cell? ⟨b,o+nx*12+9,none⟩=some (U O t5)/\W'.cell? ⟨b,o+nx*12+10,none⟩=some (U O lo)/\W'.cell? ⟨b,o+nx*12+11,none⟩=some (U O hi)) ?_
 replace HM:=K1 HM.out.drew;generalize W1.drew=V1 at *;refine Aai (HS.out _ (HM.out.bel 0 rfl)) ?_;refine Aaj ?_;have c1:=HM.out.cells 1 rfl;have f1:=fun j=>HM.out.frozen 1 j rfl
 have hf:=HM.out.fill (i:=1) rfl [U O kd,U O st,U O n,.bool asn,.bool aa,U O t1,U O t2,U O t3,U O t4,U O t5,U O lo,U O hi] rfl;simp only [Aa5,Nat.reduceAdd,Aav] at hf;have HF:=K1 hf;clear HM hf;go_wp2_with fail;refine Aak (HS.out _ (HF.out.bel 0 rfl)) ?_;clear c1 f1;refine PlS.rc_ (HS.out _ (HF.out.bel 0 rfl)) ?_;refine Aal ?_;have c1:=HF.out.cells 1 rfl;go_wp2_with fail;refine bodyPost_ret (v:=.tuple #[.agg #[U O kd,U O st,U O n,.bool asn,.bool aa,U O t1,U O t2,U O t3,U O t4,U O t5,U O lo,U O hi],.bool true]) ?_ rfl ⟨rfl,HF.out.bel 0 rfl⟩;simp [results,Tryz.results196,go_sem,c1]
theorem Mj (w:World) (m:Mc) (R:List Ch) (h:Mem w (m.ps++R)) (hx:m.its=[]) (hn:m.next=0) :
  Calls Tryz.prog 196 #[.pointer (some ⟨m.f.g,0,none⟩)] w fun e w'=>e=.returned (.tuple #[.agg EP.toArray,.bool false])/\Below w.heap.size w w':=by
 have HS:=K1 (show ∀ (W:World),Below w.heap.size w W->W.cell? ⟨m.f.g,15,none⟩=some (Us m.Ai 0 m.ci)/\W.cell? ⟨m.f.g,16,none⟩=some (U O 0) from fun W hb=>by
  have h':=h.below hb;refine ⟨?_,?_⟩
  . have:=Af (h'.obj 0 rfl) 15;rw [show m.cells.toArray.toList[15]?=some (Us m.Ai m.its.length m.ci) from rfl,hx] at this;exact this
  . have:=Af (h'.obj 0 rfl) 16;rw [show m.cells.toArray.toList[16]?=some (U O m.next) from rfl,hn] at this
    exact this)
 have HM:=K1 ((Mem.start w).alloc (.cells EP.toArray 146));dsimp only [EP] at *;clear h hx hn;go_enter Tryz.func196,Tryz.ntmps196;go_wp2_with fail;refine A9 fun W0 hW=>?_;replace HM:=K1 (hW.out.symm ▸ HM.out);clear hW;refine AC (.reads [0,1,2,3,4,5,6,7,8,9,10,11,12,13] .fin) 14 (fun W'=>W'.cell? ⟨m.f.g,15,none⟩=some (Us m.Ai 0 m.ci)/\W'.cell? ⟨m.f.g,16,none⟩=some (U O 0)) ?_;replace HM:=K1 HM.out.drew;generalize W0.drew=V at *;refine Aai (HS.out _ (HM.out.bel 0 rfl)) ?_;refine Aal ?_;have c1:=HM.out.cells 1 rfl;have f1:=fun j=>HM.out.frozen 1 j rfl
 have hf:=HM.out.fill (i:=1) rfl [U O 0,U O 0,U O 0,.bool false,.bool false,U O 0,U O 0,U O 0,U O 0,U O 0,U O 0,U O 0] rfl;simp only [Aa5,Nat.reduceAdd,Aav] at hf;have HF:=K1 hf;clear HM hf;go_wp2_with fail;clear c1 f1;have c1:=HF.out.cells 1 rfl;refine bodyPost_ret (v:=.tuple #[.agg #[U O 0,U O 0,U O 0,.bool false,.bool false,U O 0,U O 0,U O 0,U O 0,U O 0,U O 0,U O 0],.bool false]) ?_ rfl ⟨rfl,HF.out.bel 0 rfl⟩;simp [results,Tryz.results196,go_sem,c1]
def tgOf (a:Ac):Tg:=⟨a.step,a.bucket,a.phase,a.round,a.chunk⟩
theorem Mem.subOwn {W:World} {L:List Ch} {B n c g:Nat} {zs:List Int} {i x y:Nat} (h:Mem W L) (hi:L[i]?=some (vOwn B n c (some ⟨g,0,none⟩) zs)) (hxy:x<y) (hy:y<=zs.length):Rd W W.heap.size (some ⟨g,x,none⟩) (zC (subL zs x y)):=by
 have hr:=AJ (h.own i hi);have h2:=hr.sub x y (by rw [Br];exact hy);rw [if_neg (by omega),<- EJ] at h2;rw [Option.map_some,Cg,Aav] at h2;exact h2
theorem Mem.famPiece {W:World} {L:List Ch} {l:List (Option Addr × List Value)} {A:Option Addr} {vs:List Value} {i:Nat} (h:Mem W L) (hi:L[i]?=some (AD l)) (ha:(A,vs)∈l):Mem W (L++[.rd A vs]) :=
 h.more hi (fun h=>h) (h.st i hi _ ha) (fun h=>h) fun g hg=>by
  obtain ⟨h0,p,hp,rfl⟩:=hg;exact ⟨_,ha,h0,p,hp,rfl⟩
theorem Mk (w:World) (m:Mc) (l:Ln) (R:List Ch) (h:Mem w (m.ps++(l.ps++R))) (ho:m.Ok) (x:It) (ha:x.a.lo<x.a.hi/\x.a.hi<=m.f.p) (vi:Value) (code:Int) (K:Ln->Prop)
  (CS:∀ (W:World) (R':List Ch),Mem W (l.ps++R')->Rd W W.heap.size (some ⟨m.gG,x.a.lo,none⟩) (zC (subL m.G x.a.lo x.a.hi))->Calls Tryz.prog 210 #[.pointer (some ⟨l.g,0,none⟩),.agg ((tgOf x.a).cells++[Value.slice (some ⟨m.gG,x.a.lo,none⟩) (x.a.hi-x.a.lo) (m.f.p-x.a.lo)]).toArray] W fun e w'=>e=.returned (U O code)/\∃ l',K l'/\Mem w' (l'.ps++R')) :
  Calls Tryz.prog 201 #[.pointer (some ⟨m.f.g,0,none⟩),.agg x.cells.toArray,.agg #[vi,.pointer (some ⟨l.g,0,none⟩)]] w fun e w'=>e=.returned (U O code)/\∃ l',K l'/\Mem w' (m.ps++(l'.ps++R)):=by
 have hG:=ho.G.1;have hp60:=ho.f.p.2;obtain ⟨kd,st,n,⟨asn,aa,t1,t2,t3,t4,t5,lo,hi⟩⟩:=x;dsimp only [It.cells,Ac.cells,tgOf,Tg.cells] at *;simp only [Aar,Aas] at *;obtain ⟨h1,h2⟩:=ha;have hm0:=((h.alloc (.cells #[U O kd,U O st,U O n,.bool asn,.bool aa,U O t1,U O t2,U O t3,U O t4,U O t5,U O lo,U O hi] 146)).fA.alloc (.cells #[vi,.pointer (some ⟨l.g,0,none⟩)] 313)).fA;simp only [Aa6] at hm0;have hm1:=(hm0.alloc (.cells #[.bool asn,.bool aa,U O t1,U O t2,U O t3,U O t4,U O t5,U O lo,U O hi] 144)).fA;simp only [Aa6] at hm1
 have HSub:=K1 (fun (W:World) (L:List Ch) (h:Mem W L) hL=>h.subOwn (i:=1) (B:=m.BG) (n:=m.f.p) (c:=m.f.p) (g:=m.gG) hL h1 (by rw [hG];exact h2));have c14:=hm0.cells 14 rfl;have HM:=K1 hm1;have CS:=K1 CS
 obtain ⟨p,hp⟩:∃ p,p=m.f.p:=⟨_,rfl⟩
 rw [<- hp] at CS h2 hp60;have hlo1:lo<=hi:=by omega
 have hlo2:lo<=60:=by omega
 have hhi2:hi<=60:=by omega
 have hHP:=K1 hp;clear hm0 hm1 h ho hG hp;go_enter Tryz.func201,Tryz.ntmps201;go_wp2_with fail;refine A9 fun W0 hW=>?_;replace HM:=K1 (hW.out.symm ▸ HM.out);clear hW c14;refine AC (.reads [0,1,2,3,4,5,6,7,8,9,10,11,12,13,14,15] (.eff 16 (.reads [17] .fin))) 18 (fun W'=>W'.cell? ⟨m.f.g,13,none⟩=some (Us (some ⟨m.gG,0,none⟩) p p)/\W'.cell? ⟨w.heap.size+1,1,none⟩=some (.pointer (some ⟨l.g,0,none⟩))/\(∀ i,W'.cell? ⟨w.heap.size+1+1,i,none⟩=([.bool asn,.bool aa,U O t1,U O t2,U O t3,U O t4,U O t5,U O lo,U O hi]:List Value)[i]?)) ?_;replace HM:=K1 HM.out.drew;generalize W0.drew=V at *
 refine Aai (⟨by rw [hHP.out];exact Af (HM.out.obj 0 rfl) 13,HM.out.cells 15 rfl 1,HM.out.cells 16 rfl⟩) ?_;refine Aaj ?_;go_wp2_with fail;refine (CS.out _ _ HM.out.swap (HSub.out _ _ HM.out rfl)).mono ?_;rintro e w1 ⟨rfl,l',hK,hm1⟩;replace HM:=K1 hm1.swap;have HK:=K1 hK;clear hm1 hK CS;go_wp2_with fail;refine Aak (⟨by rw [hHP.out];exact Af (HM.out.obj 0 rfl) 13,HM.out.cells 15 rfl 1,HM.out.cells 16 rfl⟩) ?_;refine Aai (⟨by rw [hHP.out];exact Af (HM.out.obj 0 rfl) 13,HM.out.cells 15 rfl 1,HM.out.cells 16 rfl⟩) ?_;refine Aal ?_;go_wp2_with fail;go_ret;exact ⟨rfl,l',HK.out,HM.out.mid.mid.mid⟩
theorem Mem.cutOwn {W:World} {L:List Ch} {i base e n k c g:Nat} {xs:List Value} (h:Mem W L) (hi:L[i]?=some (.own base e 1 (Us (some ⟨g,0,none⟩) n c) n xs)) (hk:k<=n):Mem W (L.set i (.own base e 1 (Us (some ⟨g,0,none⟩) k c) k (xs.take k))):=by
 have ho:=h.own i hi;refine h.turn hi ⟨?_,(h.holds i _ hi).2⟩ (fun q hq=>hq) trivial;obtain ⟨hx,ho2⟩:=ho
 rcases ho2 with ⟨hv,_⟩ | ⟨g',cap,cur,hv,hb,hh,hnc,hml,hcs,ht⟩
 . cases hv
 . injection hv with hA _ hC
   injection hA with hA
   injection hA with hg
   subst hg;subst hC
   refine ⟨by rw [Aaz,hx];omega,.inr ⟨g,c,cur,rfl,hb,hh,by omega,hml,hcs,?_⟩⟩;rw [<- ht,List.take_take]
   congr 1
   omega
theorem Ml (w:World) (j n gi:Nat) (h:w.cell? ⟨gi,2,none⟩=some (U O n)) :
  Calls Tryz.prog 214 #[U O j,.pointer (some ⟨gi,0,none⟩)] w fun e w'=>e=.returned (.bool ((j:Int) == (n:Int)))/\w=w':=by
 go_enter Tryz.func214,Tryz.ntmps214
 go_wp2
 go_ret;exact ⟨rfl,rfl⟩
theorem R6 (w:World) (A:Option Addr) (n c gi N:Nat) (l:List Nat) (hr:Rd w w.heap.size A (Ah l)) (hl:l.length=n) (hn:n<=1000000000) (hg:w.cell? ⟨gi,2,none⟩=some (U O N)) :
  Calls Tryz.prog 136 #[Us A n c,.func (.func 214) #[] #[.pointer (some ⟨gi,0,none⟩)]] w fun e w'=>w=w'/\((e=.returned (U O (-1))/\N ∉ l)\/∃ k,e=.returned (U O (k:Nat))/\k<n/\l[k]?=some N/\∀ q,q<k->l[q]?≠some N):=by
 have CU:=K1 (fun j=>Ml w j N gi hg)
 have hA:0<n->∃ b off,A=some ⟨b,off,none⟩/\∀ j u,(Ah l)[j]?=some u->w.cell? ⟨b,off+j,none⟩=some u:=fun h0=>by
  obtain ⟨b,off,e,_,hc⟩:=hr (by rw [DV];omega);exact ⟨b,off,e,hc⟩
 have HA:=K1 hA;have HL:=K1 hl;clear hr hl hg hA;go_enter Tryz.func136,Tryz.ntmps136;go_wp2_with fail
 go_loopw [8] (fun s8 wr=>∃ k:Nat,k<=n/\s8=U O k/\Hid (w=wr)/\Hid (∀ q,q<k->l[q]?≠some N)) (fun s8 _=>n-(intOf s8).toNat)
 case atStart=>exact ⟨0,Nat.zero_le _,rfl,K1 rfl,K1 (fun q hq=>absurd hq (Nat.not_lt_zero _))⟩
 case round =>
  obtain ⟨k,hk,rfl,HW,HQ⟩:=hrel;have hw:=HW.out;subst hw;clear HW
  by_cases hlt:k<n
  . obtain ⟨b,off,rfl,hc⟩:=HA.out (by omega);obtain ⟨v,hv⟩:=Au l k (by rw [HL.out];exact hlt);have e1:=hc k (U O v) (by simp [Ah,hv]);have HV:=K1 hv;clear hc hv
    by_cases hq:v=N
    . subst hq;have hbq:((v:Int) == (v:Int))=true:=by simp
      have HB:=K1 hbq;clear hbq;go_wp2_with fail;refine (CU.out v).mono ?_;rintro e w1 ⟨rfl,rfl⟩;rw [HB.out];go_wp2_with fail;go_ret;exact ⟨rfl,.inr ⟨k,rfl,hlt,HV.out,HQ.out⟩⟩
    . have hbq:((v:Int) == (N:Int))=false:=by
       apply Bool.eq_false_iff.2;intro h;simp only [beq_iff_eq] at h;exact hq (Int.ofNat.inj h)
      have HB:=K1 hbq;have HNE:=K1 hq;clear hbq hq;go_wp2_with fail;refine (CU.out v).mono ?_;rintro e w1 ⟨rfl,rfl⟩;rw [HB.out];go_wp2_with fail;go_roundw
      case rel =>
       refine ⟨k+1,by omega,by go_num,K1 (by trivial),K1 (fun q hq=>?_)⟩
       rcases Aax q k with h1 | h1
       . exact HQ.out q h1
       . rw [show q=k by omega,HV.out];intro h;injection h with h
         exact HNE.out h
      case measure=>simp [intOf];omega
  . have hkn:k=n:=by omega
    subst hkn;go_wp2_with fail;go_ret;refine ⟨rfl,.inl ⟨rfl,fun hm=>?_⟩⟩;obtain ⟨q,hq⟩:=Aa7 hm;exact HQ.out q (by have:=(List.getElem?_eq_some_iff.1 hq).1;have:=HL.out;omega) hq
theorem R7 (w:World) (L:List Ch) (h:Mem w L) (i ib BO gi N n c:Nat) (A:Option Addr) (l:List Nat) (x:List Value) (t:TypeId) (hi:L[i]?=some (.own BO 3 1 (Us A n c) n (Ah l))) (hib:L[ib]?=some (.obj gi (.cells x.toArray t (0,0)))) (hx:x[2]?=some (U O N)) (hl:l.length=n) (hn:n<=1000000000) :
  Calls Tryz.prog 213 #[Us A n c,.func (.func 214) #[] #[.pointer (some ⟨gi,0,none⟩)]] w fun e w'=>e=.returned (Us A (l.filter fun y=>!(y == N)).length c) /\
   Mem w' (L.set i (.own BO 3 1 (Us A (l.filter fun y=>!(y == N)).length c) (l.filter fun y=>!(y == N)).length (Ah (l.filter fun y=>!(y == N))))):=by
 have hne:i≠ib:=fun e=>by rw [e,hib] at hi;cases hi
 have CI:=K1 (R6 w A n c gi N l (AJ (h.own i hi)) hl hn ((Af (h.obj ib hib) 2).trans (by simpa using hx)));have CU:=K1 (fun (W:World) (M:List Ch) (hM:Mem W M) (hm:M[ib]?=some (.obj gi (.cells x.toArray t (0,0)))) j=>Ml W j N gi ((Af (hM.obj ib hm) 2).trans (by simpa using hx)));have HM:=K1 h;have HI:=K1 hi;have HIB:=K1 (Aaq hib hne);have HL:=K1 hl;clear h hi hib hl hne hx;go_enter Tryz.func213,Tryz.ntmps213;go_wp2_with fail;refine CI.out.mono ?_;rintro e w1 ⟨rfl,⟨rfl,hno⟩ | ⟨k,rfl,hk,hkv,hkq⟩⟩
 . have hf:l.filter (fun y=>!(y == N))=l:=List.filter_eq_self.2 fun y hy=>by
    have:y≠N:=fun e=>hno (e ▸ hy)
    simp [this]
   have HFf:=K1 hf;clear hf hno;go_wp2_with fail;go_ret;rw [HFf.out,HL.out];refine ⟨rfl,?_⟩;rw [Dv HI.out];exact HM.out
 . obtain ⟨g,rfl⟩:=HM.out.ownA i HI.out (by omega)
   obtain ⟨k1,hk1⟩:∃ k1,k1=k+1:=⟨_,rfl⟩
   have hk1i:(k:Int)+1=(k1:Int):=by omega
   have hk1b:k1<=n:=by omega
   have wk1:IntKind.i64.wrap (k1:Int)=(k1:Int):=Aat _ (by omega);have hkm:((k:Int) == -1)=false:=beq_eq_false_iff_ne.2 (by omega)
   have htk:(l.take k1).filter (fun y=>!(y == N))=l.take k:=by
    rw [hk1,Aaw,hkv,Aa0,List.filter_eq_self.2 fun y hy=>by
     obtain ⟨q,hq⟩:=Aa7 hy;have hqk:=(List.getElem?_eq_some_iff.1 hq).1;rw [Aaz] at hqk;rw [Aay,if_pos (by omega)] at hq;have:y≠N:=fun e=>hkq q (by omega) (e ▸ hq)
     simp [this]]
    simp
   have HM0:=K1 (show Mem w (L.set i (.own BO 3 1 (Us (some ⟨g,0,none⟩) n c) n (Ah l))) from (Dv HI.out).symm ▸ HM.out);have HT:=K1 (Aaq htk (Aaq hk1 (Aaq hkv hk)));clear hk1 htk hkv hkq;go_wp2_with fail
   go_loopw [5,6] (fun s5 s6 wr=>∃ (i1 j:Nat) (cur:List Nat),i1<j/\j<=n/\s5=U O i1/\s6=U O j/\Hid (cur.length=n/\cur.take i1=(l.take j).filter (fun y=>!(y == N))/\∀ q,j<=q->cur[q]?=l[q]?)/\Hid (Mem wr (L.set i (.own BO 3 1 (Us (some ⟨g,0,none⟩) n c) n (Ah cur))))) (fun _ s6 _=>n-(intOf s6).toNat)
   case atStart=>exact ⟨k,k1,l,by have:=HT.out.2.1;omega,hk1b,rfl,rfl,K1 ⟨HL.out,HT.out.1.symm,fun q _=>rfl⟩,HM0⟩
   case round =>
    clear HM0 hk1i wk1 hkm hk1b;obtain ⟨i1,j,cur,hij,hjn,rfl,rfl,HC,HM1⟩:=hrel;have HO:=K1 (AU (d:=.own BO 3 1 (Us (some ⟨g,0,none⟩) n c) n (Ah cur)) HI.out)
    by_cases hlt:j<n
    . obtain ⟨v,hv⟩:=Au l j (by rw [HL.out];exact hlt);have hcv:cur[j]?=some v:=by rw [HC.out.2.2 j (Aao _),hv]
      have e1:wr.cell? ⟨g,j,none⟩=some (U O v):=((HM1.out.own i HO.out).cellAt j (by omega)).trans (by simp [Ah,hcv]);obtain ⟨u,hu⟩:=Au cur i1 (by rw [HC.out.1];omega);have e2:wr.cell? ⟨g,i1,none⟩=some (U O u):=((HM1.out.own i HO.out).cellAt i1 (by omega)).trans (by simp [Ah,hu]);have kf:=HM1.out.ownF i HO.out
      obtain ⟨j1,hj1⟩:∃ j1,j1=j+1:=⟨_,rfl⟩
      have hj1i:(j:Int)+1=(j1:Int):=by omega
      have hj1b:j1<=n:=by omega
      have wj1:IntKind.i64.wrap (j1:Int)=(j1:Int):=Aat _ (by omega)
      obtain ⟨i2,hi2⟩:∃ i2,i2=i1+1:=⟨_,rfl⟩
      have hi2i:(i1:Int)+1=(i2:Int):=by omega
      have wi2:IntKind.i64.wrap (i2:Int)=(i2:Int):=Aat _ (by omega);have CP:=K1 (CU.out wr _ HM1.out (By HIB.out.2 HIB.out.1) v)
      by_cases hq:v=N
      . have hbq:((v:Int) == (N:Int))=true:=by rw [hq];simp
        have HB:=K1 hbq
        have HX:=K1 (show (l.take j1).filter (fun y=>!(y == N))=(l.take j).filter (fun y=>!(y == N)) by
         rw [hj1,Aaw,hv,Aa0];simp [hq])
        have HJ:=K1 hj1;clear hbq hq hj1 hi2 hcv hu hv;go_wp2_with fail;refine CP.out.mono ?_;rintro e w2 ⟨rfl,rfl⟩;rw [HB.out];go_wp2_with fail;go_roundw
        case rel =>
         refine ⟨i1,j1,cur,by have:=HJ.out;omega,hj1b,rfl,rfl,K1 ⟨HC.out.1,?_,fun q hq=>HC.out.2.2 q (by have:=HJ.out;omega)⟩,HM1⟩;rw [HX.out];exact HC.out.2.1
        case measure=>simp [intOf];have:=HJ.out;omega
      . have hbq:((v:Int) == (N:Int))=false:=by
         apply Bool.eq_false_iff.2;intro h;simp only [beq_iff_eq] at h;exact hq (Int.ofNat.inj h)
        have HB:=K1 hbq
        have HX:=K1 (show (l.take j1).filter (fun y=>!(y == N))=(l.take j).filter (fun y=>!(y == N))++[v] by
         rw [hj1,Aaw,hv,Aa0];simp [hq])
        have hm2:=HM1.out.setOwn (j:=i1) HO.out (U O v);rw [Aap,show (Ah cur).set i1 (U O v)=Ah (cur.set i1 v) by simp [Ah]] at hm2;have HM2:=K1 hm2;have HJ:=K1 (Aaq hj1 hi2);clear hbq hq hj1 hi2 hcv hu hv hm2 HM1;go_wp2_with fail;refine CP.out.mono ?_;rintro e w2 ⟨rfl,rfl⟩;rw [HB.out];go_wp2_with fail;go_roundw
        case rel =>
         refine ⟨i2,j1,cur.set i1 v,by have:=HJ.out;omega,hj1b,rfl,rfl,K1 ⟨by rw [Aau];exact HC.out.1,?_,fun q hq=>?_⟩,HM2⟩
         . rw [HX.out,HJ.out.2,Aaw,Aa2 (by rw [HC.out.1];omega),List.take_set_of_le (Aao _),HC.out.2.1];rfl
         . rw [Aa1 (by have:=HJ.out;omega)];exact HC.out.2.2 q (by have:=HJ.out;omega)
        case measure=>simp [intOf];have:=HJ.out;omega
    . have hjn2:j=n:=by omega
      subst hjn2;have hF:cur.take i1=l.filter (fun y=>!(y == N)):=by rw [HC.out.2.1,List.take_of_length_le (by rw [HL.out];omega)]
      have hFl:(l.filter fun y=>!(y == N)).length=i1:=by rw [<- hF,Aaz,HC.out.1];omega
      have hd0:0<j-i1:=by omega
      have hcc:j<=c:=Be (HM1.out.own i HO.out);have hi1c:i1<=c:=by omega
      have hi1j:i1<=j:=by omega
      obtain ⟨w5,hrun,hm5⟩:=Mh (P:=Tryz.prog) 22 3 0 .i64 Tryz.underlying22 Tryz.zeroValue3 HM1.out i HO.out (lo:=i1) (n:=j-i1) hd0 (by omega) (c-i1);have hm6:=hm5.cutOwn (AU HO.out) hi1j;rw [Aap,Aap,R5 _ _ _ _ (Aao _),show (Ah cur).take i1=Ah (cur.take i1) by simp [Ah,List.map_take],hF] at hm6;have HF:=K1 hm6;have HFl:=K1 hFl;clear hm5 hm6 HM1 hF hFl;go_wp2_with fail;go_ret;rw [HFl.out];exact ⟨rfl,HF.out⟩
def Gr (bs:List (Nat × Nat)) (k s u:Nat) (t:Tg):Option (Nat × Nat):=(Bj s ((B1 (EH bs k s t.step t.bucket))[segS k u t.phase t.round]?.getD (0,0)))[t.chunk]?
theorem R8 {j:Jb} {ph r i:Nat} {xs ys:List (Nat × Nat)} {a:Ac} (h:a∈Dz j ph r xs ys i):∃ p,(xs[i]?=some p/\a=BS j true ph r i p)\/(ys[i]?=some p/\a=BS j false ph r i p):=by
 unfold Dz at h
 rcases List.mem_append.1 h with h | h
 . cases hx:xs[i]? with
   | none=>rw [hx] at h;simp at h
   | some p=>rw [hx] at h;simp at h;exact ⟨p,.inl ⟨rfl,h⟩⟩
 . cases hx:ys[i]? with
   | none=>rw [hx] at h;simp at h
   | some p=>rw [hx] at h;simp at h;exact ⟨p,.inr ⟨rfl,h⟩⟩
def F2 (bs:List (Nat × Nat)) (k s u:Nat) (x:It):Prop :=
 (x.kind=3->Gr bs k s u (tgOf x.a)=some (x.a.lo,x.a.hi))/\(x.kind=4->Gr bs k s ((u+k-1) % k) (tgOf x.a)=some (x.a.lo,x.a.hi))
theorem Ic {bs:List (Nat × Nat)} {k s u:Nat} {x:It} (h3:x.kind≠3) (h4:x.kind≠4):F2 bs k s u x:=⟨fun h=>absurd h h3,fun h=>absurd h h4⟩
theorem R9 (bs gs:List (Nat × Nat)) (k s mi t u:Nat):∀ x∈Cv bs gs k s mi t u,F2 bs k s u x:=by
 intro x hx
 rcases List.mem_append.1 hx with hx | hx
 . rcases List.mem_append.1 hx with hx | hx
   . obtain ⟨i,hi,rfl⟩:=List.mem_map.1 hx;exact Ic (by simp [B8]) (by simp [B8])
   . obtain ⟨g,hg,hx⟩:=List.mem_flatMap.1 hx
     rcases List.mem_append.1 hx with hx | hx
     . rcases List.mem_append.1 hx with hx | hx
       . obtain ⟨i,hi,rfl⟩:=List.mem_map.1 hx;exact Ic (by simp [B8]) (by simp [B8])
       . obtain ⟨q,hq,hx⟩:=List.mem_flatMap.1 hx;obtain ⟨i,hi,hx⟩:=List.mem_flatMap.1 hx;obtain ⟨a,ha,rfl⟩:=List.mem_map.1 hx;obtain ⟨i2,_,ha⟩:=List.mem_flatMap.1 ha;obtain ⟨p,⟨hp,rfl⟩ | ⟨hp,rfl⟩⟩:=R8 ha
         . exact ⟨fun _=>hp,fun h=>by simp [BJ,BS] at h⟩
         . exact ⟨fun h=>by simp [BJ,BS] at h,fun _=>hp⟩
     . obtain ⟨i,hi,rfl⟩:=List.mem_map.1 hx;exact Ic (by simp [B8]) (by simp [B8])
 . simp at hx;subst hx;exact Ic (by simp [B8]) (by simp [B8])
theorem Ie (c:Kf) (p t u:Nat):∀ x∈AS c p t u,F2 (plBs c p) c.k c.s u x:=R9 _ _ _ _ _ _ _
end
end Go.Proofs.YtdpojpcoghcieaaGreat
