/- A part of the proof of TopSerial: LinkSend, MachKit. Conditions: none. -/
import Derived.Lib.SliceRun
import Derived.Test.YtdpojpcoghcieaaGreatSdAY
set_option maxHeartbeats 8000000
namespace Go.Proofs.YtdpojpcoghcieaaGreat
open Lib renaming hid → K1
open List renaming filterMap_cons → p1, filterMap_nil → p2, getElem?_cons_zero → p3, getElem?_cons_succ → p4
open Go.RowKit
theorem set_far (x:Ms) (L:List Value) (k i:Nat) (v:Value):(x.cells++L).set ((k+1)*6+i) v=x.cells++L.set (k*6+i) v:=by
 have h:x.cells.length=6:=rfl
 rw [List.set_append_right _ _ (by omega),h,show (k+1)*6+i-6=k*6+i by omega]
theorem set_far0 (x:Ms) (L:List Value) (k:Nat) (v:Value):(x.cells++L).set ((k+1)*6) v=x.cells++L.set (k*6) v:=set_far x L k 0 v
theorem mcells_set:∀ (ms:List Ms) (k:Nat) (m:Ms),k<ms.length→mcells (ms.set k m)=((((((mcells ms).set (k*6) (.int .i64 m.t.step)).set (k*6+1) (.int .i64 m.t.bucket)).set (k*6+2) (.int .i64 m.t.phase)).set (k*6+3) (.int .i64 m.t.round)).set (k*6+4) (.int .i64 m.t.chunk)).set (k*6+5) (.slice m.A m.v.length m.c)
 | [],_,_,h=>by simp at h
 | x::r,0,m,_=>rfl
 | x::r,k+1,m,h=>by
   have ih:=mcells_set r k m (by simpa using h)
   have e1:mcells (x::r)=x.cells++mcells r:=rfl
   have e2:mcells ((x::r).set (k+1) m)=x.cells++mcells (r.set k m):=rfl
   rw [e1,e2,ih,set_far0,set_far,set_far,set_far,set_far,set_far]
theorem mcells_snoc (ms:List Ms) (m:Ms):mcells (ms++[m])=mcells ms++m.cells:=by simp [mcells]
theorem msCells_one (m:Ms):∀ u∈m.cells,u.oneCell'=true:=by
 intro u hu
 simp [Ms.cells,Tg.cells] at hu
 rcases hu with rfl | rfl | rfl | rfl | rfl | rfl <;> rfl
theorem infoMs:(Tryz.prog.info? 78).map (fun i=>(i.zero,i.size,i.bytes))=some (some (.agg #[.int .i64 0,.int .i64 0,.int .i64 0,.int .i64 0,.int .i64 0,.slice none 0 0]),6,64):=by kernel_rfl
theorem rowMs:RowT Tryz.prog 62 78 6 64:=by
 obtain ⟨i0,hi,hz0,hz1,hz2⟩:=info_parts infoMs
 exact ⟨i0,_,Tryz.underlying62,hi,hz0,hz1,hz2,rfl,by decide,by decide⟩
theorem Mem.cast {W:World} {L L':List Ch} (h:Mem W L) (e:L=L'):Mem W L':=e ▸ h
theorem fam_put {W:World} {L:List Ch} {i j cap se:Nat} {ms:List Ms} {m:Ms} (h:Mem W L) (hi:L[i]?=some (famCh (lfam ms))) (hj:L[j]?=some (.rd m.A (zC m.v))):Mem W (L.set i (famCh (lfam (putMs cap se ms m)))):=by
 have key:∀ x∈putMs cap se ms m,x∈ms∨x=m:=fun x hx=>by
  unfold putMs at hx
  split at hx
  · exact List.mem_or_eq_of_mem_set hx
  · rcases List.mem_append.1 hx with hx | hx
    · exact .inl hx
    · exact .inr (List.mem_singleton.1 hx)
 refine h.reset hi (fam_local fun a ha=>?_) (fun h=>h) ?_
 · obtain ⟨x,hx,rfl⟩:=List.mem_map.1 ha
   rcases key x hx with hx | rfl
   · exact h.st i hi _ (List.mem_map.2 ⟨x,hx,rfl⟩)
   · exact h.rd j hj
 · rintro g ⟨a,ha,h0,p,hp,rfl⟩
   obtain ⟨x,hx,rfl⟩:=List.mem_map.1 ha
   rcases key x hx with hx | rfl
   · exact ⟨i,_,hi,fun h=>h,_,List.mem_map.2 ⟨x,hx,rfl⟩,h0,p,hp,rfl⟩
   · exact ⟨j,_,hj,fun h=>h,h0,p,hp,rfl⟩
set_option maxRecDepth 100000 in
theorem send_full (w:World) (l:Ln) (R:List Ch) (h:Mem w (l.ps++R)) (ho:l.Ok) (hb:l.se≤100000000) (hroom:l.se-l.re=l.cap) (t:Tg) (Av:Option Addr) (nv cv:Nat) :
  Calls Tryz.prog 210 #[.pointer (some ⟨l.g,0,none⟩),.agg (t.cells++[Value.slice Av nv cv]).toArray] w fun e w'=>e=.returned (.int .i64 11)∧Mem w' (l.ps++R):=by
 obtain ⟨g,base,cap,A,n,c,se,re,pk,ms⟩:=l
 have hre:=ho.ok.le
 have hcap:=ho.ok.cp
 dsimp only at *
 have CL:=K1 (fun (W:World) h=>linkLen_any W g n c cap se re pk A h hre (by omega))
 rw [hroom] at CL
 obtain ⟨st,bu,ph,ro,ch⟩:=t
 dsimp only [Tg.cells] at *
 simp only [List.cons_append,List.nil_append]
 have hm0:=(h.alloc (.cells #[.int .i64 st,.int .i64 bu,.int .i64 ph,.int .i64 ro,.int .i64 ch,.slice Av nv cv] 78)).fA
 have HM:=K1 hm0
 clear hm0 h ho hb
 go_enter Tryz.func210,Tryz.ntmps210
 go_wp2_with fail
 refine name_wp fun W0 hW0=>?_
 replace HM:=K1 (hW0.out.symm ▸ HM.out)
 clear hW0
 refine wp_region_stage (.reads [0,2,3,4,5] (.eff 1 (.reads [6] .fin))) 7 (fun W'=>∀ i,W'.cell? ⟨g,i,none⟩=(linkC A n c cap se re pk)[i]?)
  (by kernel_rfl) (by kernel_rfl) (by intro d v c a w h;cases d <;> exact h) ?_
 replace HM:=K1 HM.out.drew
 generalize W0.drew=V at *
 refine PlS.reads_ (blk_cells (HM.out.obj 0 rfl)) (by kernel_rfl) ?_
 simp only [pickO,p1,p2,p3,p4]
 apply Exists.intro
 apply And.intro
 · intro W' hS
   repeat still_step
   exact wpStill_nil rfl
 refine PlS.eff_ ?_
 simp only [pickO,p1,p2,p3,p4]
 go_wp2_with fail
 refine (CL.out _ (blk_cells (HM.out.obj 0 rfl))).mono ?_
 rintro e w2 ⟨rfl,q0,rfl⟩
 replace HM:=K1 (HM.out.drewN q0)
 clear CL
 go_wp2_with fail
 refine After.go (blk_cells (HM.out.obj 0 rfl)) ?_
 refine PlS.reads_ (blk_cells (HM.out.obj 0 rfl)) (by kernel_rfl) ?_
 simp only [pickO,p1,p2,p3,p4]
 apply Exists.intro
 apply And.intro
 · intro W' hS
   repeat still_step
   exact wpStill_nil rfl
 refine PlS.fin_ ?_
 have c0:=HM.out.cells 0 rfl
 go_wp2_with fail
 go_ret
 exact ⟨rfl,HM.out.mid⟩
set_option maxRecDepth 100000 in
theorem send_any (w:World) (l:Ln) (R:List Ch) (h:Mem w (l.ps++R)) (ho:l.Ok) (hb:l.se≤100000000) (hroom:l.se-l.re<l.cap) (t:Tg) (Av:Option Addr) (nv cv:Nat) (vs:List Int) (hv:Rd w w.heap.size Av (zC vs)) (hvl:vs.length=nv) (hvb:nv≤1000) :
  Calls Tryz.prog 210 #[.pointer (some ⟨l.g,0,none⟩),.agg (t.cells++[Value.slice Av nv cv]).toArray] w fun e w'=>e=.returned (.int .i64 0)∧∃ A' c' Am cm,nv≤cm∧Mem w' (({ l with A:=A',n:=min (l.se+1) l.cap,c:=c',se:=l.se+1,pk:=max l.pk (l.se+1-l.re),ms:=putMs l.cap l.se l.ms ⟨t,Am,cm,vs⟩ }:Ln).ps++R):=by
 obtain ⟨g,base,cap,A,n,c,se,re,pk,ms⟩:=l
 have hre:=ho.ok.le
 have hcap:=ho.ok.cp
 have hlen:=ho.ok.len
 have hfew:=ho.ok.few
 have hpk:=ho.pk
 have hpl:=fun m=>ho.ok.put_len m
 dsimp only at *
 have CL:=K1 (fun (W:World) h=>linkLen_any W g n c cap se re pk A h hre (by omega))
 have CP:=K1 (fun (W:World) h=>linkPlace_any W g n c cap se re pk se A h hcap.1 (by omega))
 have CC:=K1 (fun (W:World) (hb:Below w.heap.size w W)=>copied_any Av nv cv vs W ((hv.below hb).more hb.size) hvl (by omega))
 have HB:=K1 (Below.refl w.heap.size w)
 obtain ⟨d,hd⟩:∃ d,d=se-re:=⟨_,rfl⟩
 obtain ⟨d1,hd1⟩:∃ d1,d1=se+1-re:=⟨_,rfl⟩
 obtain ⟨s1,hs1⟩:∃ s1,s1=se+1:=⟨_,rfl⟩
 rw [← hd] at CL hroom
 have hs1i:(se:Int)+1=(s1:Int):=by omega
 have hs1b:s1≤1000000000:=by omega
 have hd1b:d1≤1000000000:=by omega
 have hpkb:pk≤1048576:=by omega
 have ws1:IntKind.i64.wrap (s1:Int)=(s1:Int):=IntWalk.i64_in _ (by omega)
 have hdne:¬ d=cap:=by omega
 have hkc:se % cap<cap:=Nat.mod_lt _ hcap.1
 have hkl:se % cap≤n:=by
  rcases Nat.lt_or_ge se cap with h6 | h6
  · have:=Nat.mod_le se cap;omega
  · omega
 have CL2:=K1 (fun (W:World) (n' c':Nat) (A':Option Addr) h=>linkLen_any W g n' c' cap s1 re pk A' h (by omega) hs1b)
 rw [show s1-re=d1 by omega] at CL2
 rw [← hd1,← hs1]
 have HPL:Hid (∀ m,(putMs cap se ms m).length=min s1 cap):=K1 (fun m=>by rw [hs1];exact hpl m)
 have HLE:=K1 hlen
 have HPD:Hid (∀ m,putMs cap se ms m=if se % cap<n then ms.set (se % cap) m else ms++[m]):=K1 (fun m=>by unfold putMs;rw [hlen])
 obtain ⟨px,hpx⟩:∃ px,px=max pk d1:=⟨_,rfl⟩
 have hpxi:max (pk:Int) (d1:Int)=(px:Int):=by omega
 rw [← hpx]
 have HVL:=K1 hvl
 generalize se % cap=k at *
 obtain ⟨st,bu,ph,ro,ch⟩:=t
 dsimp only [Tg.cells] at *
 simp only [List.cons_append,List.nil_append]
 have HM:=K1 ((h.alloc (.cells #[.int .i64 st,.int .i64 bu,.int .i64 ph,.int .i64 ro,.int .i64 ch,.slice Av nv cv] 78)).fA)
 replace HB:=K1 (HB.out.alloc (Nat.le_refl _) (.cells #[.int .i64 st,.int .i64 bu,.int .i64 ph,.int .i64 ro,.int .i64 ch,.slice Av nv cv] 78))
 have hkb:k≤1048576:=by omega
 have hnb:n≤1048576:=by omega
 clear h ho hv hvl hlen hfew hpk hpl hd hd1 hs1 hb hpx hre
 go_enter Tryz.func210,Tryz.ntmps210
 go_wp2_with fail
 replace HB:=K1 HB.out.drew
 refine name_wp fun W0 hW0=>?_
 replace HM:=K1 (hW0.out.symm ▸ HM.out)
 replace HB:=K1 (show Below w.heap.size w W0.drew from hW0.out.symm ▸ HB.out)
 clear hW0
 refine wp_region_stage (.reads [0,2,3,4,5] (.eff 1 (.reads [6] .fin))) 7 (fun W'=>∀ i,W'.cell? ⟨g,i,none⟩=(linkC A n c cap se re pk)[i]?)
  (by kernel_rfl) (by kernel_rfl) (by intro d v c a w h;cases d <;> exact h) ?_
 replace HM:=K1 HM.out.drew
 generalize W0.drew=V at *
 refine PlS.reads_ (blk_cells (HM.out.obj 0 rfl)) (by kernel_rfl) ?_
 simp only [pickO,p1,p2,p3,p4]
 apply Exists.intro
 apply And.intro
 · intro W' hS
   repeat still_step
   exact wpStill_nil rfl
 refine PlS.eff_ ?_
 simp only [pickO,p1,p2,p3,p4]
 go_wp2_with fail
 refine (CL.out _ (blk_cells (HM.out.obj 0 rfl))).mono ?_
 rintro e w2 ⟨rfl,q0,rfl⟩
 replace HM:=K1 (HM.out.drewN q0)
 replace HB:=K1 (HB.out.trans (Below.mono (B:=V.heap.size) ⟨rfl,rfl,rfl,Nat.le_refl _,fun _ _=>rfl⟩ HB.out.size:Below w.heap.size V (V.drewN q0)))
 clear CL
 go_wp2_with fail
 refine After.go (blk_cells (HM.out.obj 0 rfl)) ?_
 refine PlS.reads_ (blk_cells (HM.out.obj 0 rfl)) (by kernel_rfl) ?_
 simp only [pickO,p1,p2,p3,p4]
 apply Exists.intro
 apply And.intro
 · intro W' hS
   repeat still_step
   exact wpStill_nil rfl
 refine PlS.fin_ ?_
 have c0:=HM.out.cells 0 rfl
 have c3:=HM.out.cells 3 rfl
 go_wp2_with fail
 clear c3
 refine (CC.out _ HB.out).mono ?_
 rintro e w3 ⟨Am,cm,rfl,ho,hcm,hb⟩
 have HM3:=K1 ((HM.out.push_own hb ho rfl).fA)
 clear ho hb CC HM HB
 have c3:=HM3.out.cells 3 rfl
 have f3:=fun j=>HM3.out.frozen 3 j rfl
 have HM4:=K1 (((HM3.out.set (i:=3) (j:=5) rfl (.slice Am nv cm)).fS rfl).freeze (i:=4) rfl |>.fS rfl)
 clear HM3
 have c0:=HM4.out.cells 0 rfl
 go_wp2_with fail
 refine (CP.out _ (blk_cells (HM4.out.obj 0 rfl))).mono ?_
 rintro e w4 ⟨rfl,rfl⟩
 clear c3 f3 CP
 by_cases hkn:k<n
 · obtain ⟨b,rfl⟩:=HM4.out.ownA (n:=n) 1 rfl (by omega)
   go_wp2_with fail
   refine name_wp fun W4 hW4=>?_
   replace HM4:=K1 (hW4.out.symm ▸ HM4.out)
   clear hW4 c0
   refine wp_region_stage (.reads [0,1,2,3,4,5,6] (.eff 7 .fin)) 7 (fun W'=>(∀ i,W'.cell? ⟨g,i,none⟩=(linkC (some ⟨b,0,none⟩) n c cap se re pk)[i]?)∧(∀ i,W'.cell? ⟨w.heap.size,i,none⟩=([.int .i64 st,.int .i64 bu,.int .i64 ph,.int .i64 ro,.int .i64 ch,.slice Am nv cm]:List Value)[i]?))
    (by kernel_rfl) (by kernel_rfl) (by intro d v c a w h;cases d <;> exact h) ?_
   replace HM4:=K1 HM4.out.drew
   generalize W4.drew=V4 at *
   refine PlS.reads_ ⟨blk_cells (HM4.out.obj 0 rfl),HM4.out.cells 3 rfl⟩ (by kernel_rfl) ?_
   simp only [pickO,p1,p2,p3,p4]
   apply Exists.intro
   apply And.intro
   · intro W' hS
     obtain ⟨q1,q2⟩:=hS
     repeat still_step
     exact wpStill_nil rfl
   refine PlS.eff_ ?_
   simp only [pickO,p1,p2,p3,p4]
   have ho1:V4.ownsRow base 78 6 (.slice (some ⟨b,0,none⟩) n c) n (mcells ms):=HM4.out.own 1 rfl
   have hl6:(mcells ms).length=n*6:=by rw [mcells_len,HLE.out]
   obtain ⟨u0,k0⟩:∃ u,V4.cell? ⟨b,k*6,none⟩=some u:=⟨_,(ho1.cellAt (k*6+0) (by omega)).trans (List.getElem?_eq_getElem (by omega))⟩
   obtain ⟨u1,k1⟩:∃ u,V4.cell? ⟨b,k*6+1,none⟩=some u:=⟨_,(ho1.cellAt (k*6+1) (by omega)).trans (List.getElem?_eq_getElem (by omega))⟩
   obtain ⟨u2,k2⟩:∃ u,V4.cell? ⟨b,k*6+2,none⟩=some u:=⟨_,(ho1.cellAt (k*6+2) (by omega)).trans (List.getElem?_eq_getElem (by omega))⟩
   obtain ⟨u3,k3⟩:∃ u,V4.cell? ⟨b,k*6+3,none⟩=some u:=⟨_,(ho1.cellAt (k*6+3) (by omega)).trans (List.getElem?_eq_getElem (by omega))⟩
   obtain ⟨u4,k4⟩:∃ u,V4.cell? ⟨b,k*6+4,none⟩=some u:=⟨_,(ho1.cellAt (k*6+4) (by omega)).trans (List.getElem?_eq_getElem (by omega))⟩
   obtain ⟨u5,k5⟩:∃ u,V4.cell? ⟨b,k*6+5,none⟩=some u:=⟨_,(ho1.cellAt (k*6+5) (by omega)).trans (List.getElem?_eq_getElem (by omega))⟩
   have kf:=HM4.out.ownF 1 rfl
   have hm5:=HM4.out.setOwn6 (i:=1) (k:=k*6) rfl (.int .i64 st) (.int .i64 bu) (.int .i64 ph) (.int .i64 ro) (.int .i64 ch) (.slice Am nv cm)
   have hset:=mcells_set ms k ⟨⟨st,bu,ph,ro,ch⟩,Am,cm,vs⟩ (by rw [HLE.out];exact hkn)
   dsimp only at hset
   rw [HVL.out] at hset
   have hm6:=Mem.cast hm5 (show _=([linkB g (some ⟨b,0,none⟩) n c cap se re pk,.own base 78 6 (.slice (some ⟨b,0,none⟩) n c) n (mcells (ms.set k ⟨⟨st,bu,ph,ro,ch⟩,Am,cm,vs⟩)),famCh (lfam ms),.obj w.heap.size (.cells #[.int .i64 st,.int .i64 bu,.int .i64 ph,.int .i64 ro,.int .i64 ch,.slice Am nv cm] 78 (0,0)),.rd Am (zC vs)]++R) by rw [hset];rfl)
   have HM5:=K1 ((fam_put (i:=2) (j:=4) (cap:=cap) (se:=se) (m:=⟨⟨st,bu,ph,ro,ch⟩,Am,cm,vs⟩) hm6 rfl rfl).fS rfl)
   clear hm5 hm6 hset HM4 ho1 hl6
   go_wp2_with fail
   refine After.last (by decide) (PlS.fin_ ?_)
   clear k0 k1 k2 k3 k4 k5 kf
   go_wp2_with fail
   refine name_wp fun W5 hW5=>?_
   replace HM5:=K1 (hW5.out.symm ▸ HM5.out)
   clear hW5
   refine wp_region_stage (.reads [0,1,2,3,4,5] (.eff 6 (.eff 7 (.reads [8] (.eff 9 (.fin)))))) 9 (fun W'=>∀ i,W'.cell? ⟨g,i,none⟩=(linkC (some ⟨b,0,none⟩) n c cap se re pk)[i]?)
    (by kernel_rfl) (by kernel_rfl) (by intro d v c a w h;cases d <;> exact h) ?_
   replace HM5:=K1 HM5.out.drew
   generalize W5.drew=V5 at *
   refine PlS.reads_ (blk_cells (HM5.out.obj 0 rfl)) (by kernel_rfl) ?_
   simp only [pickO,p1,p2,p3,p4]
   apply Exists.intro
   apply And.intro
   · intro W' hS
     repeat still_step
     exact wpStill_nil rfl
   refine PlS.eff_ ?_
   simp only [pickO,p1,p2,p3,p4]
   go_wp2_with fail
   refine After.go (blk_cells (HM5.out.obj 0 rfl)) (PlS.eff_ ?_)
   simp only [pickO,p1,p2,p3,p4]
   go_wp2_with fail
   refine After.go (blk_cells (HM5.out.obj 0 rfl)) ?_
   refine PlS.reads_ (blk_cells (HM5.out.obj 0 rfl)) (by kernel_rfl) ?_
   simp only [pickO,p1,p2,p3,p4]
   apply Exists.intro
   apply And.intro
   · intro W' hS
     repeat still_step
     exact wpStill_nil rfl
   refine PlS.eff_ ?_
   simp only [pickO,p1,p2,p3,p4]
   have c0:=HM5.out.cells 0 rfl
   have f0:=fun j=>HM5.out.frozen 0 j rfl
   have HM6:=K1 ((HM5.out.set (i:=0) (j:=2) rfl (.int .i64 s1)).fS rfl)
   clear HM5
   go_wp2_with fail
   refine After.last (by decide) (PlS.fin_ ?_)
   clear c0 f0
   go_wp2_with fail
   refine name_wp fun W6 hW6=>?_
   replace HM6:=K1 (hW6.out.symm ▸ HM6.out)
   clear hW6
   refine wp_region_stage (.reads [0,1,2,3,4,5] (.eff 6 (.reads [7] (.eff 8 (.reads [9] (.eff 10 .fin)))))) 10 (fun W'=>∀ i,W'.cell? ⟨g,i,none⟩=(linkC (some ⟨b,0,none⟩) n c cap s1 re pk)[i]?)
    (by kernel_rfl) (by kernel_rfl) (by intro d v c a w h;cases d <;> exact h) ?_
   replace HM6:=K1 HM6.out.drew
   generalize W6.drew=V6 at *
   refine PlS.reads_ (blk_cells (HM6.out.obj 0 rfl)) (by kernel_rfl) ?_
   simp only [pickO,p1,p2,p3,p4]
   apply Exists.intro
   apply And.intro
   · intro W' hS
     repeat still_step
     exact wpStill_nil rfl
   refine PlS.eff_ ?_
   simp only [pickO,p1,p2,p3,p4]
   go_wp2_with fail
   refine (CL2.out _ _ _ _ (blk_cells (HM6.out.obj 0 rfl))).mono ?_
   rintro e w7 ⟨rfl,q1,rfl⟩
   replace HM6:=K1 (HM6.out.drewN q1)
   clear CL2
   go_wp2_with fail
   refine After.go (blk_cells (HM6.out.obj 0 rfl)) ?_
   refine PlS.reads_ (blk_cells (HM6.out.obj 0 rfl)) (by kernel_rfl) ?_
   simp only [pickO,p1,p2,p3,p4]
   apply Exists.intro
   apply And.intro
   · intro W' hS
     repeat still_step
     exact wpStill_nil rfl
   refine PlS.eff_ ?_
   simp only [pickO,p1,p2,p3,p4]
   go_wp2_with fail
   refine After.go (blk_cells (HM6.out.obj 0 rfl)) ?_
   refine PlS.reads_ (blk_cells (HM6.out.obj 0 rfl)) (by kernel_rfl) ?_
   simp only [pickO,p1,p2,p3,p4]
   apply Exists.intro
   apply And.intro
   · intro W' hS
     repeat still_step
     exact wpStill_nil rfl
   refine PlS.eff_ ?_
   simp only [pickO,p1,p2,p3,p4]
   have c0:=HM6.out.cells 0 rfl
   have f0:=fun j=>HM6.out.frozen 0 j rfl
   have HF:=K1 ((HM6.out.set (i:=0) (j:=4) rfl (.int .i64 px)).fS rfl)
   clear HM6
   go_wp2_with fail
   refine After.last (by decide) (PlS.fin_ ?_)
   go_wp2_with fail
   go_ret
   refine ⟨rfl,(some ⟨b,0,none⟩),c,Am,cm,hcm,?_⟩
   have hmid:=HF.out.mid (X:=[_,_,_]) (Y:=[_,_])
   rw [← HPL.out ⟨⟨st,bu,ph,ro,ch⟩,Am,cm,vs⟩,HPD.out]
   rw [if_pos hkn,List.length_set,HLE.out]
   rw [HPD.out,if_pos hkn] at hmid
   exact hmid
 · have hkn2:k=n:=by omega
   subst hkn2
   go_wp2_with fail
   refine name_wp fun W4 hW4=>?_
   replace HM4:=K1 (hW4.out.symm ▸ HM4.out)
   clear hW4 c0
   have HS:=K1 (show ∀ (W:World) (M:List Ch),Mem W M→M[0]?=some (linkB g A k c cap se re pk)→M[3]?=some (.obj w.heap.size (.cells #[.int .i64 st,.int .i64 bu,.int .i64 ph,.int .i64 ro,.int .i64 ch,.slice Am nv cm] 78 (0,0)))→(∀ i,W.cell? ⟨g,i,none⟩=(linkC A k c cap se re pk)[i]?)∧(∀ i,W.cell? ⟨w.heap.size,i,none⟩=([.int .i64 st,.int .i64 bu,.int .i64 ph,.int .i64 ro,.int .i64 ch,.slice Am nv cm]:List Value)[i]?) from fun W M h h1 h2=>⟨blk_cells (h.obj 0 h1),blk_cells (h.obj 3 h2)⟩)
   refine wp_region_stage (.reads [0,1,2,3,4,5] (.eff 6 (.eff 7 (.eff 8 (.reads [9] (.eff 10 .fin)))))) 10 (fun W'=>(∀ i,W'.cell? ⟨g,i,none⟩=(linkC A k c cap se re pk)[i]?)∧(∀ i,W'.cell? ⟨w.heap.size,i,none⟩=([.int .i64 st,.int .i64 bu,.int .i64 ph,.int .i64 ro,.int .i64 ch,.slice Am nv cm]:List Value)[i]?))
    (by kernel_rfl) (by kernel_rfl) (by intro d v c a w h;cases d <;> exact h) ?_
   replace HM4:=K1 HM4.out.drew
   generalize W4.drew=V4 at *
   refine PlS.reads_ (HS.out _ _ HM4.out rfl rfl) (by kernel_rfl) ?_
   simp only [pickO,p1,p2,p3,p4]
   apply Exists.intro
   apply And.intro
   · intro W' hS
     obtain ⟨q1,q2⟩:=hS
     repeat still_step
     exact wpStill_nil rfl
   refine PlS.eff_ ?_
   simp only [pickO,p1,p2,p3,p4]
   have hm5:=(HM4.out.alloc (.cells #[.int .i64 st,.int .i64 bu,.int .i64 ph,.int .i64 ro,.int .i64 ch,.slice Am nv cm] 78)).fA
   replace HM4:=K1 hm5
   clear hm5
   go_wp2_with fail
   refine After.go (HS.out _ _ HM4.out rfl rfl) ?_
   refine PlS.eff_ ?_
   simp only [pickO,p1,p2,p3,p4]
   refine wpList_append_mem (n:=k) rfl _ _ 62 rfl HM4.out 1 rowMs rfl rfl _ 1 _ (Ms.cells ⟨⟨st,bu,ph,ro,ch⟩,Am,cm,vs⟩) rfl (by have:=HM4.out.box 5 rfl;simpa [Ms.cells,Tg.cells,HVL.out] using this) rfl (msCells_one _) (by omega) ?_
   intro A' c' W5 hm5
   replace hm5:=hm5.fS rfl
   rw [← mcells_snoc] at hm5
   have HM5:=K1 ((fam_put (i:=2) (j:=4) (cap:=cap) (se:=se) (m:=⟨⟨st,bu,ph,ro,ch⟩,Am,cm,vs⟩) hm5 rfl rfl).fS rfl)
   clear hm5 HM4
   go_wp2_with fail
   refine After.go (HS.out _ _ HM5.out rfl rfl) (PlS.eff_ ?_)
   simp only [pickO,p1,p2,p3,p4]
   go_wp2_with fail
   refine After.go (HS.out _ _ HM5.out rfl rfl) ?_
   refine PlS.reads_ (HS.out _ _ HM5.out rfl rfl) (by kernel_rfl) ?_
   simp only [pickO,p1,p2,p3,p4]
   apply Exists.intro
   apply And.intro
   · intro W' hS
     obtain ⟨q1,q2⟩:=hS
     repeat still_step
     exact wpStill_nil rfl
   refine PlS.eff_ ?_
   simp only [pickO,p1,p2,p3,p4]
   have c0:=HM5.out.cells 0 rfl
   have f0:=fun j=>HM5.out.frozen 0 j rfl
   replace HM5:=K1 ((HM5.out.set (i:=0) (j:=0) rfl (.slice A' (k+1) c')).fS rfl)
   go_wp2_with fail
   refine After.last (by decide) (PlS.fin_ ?_)
   clear c0 f0
   go_wp2_with fail
   refine name_wp fun W5 hW5=>?_
   replace HM5:=K1 (hW5.out.symm ▸ HM5.out)
   clear hW5
   obtain ⟨k1,hk1⟩:∃ k1,k1=k+1:=⟨_,rfl⟩
   rw [← hk1] at HM5
   refine wp_region_stage (.reads [0,1,2,3,4,5] (.eff 6 (.eff 7 (.reads [8] (.eff 9 (.fin)))))) 9 (fun W'=>∀ i,W'.cell? ⟨g,i,none⟩=(linkC A' k1 c' cap se re pk)[i]?)
    (by kernel_rfl) (by kernel_rfl) (by intro d v c a w h;cases d <;> exact h) ?_
   replace HM5:=K1 HM5.out.drew
   generalize W5.drew=V5 at *
   refine PlS.reads_ (blk_cells (HM5.out.obj 0 rfl)) (by kernel_rfl) ?_
   simp only [pickO,p1,p2,p3,p4]
   apply Exists.intro
   apply And.intro
   · intro W' hS
     repeat still_step
     exact wpStill_nil rfl
   refine PlS.eff_ ?_
   simp only [pickO,p1,p2,p3,p4]
   go_wp2_with fail
   refine After.go (blk_cells (HM5.out.obj 0 rfl)) (PlS.eff_ ?_)
   simp only [pickO,p1,p2,p3,p4]
   go_wp2_with fail
   refine After.go (blk_cells (HM5.out.obj 0 rfl)) ?_
   refine PlS.reads_ (blk_cells (HM5.out.obj 0 rfl)) (by kernel_rfl) ?_
   simp only [pickO,p1,p2,p3,p4]
   apply Exists.intro
   apply And.intro
   · intro W' hS
     repeat still_step
     exact wpStill_nil rfl
   refine PlS.eff_ ?_
   simp only [pickO,p1,p2,p3,p4]
   have c0:=HM5.out.cells 0 rfl
   have f0:=fun j=>HM5.out.frozen 0 j rfl
   have HM6:=K1 ((HM5.out.set (i:=0) (j:=2) rfl (.int .i64 s1)).fS rfl)
   clear HM5
   go_wp2_with fail
   refine After.last (by decide) (PlS.fin_ ?_)
   clear c0 f0
   go_wp2_with fail
   refine name_wp fun W6 hW6=>?_
   replace HM6:=K1 (hW6.out.symm ▸ HM6.out)
   clear hW6
   refine wp_region_stage (.reads [0,1,2,3,4,5] (.eff 6 (.reads [7] (.eff 8 (.reads [9] (.eff 10 .fin)))))) 10 (fun W'=>∀ i,W'.cell? ⟨g,i,none⟩=(linkC A' k1 c' cap s1 re pk)[i]?)
    (by kernel_rfl) (by kernel_rfl) (by intro d v c a w h;cases d <;> exact h) ?_
   replace HM6:=K1 HM6.out.drew
   generalize W6.drew=V6 at *
   refine PlS.reads_ (blk_cells (HM6.out.obj 0 rfl)) (by kernel_rfl) ?_
   simp only [pickO,p1,p2,p3,p4]
   apply Exists.intro
   apply And.intro
   · intro W' hS
     repeat still_step
     exact wpStill_nil rfl
   refine PlS.eff_ ?_
   simp only [pickO,p1,p2,p3,p4]
   go_wp2_with fail
   refine (CL2.out _ _ _ _ (blk_cells (HM6.out.obj 0 rfl))).mono ?_
   rintro e w7 ⟨rfl,q1,rfl⟩
   replace HM6:=K1 (HM6.out.drewN q1)
   clear CL2
   go_wp2_with fail
   refine After.go (blk_cells (HM6.out.obj 0 rfl)) ?_
   refine PlS.reads_ (blk_cells (HM6.out.obj 0 rfl)) (by kernel_rfl) ?_
   simp only [pickO,p1,p2,p3,p4]
   apply Exists.intro
   apply And.intro
   · intro W' hS
     repeat still_step
     exact wpStill_nil rfl
   refine PlS.eff_ ?_
   simp only [pickO,p1,p2,p3,p4]
   go_wp2_with fail
   refine After.go (blk_cells (HM6.out.obj 0 rfl)) ?_
   refine PlS.reads_ (blk_cells (HM6.out.obj 0 rfl)) (by kernel_rfl) ?_
   simp only [pickO,p1,p2,p3,p4]
   apply Exists.intro
   apply And.intro
   · intro W' hS
     repeat still_step
     exact wpStill_nil rfl
   refine PlS.eff_ ?_
   simp only [pickO,p1,p2,p3,p4]
   have c0:=HM6.out.cells 0 rfl
   have f0:=fun j=>HM6.out.frozen 0 j rfl
   have HF:=K1 ((HM6.out.set (i:=0) (j:=4) rfl (.int .i64 px)).fS rfl)
   clear HM6
   go_wp2_with fail
   refine After.last (by decide) (PlS.fin_ ?_)
   go_wp2_with fail
   go_ret
   refine ⟨rfl,A',c',Am,cm,hcm,?_⟩
   have hmid:=HF.out.mid (X:=[_,_,_]) (Y:=[_,_,_])
   rw [← HPL.out ⟨⟨st,bu,ph,ro,ch⟩,Am,cm,vs⟩,HPD.out]
   rw [if_neg hkn,List.length_append,HLE.out,List.length_singleton,← hk1]
   rw [HPD.out,if_neg hkn] at hmid
   exact hmid
theorem Mem.inW {W W':World} {L:List Ch} (h:Mem W L) (e:W'=W):Mem W' L:=e ▸ h
def setL:List Value→Nat→List Value→List Value
 | xs,_,[]=>xs
 | xs,o,v::l=>setL (xs.set o v) (o+1) l
theorem setL_len:∀ (xs:List Value) (o:Nat) (vs:List Value),(setL xs o vs).length=xs.length
 | xs,o,[]=>rfl
 | xs,o,v::l=>by rw [setL,setL_len,List.length_set]
theorem setL_lt:∀ (xs:List Value) (o:Nat) (vs:List Value) (j:Nat),j<o→(setL xs o vs)[j]?=xs[j]?
 | xs,o,[],j,_=>rfl
 | xs,o,v::l,j,h=>by rw [setL,setL_lt _ _ _ _ (by omega),List.getElem?_set_ne (by omega)]
theorem setL_in:∀ (xs:List Value) (o:Nat) (vs:List Value) (j:Nat),j<vs.length→o+j<xs.length→(setL xs o vs)[o+j]?=vs[j]?
 | xs,o,[],j,h,_=>by simp at h
 | xs,o,v::l,0,_,h=>by rw [setL,setL_lt _ _ _ _ (by omega),Nat.add_zero,List.getElem?_set_self (by omega)];rfl
 | xs,o,v::l,j+1,h,h2=>by
   rw [setL,show o+(j+1)=o+1+j by omega,setL_in _ _ _ j (by simpa using h) (by rw [List.length_set];omega)]
   simp
theorem setL_all (xs vs:List Value) (h:vs.length=xs.length):setL xs 0 vs=vs:=by
 apply List.ext_getElem?
 intro j
 rcases Nat.lt_or_ge j vs.length with h1 | h1
 · have:=setL_in xs 0 vs j h1 (by omega)
   rwa [Nat.zero_add] at this
 · rw [List.getElem?_eq_none (by rw [setL_len];omega),List.getElem?_eq_none h1]
theorem setL_take (xs:List Value) (o n:Nat) (vs:List Value) (h:n≤o):(setL xs o vs).take n=xs.take n:=by
 apply List.ext_getElem?
 intro j
 rw [List.getElem?_take,List.getElem?_take]
 split
 · exact setL_lt _ _ _ _ (by omega)
 · rfl
theorem Mem.setCells {g i base e size n cap:Nat}:∀ (vs:List Value) {W:World} {L:List Ch} {o:Nat} {xs:List Value},Mem W L→L[i]?=some (.own base e size (.slice (some ⟨g,0,none⟩) n cap) n xs) →
  Mem (W.setCells g o vs) (L.set i (.own base e size (.slice (some ⟨g,0,none⟩) n cap) n (setL xs o vs)))
 | [],W,L,o,xs,h,hi=>by rw [setL,set_same hi];exact h
 | v::l,W,L,o,xs,h,hi=>by
   have h1:=Mem.setCells l (o:=o+1) (h.setOwn (j:=o) hi v) (at_set hi)
   rw [List.set_set] at h1
   exact h1
theorem Mem.fillTo {g i:Nat} {t:TypeId}:∀ (vs pre post:List Value) {W:World} {L:List Ch},Mem W L→post.length=vs.length→L[i]?=some (.obj g (.cells (pre++post).toArray t (0,0)))→Mem (W.setCells g pre.length vs) (L.set i (.obj g (.cells (pre++vs).toArray t (0,0))))
 | [],pre,post,W,L,h,hl,hi=>by
   have:post=[]:=List.eq_nil_of_length_eq_zero hl
   subst this
   rw [set_same hi];exact h
 | v::l,pre,[],W,L,h,hl,hi=>by simp at hl
 | v::l,pre,p::post,W,L,h,hl,hi=>by
   have h0:=h.set (j:=pre.length) hi v
   have e1:((pre++p::post).toArray.setIfInBounds pre.length v)=((pre++[v])++post).toArray:=by simp
   rw [e1] at h0
   have h1:=Mem.fillTo l (pre++[v]) post h0 (by simpa using hl) (at_set hi)
   rw [List.set_set,List.append_assoc] at h1
   have e2:(pre++[v]).length=pre.length+1:=by simp
   rw [e2] at h1
   exact h1
theorem Mem.fill {g i:Nat} {t:TypeId} {W:World} {L:List Ch} {cs:Array Value} (h:Mem W L) (hi:L[i]?=some (.obj g (.cells cs t (0,0)))) (vs:List Value) (hl:cs.size=vs.length):Mem (W.setCells g 0 vs) (L.set i (.obj g (.cells vs.toArray t (0,0)))):=by
 have:=h.fillTo vs [] cs.toList (by simpa using hl) (by simpa using hi)
 simpa using this
theorem run_clear_mem {P:Program} {w:World} (t e ty:TypeId) (k:IntKind) (ht:P.underlying t=some (.slice e)) (hv:∀ w,(zeroValue e).run P w=.ok (.int k 0) w) {L:List Ch} (HM:Mem w L) (i:Nat) {base N C g lo n:Nat} {xs:List Value} (hk:L[i]?=some (.own base e 1 (.slice (some ⟨g,0,none⟩) N C) N xs)) (hn:0<n) (hfit:lo+n≤N) (c:Nat) :
  ∃ w',(Builtin.clear_ #[t] ty #[.slice (some ⟨g,lo,none⟩) n c]).run P w=.ok (.tuple #[]) w'∧Mem w' (L.set i (.own base e 1 (.slice (some ⟨g,0,none⟩) N C) N (setL xs lo (List.replicate n (.int k 0))))):=by
 have ho:=HM.own i hk
 have hx:=ho.1
 exact ⟨_,Lib.run_clear_slice w t e ty (.int k 0) ht hv rfl rfl g lo n c hn (fun j hj=>by
  rw [ho.cellAt (lo+j) (by omega),List.getElem?_eq_getElem (by omega)];rfl) (fun j _=>ho.frozenAt _),HM.setCells _ hk⟩
end Go.Proofs.YtdpojpcoghcieaaGreat
