/- A part of the proof of TopSerial: NetAt, SgdUpd, SgdApply, DataCopied, Ex. Conditions: none. -/
import Derived.Test.YtdpojpcoghcieaaGreatSdAW
set_option maxHeartbeats 8000000
namespace Go.Proofs.YtdpojpcoghcieaaGreat
open Lib renaming hid → K1
open List renaming filterMap_cons → p1, filterMap_nil → p2, getElem?_cons_zero → p3, getElem?_cons_succ → p4
open Go.RowKit
theorem Mem.moved {W1 W2:World} {L:List Ch} (h:Mem W1 L) (hs:W1.heap.size≤W2.heap.size) (hk:∀ c∈L,∀ g,c.fp g→W2.heap[g]?=W1.heap[g]?) (hb:∀ c∈L,∀ B w0,c≠.bel B w0):Mem W2 L:=by
 have h2:Mem { W2 with os:=W1.os,tape:=W1.tape,output:=W1.output } L:=by
  refine h.keep (E:=fun g=>¬ ∃ c∈L,c.fp g) ⟨rfl,rfl,rfl,hs,fun g _ hg=>?_⟩ (fun i c hi g hg hn=>hn ⟨c,List.mem_of_getElem? hi,hg⟩)
  obtain ⟨c,hc,hcg⟩:=Classical.not_not.1 hg
  exact hk c hc g hcg
 refine ⟨fun i c hi=>?_,h2.sep⟩
 have h3:=h2.holds i c hi
 cases c with
 | bel B w0=>exact absurd rfl (hb _ (List.mem_of_getElem? hi) B w0)
 | obj g o=>exact h3
 | rd A vs=>exact h3
 | own base e size v n xs=>exact h3
 | st F P=>exact ⟨h3.keep { W2 with os:=W1.os,tape:=W1.tape,output:=W1.output } W2 (Nat.le_refl _) (fun _ _=>rfl) h3.now,h3.lt,h3.keep⟩
def netR (gn gs q P cp k cl:Nat) (ns:List Nat) (Ap As Al:Option Addr) (ps:List Int) (ms:List Lk):List Ch :=
 [.rd Ap (zC ps),.rd As (iCells ns),netB gn gs q Ap P cp Al k cl,.own 0 337 4 (.slice Al k cl) k (lkCells ns Ap cp ms),famCh (lkFam ns ps ms)]
structure NetAt (W:World) (lo hi flo fhi gn gs q:Nat) (ns:List Nat) (ps:List Int):Prop where
 ex:∃ P cp cl Ap As Al ms,Mem W (netR gn gs q P cp (ns.length-1) cl ns Ap As Al ps ms)∧(ms.map Lk.k=List.range (ns.length-1)∧∀ m∈ms,midN ns m.k-offN ns m.k≤m.c)∧ps.length=P∧P=offN ns (ns.length-1)∧P≤cp ∧
  ∀ c∈netR gn gs q P cp (ns.length-1) cl ns Ap As Al ps ms,∀ g,c.fp g→lo≤g∧g<hi
 form:FormAt W flo fhi gs ns
 lt:hi≤W.heap.size∧fhi≤W.heap.size
 ok:NsOk ns
 ps:In64 ps
 q:q≤62
theorem netR_bel {gn gs q P cp k cl:Nat} {ns:List Nat} {Ap As Al:Option Addr} {ps:List Int} {ms:List Lk}:∀ c∈netR gn gs q P cp k cl ns Ap As Al ps ms,∀ B w0,c≠.bel B w0:=by
 intro c hc B w0 e
 subst e
 simp [netR,netB,famCh] at hc
theorem NetAt.in_ {W:World} {lo hi flo fhi gn gs q:Nat} {ns:List Nat} {ps:List Int} (h:NetAt W lo hi flo fhi gn gs q ns ps):NetIn W gn gs q ns ps:=by
 obtain ⟨⟨P,cp,cl,Ap,As,Al,ms,hM,h1,h2,h3,h4,_⟩,hF,hlt,h5,h6,h7⟩:=h
 exact ⟨⟨W,0,P,cp,cl,Ap,As,Al,ms,Mem.cons_iff.2 ⟨⟨Below.refl 0 W,Nat.zero_le _⟩,hM,fun d _ _ g hg=>absurd hg (Nat.not_lt_zero _)⟩,h1,h2,h3,h4⟩,⟨flo,fhi,hF,hlt.2⟩,h5,h6,h7⟩
def netCh (lo hi flo fhi gn gs q:Nat) (ns:List Nat) (ps:List Int):Ch:=.st (fun g=>(lo≤g∧g<hi)∨(flo≤g∧g<fhi)) (fun W=>NetAt W lo hi flo fhi gn gs q ns ps)
theorem netCh_holds {W:World} {lo hi flo fhi gn gs q:Nat} {ns:List Nat} {ps:List Int} (h:NetAt W lo hi flo fhi gn gs q ns ps):(netCh lo hi flo fhi gn gs q ns ps).Holds W:=by
 refine ⟨h,fun g hg=>?_,fun W1 W2 hs hk h1=>?_⟩
 · have:=h.lt
   omega
 · obtain ⟨⟨P,cp,cl,Ap,As,Al,ms,hM,k1,k2,k3,k4,k5⟩,hF,hlt,h5,h6,h7⟩:=h1
   exact ⟨⟨P,cp,cl,Ap,As,Al,ms,hM.moved hs (fun c hc g hg=>hk g (.inl (k5 c hc g hg))) netR_bel,k1,k2,k3,k4,k5⟩,hF.keep (fun g g1 g2=>hk g (.inr ⟨g1,g2⟩)),⟨Nat.le_trans hlt.1 hs,Nat.le_trans hlt.2 hs⟩,h5,h6,h7⟩
theorem netAt_new {w W:World} {flo fhi gs q P gn cp cl:Nat} {ns:List Nat} {Ap As Al:Option Addr} {ps:List Int} {ms:List Lk} (hF:FormAt w flo fhi gs ns) (hh:fhi≤w.heap.size) (hn:NsOk ns) (hp:ps.length=P) (hP:P=offN ns (ns.length-1)) (h64:In64 ps) (hq:q≤62)
  (h1:P≤cp) (h2:ms.map Lk.k=List.range (ns.length-1)) (h3:∀ m∈ms,midN ns m.k-offN ns m.k≤m.c) (hg:w.heap.size≤gn) (hA:(∀ p:Addr,Ap=some p→w.heap.size≤p.block)∧(∀ p:Addr,As=some p→w.heap.size≤p.block)∧∀ m∈ms,∀ p:Addr,m.A=some p→w.heap.size≤p.block)
  (hM:Mem W (netP w w.heap.size gn gs q P cp (ns.length-1) cl ns Ap As Al ps ms)):NetAt W w.heap.size W.heap.size flo fhi gn gs q ns ps:=by
 have hb:=hM.bel 0 rfl
 have hM':Mem W (netR gn gs q P cp (ns.length-1) cl ns Ap As Al ps ms):=(hM.lower (i:=4) rfl (Nat.zero_le _)).pick [1,2,3,4,5] _ rfl (by decide)
 refine ⟨⟨P,cp,cl,Ap,As,Al,ms,hM',⟨h2,h3⟩,hp,hP,h1,fun c hc g hgc=>?_⟩,hF.below hh hb,⟨Nat.le_refl _,Nat.le_trans hh hb.size⟩,hn,h64,hq⟩
 obtain ⟨i,hi⟩:=List.getElem?_of_mem hc
 refine ⟨?_,Ch.lt (hM'.holds i c hi) hgc⟩
 simp only [netR,List.mem_cons,List.not_mem_nil,or_false] at hc
 rcases hc with rfl | rfl | rfl | rfl | rfl
 · obtain ⟨_,p,hp,rfl⟩:=hgc
   exact hA.1 p hp
 · obtain ⟨_,p,hp,rfl⟩:=hgc
   exact hA.2.1 p hp
 · cases hgc;exact hg
 · exact ((hM.own 4 rfl).lt g hgc).1
 · obtain ⟨a,ha,_,p,hp,rfl⟩:=hgc
   obtain ⟨m,hm,rfl⟩:=List.mem_map.1 ha
   exact hA.2.2 m hm p hp
structure Ru where
 ra:Int
 mo:Int
 q:Nat
abbrev Ru.val (r:Ru):Value:=.agg #[.int .i64 r.ra,.int .i64 r.mo,.int .i64 r.q]
structure Ru.Ok (r:Ru):Prop where
 ra:-9223372036854775808≤r.ra∧r.ra≤9223372036854775807
 mo:-9223372036854775808≤r.mo∧r.mo≤9223372036854775807
 q:r.q≤62
def updM (r:Ru) (m g:Int):Int:=sumW [mulF r.mo m r.q,g]
def updP (r:Ru) (p m:Int):Int:=wrap64 (p-mulF r.ra m r.q)
theorem updM_in (r:Ru) (m g:Int):-9223372036854775808≤updM r m g∧updM r m g≤9223372036854775807:=wrap64_in _
theorem updP_in (r:Ru) (p m:Int):-9223372036854775808≤updP r p m∧updP r p m≤9223372036854775807:=wrap64_in _
set_option maxRecDepth 100000 in
theorem update_any (w:World) (L:List Ch) (h:Mem w L) (r:Ru) (hr:r.Ok) (ip im B N cp cm gp gm i:Nat) (ps ms:List Int) (pv mv g:Int) (hP:L[ip]?=some (vOwn B N cp (some ⟨gp,0,none⟩) ps)) (hM:L[im]?=some (vOwn B N cm (some ⟨gm,0,none⟩) ms)) (hne:ip≠im)
  (hN:ps.length=N∧ms.length=N) (hi:i<N) (hp:ps[i]?=some pv) (hm:ms[i]?=some mv) (hm64:-9223372036854775808≤mv∧mv≤9223372036854775807) :
  Calls Tryz.prog 229 #[r.val,.pointer (some ⟨gp,i,none⟩),.pointer (some ⟨gm,i,none⟩),.int .i64 g] w fun e w'=>e=.returned (.tuple #[]) ∧
   Mem w' ((L.set im (vOwn B N cm (some ⟨gm,0,none⟩) (ms.set i (updM r mv g)))).set ip (vOwn B N cp (some ⟨gp,0,none⟩) (ps.set i (updP r pv (updM r mv g))))):=by
 have CM1:=K1 (fun W=>mul_any W r.mo mv r.q hr.q hr.mo hm64)
 have CM2:=K1 (fun W=>mul_any W r.ra (updM r mv g) r.q hr.q hr.ra (updM_in r mv g))
 have CS:=K1 (fun W A (hW:RdI W W.heap.size A [mulF r.mo mv r.q,g])=>sum_any W A [mulF r.mo mv r.q,g] 2 2 rfl (by omega) hW)
 have CB:=K1 (fun W a b=>sub_any W a b)
 have HUP:=K1 (show updP r pv (updM r mv g)=wrap64 (pv-mulF r.ra (updM r mv g) r.q) from rfl)
 have HUM:=K1 (show updM r mv g=sumW [mulF r.mo mv r.q,g] from rfl)
 have HP:=K1 hP
 have HMm:=K1 hM
 have HNE:=K1 hne
 have hcp:w.cell? ⟨gp,i,none⟩=some (.int .i64 pv):=((h.own ip hP).cellAt i (by omega)).trans (zC_at hp)
 have hcm:w.cell? ⟨gm,i,none⟩=some (.int .i64 mv):=((h.own im hM).cellAt i (by omega)).trans (zC_at hm)
 have HC:=K1 (show ∀ (W:World) (M:List Ch),Mem W M→M[ip]?=some (vOwn B N cp (some ⟨gp,0,none⟩) ps)→W.cell? ⟨gp,i,none⟩=some (.int .i64 pv) from fun W M h hM=>((h.own ip hM).cellAt i (by omega)).trans (zC_at hp))
 have HCm:=K1 (show ∀ (W:World) (M:List Ch),Mem W M→M[im]?=some (vOwn B N cm (some ⟨gm,0,none⟩) ms)→W.cell? ⟨gm,i,none⟩=some (.int .i64 mv) from fun W M h hM=>((h.own im hM).cellAt i (by omega)).trans (zC_at hm))
 have HCn:=K1 (show ∀ (W:World) (M:List Ch) (v:Int),Mem W M→M[im]?=some (vOwn B N cm (some ⟨gm,0,none⟩) (ms.set i v))→W.cell? ⟨gm,i,none⟩=some (.int .i64 v) from fun W M v h hM=>((h.own im hM).cellAt i (by omega)).trans (zC_at (List.getElem?_set_self (by omega))))
 have HM:=K1 (h.alloc (.cells #[.int .i64 r.ra,.int .i64 r.mo,.int .i64 r.q] 162))
 obtain ⟨ra,mo,q⟩:=r
 dsimp only [Ru.val] at *
 generalize updP ⟨ra,mo,q⟩ pv (updM ⟨ra,mo,q⟩ mv g)=p' at *
 generalize updM ⟨ra,mo,q⟩ mv g=m' at *
 generalize mulF mo mv q=a1 at *
 generalize mulF ra m' q=a2 at *
 clear h hP hM hne hN hp hm hm64 hr hcp hcm
 go_enter Tryz.func229,Tryz.ntmps229
 go_wp2_with fail
 refine name_wp fun W0 hW0=>?_
 replace HM:=K1 (hW0.out.symm ▸ HM.out)
 clear hW0
 generalize w.heap.size=gr at *
 refine wp_region_stage (.reads [0,1,2,3,4,5,6,7,9] (.eff 8 (.eff 10 (.eff 11 (.reads [12] (.eff 13 (.fin))))))) 13 (fun W'=>(∀ i,W'.cell? ⟨gr,i,none⟩=([.int .i64 ra,.int .i64 mo,.int .i64 q]:List Value)[i]?)∧W'.cell? ⟨gm,i,none⟩=some (.int .i64 mv))
  (by kernel_rfl) (by kernel_rfl) (by intro d v c a w h;cases d <;> exact h) ?_
 replace HM:=K1 HM.out.drew
 generalize W0.drew=V at *
 refine PlS.reads_ ⟨HM.out.cells _ at_last,HCm.out _ _ HM.out (at_l HMm.out)⟩ (by kernel_rfl) ?_
 simp only [pickO,p1,p2,p3,p4]
 apply Exists.intro
 apply And.intro
 · intro W' hS
   obtain ⟨s1,s2⟩:=hS
   repeat still_step
   exact wpStill_nil rfl
 refine PlS.eff_ ?_
 simp only [pickO,p1,p2,p3,p4]
 go_wp2_with fail
 refine (CM1.out _).mono ?_
 rintro e w1 ⟨rfl,hb⟩
 replace HM:=K1 (HM.out.below hb)
 clear hb CM1
 go_wp2_with fail
 refine After.go ⟨HM.out.cells _ at_last,HCm.out _ _ HM.out (at_l HMm.out)⟩ ?_
 refine PlS.eff_ ?_
 simp only [pickO,p1,p2,p3,p4]
 go_wp2_with fail
 refine name_after fun W7 hW=>?_
 have HMb:=K1 (HM.out.alloc_ hW.out)
 clear hW HM
 refine After.go ⟨HMb.out.cells _ (at_l at_last),HCm.out _ _ HMb.out (at_l (at_l HMm.out))⟩ ?_
 refine PlS.eff_ ?_
 simp only [pickO,p1,p2,p3,p4]
 go_wp2_with fail
 refine (CS.out _ _ (HMb.out.box _ at_last)).mono ?_
 rintro e w2 ⟨rfl,hb⟩
 have HM:=K1 (HMb.out.below hb).left
 clear hb CS HMb
 rw [← HUM.out]
 go_wp2_with fail
 refine After.go ⟨HM.out.cells _ at_last,HCm.out _ _ HM.out (at_l HMm.out)⟩ ?_
 refine PlS.reads_ ⟨HM.out.cells _ at_last,HCm.out _ _ HM.out (at_l HMm.out)⟩ (by kernel_rfl) ?_
 simp only [pickO,p1,p2,p3,p4]
 apply Exists.intro
 apply And.intro
 · intro W' hS
   repeat still_step
   exact wpStill_nil rfl
 refine PlS.eff_ ?_
 simp only [pickO,p1,p2,p3,p4]
 have c2:=HCm.out _ _ HM.out (at_l HMm.out)
 have f2:=HM.out.ownF im (at_l HMm.out)
 have hm3:=HM.out.setOwn (i:=im) (j:=i) (at_l HMm.out) (.int .i64 m')
 rw [← zC_set,set_app HMm.out] at hm3
 have HM3:=K1 hm3
 clear hm3 HM
 go_wp2_with fail
 refine After.last (by decide) (PlS.fin_ ?_)
 clear c2 f2
 go_wp2_with fail
 refine name_wp fun W1 hW1=>?_
 replace HM3:=K1 (hW1.out.symm ▸ HM3.out)
 clear hW1
 refine wp_region_stage (.reads [0,1,2,3,4,5,6,7,8,9,10] (.eff 11 (.eff 12 (.reads [13] (.eff 14 (.fin)))))) 14 (fun W'=>(∀ i,W'.cell? ⟨gr,i,none⟩=([.int .i64 ra,.int .i64 mo,.int .i64 q]:List Value)[i]?)∧W'.cell? ⟨gp,i,none⟩=some (.int .i64 pv)∧W'.cell? ⟨gm,i,none⟩=some (.int .i64 m'))
  (by kernel_rfl) (by kernel_rfl) (by intro d v c a w h;cases d <;> exact h) ?_
 replace HM3:=K1 HM3.out.drew
 generalize W1.drew=V1 at *
 refine PlS.reads_ ⟨HM3.out.cells _ at_last,HC.out _ _ HM3.out (at_l (at_ne HNE.out.symm HP.out)),HCn.out _ _ m' HM3.out (at_l (at_set HMm.out))⟩ (by kernel_rfl) ?_
 simp only [pickO,p1,p2,p3,p4]
 apply Exists.intro
 apply And.intro
 · intro W' hS
   obtain ⟨s1,s2,s3⟩:=hS
   repeat still_step
   exact wpStill_nil rfl
 refine PlS.eff_ ?_
 simp only [pickO,p1,p2,p3,p4]
 go_wp2_with fail
 refine (CM2.out _).mono ?_
 rintro e w3 ⟨rfl,hb⟩
 replace HM3:=K1 (HM3.out.below hb)
 clear hb CM2
 go_wp2_with fail
 refine After.go ⟨HM3.out.cells _ at_last,HC.out _ _ HM3.out (at_l (at_ne HNE.out.symm HP.out)),HCn.out _ _ m' HM3.out (at_l (at_set HMm.out))⟩ ?_
 refine PlS.eff_ ?_
 simp only [pickO,p1,p2,p3,p4]
 go_wp2_with fail
 refine (CB.out _ _ _).mono ?_
 rintro e w4 ⟨rfl,rfl⟩
 rw [← HUP.out]
 go_wp2_with fail
 refine After.go ⟨HM3.out.cells _ at_last,HC.out _ _ HM3.out (at_l (at_ne HNE.out.symm HP.out)),HCn.out _ _ m' HM3.out (at_l (at_set HMm.out))⟩ ?_
 refine PlS.reads_ ⟨HM3.out.cells _ at_last,HC.out _ _ HM3.out (at_l (at_ne HNE.out.symm HP.out)),HCn.out _ _ m' HM3.out (at_l (at_set HMm.out))⟩ (by kernel_rfl) ?_
 simp only [pickO,p1,p2,p3,p4]
 apply Exists.intro
 apply And.intro
 · intro W' hS
   repeat still_step
   exact wpStill_nil rfl
 refine PlS.eff_ ?_
 simp only [pickO,p1,p2,p3,p4]
 have c2:=HC.out _ _ HM3.out (at_l (at_ne HNE.out.symm HP.out))
 have f2:=HM3.out.ownF ip (at_l (at_ne HNE.out.symm HP.out))
 have hm4:=(HM3.out.left).setOwn (i:=ip) (j:=i) (at_ne HNE.out.symm HP.out) (.int .i64 p')
 rw [← zC_set] at hm4
 have HM4:=K1 hm4
 clear hm4 HM3
 go_wp2_with fail
 refine After.last (by decide) (PlS.fin_ ?_)
 clear c2 f2
 go_wp2_with fail
 go_end0
 exact ⟨rfl,HM4.out⟩
def appPM (r:Ru) (gs:List Int) (x:Nat) (ps ms:List Int):Nat→List Int × List Int
 | 0=>(ps,ms)
 | k+1 =>
   ((appPM r gs x ps ms k).1.set (x+k) (updP r (ps[x+k]?.getD 0) (updM r (ms[x+k]?.getD 0) (gs[x+k]?.getD 0))),
    (appPM r gs x ps ms k).2.set (x+k) (updM r (ms[x+k]?.getD 0) (gs[x+k]?.getD 0)))
theorem appPM_len (r:Ru) (gs:List Int) (x:Nat) (ps ms:List Int):∀ k,(appPM r gs x ps ms k).1.length=ps.length∧(appPM r gs x ps ms k).2.length=ms.length
 | 0=>⟨rfl,rfl⟩
 | k+1=>by
   have:=appPM_len r gs x ps ms k
   simp only [appPM,List.length_set]
   exact this
theorem appPM_at (r:Ru) (gs:List Int) (x:Nat) (ps ms:List Int):∀ k j,x+k≤j→(appPM r gs x ps ms k).1[j]?=ps[j]?∧(appPM r gs x ps ms k).2[j]?=ms[j]?
 | 0,_,_=>⟨rfl,rfl⟩
 | k+1,j,h=>by
   have:=appPM_at r gs x ps ms k j (by omega)
   simp only [appPM]
   rw [List.getElem?_set_ne (by omega),List.getElem?_set_ne (by omega)]
   exact this
theorem appPM_in {r:Ru} {gs:List Int} {x:Nat} {ps ms:List Int} (hp:In64 ps) (hm:In64 ms):∀ k,In64 (appPM r gs x ps ms k).1∧In64 (appPM r gs x ps ms k).2
 | 0=>⟨hp,hm⟩
 | k+1=>⟨(appPM_in hp hm k).1.set _ (updP_in _ _ _),(appPM_in hp hm k).2.set _ (updM_in _ _ _)⟩
set_option maxRecDepth 100000 in
theorem apply_any (w:World) (L:List Ch) (h:Mem w L) (r:Ru) (hr:r.Ok) (ip im ig B Bg N Ng cp cm cg gp gm gg x y n cq:Nat) (ps ms gs:List Int) (hP:L[ip]?=some (vOwn B N cp (some ⟨gp,0,none⟩) ps)) (hM:L[im]?=some (vOwn B N cm (some ⟨gm,0,none⟩) ms)) (hG:L[ig]?=some (vOwn Bg Ng cg (some ⟨gg,0,none⟩) gs))
  (hpm:ip≠im) (hgp:ig≠ip) (hgm:ig≠im) (hN:ps.length=N∧ms.length=N) (hNg:gs.length=Ng) (hxy:x<y) (hyN:y≤N) (hyG:y≤Ng) (hn:n=y-x) (hN2:N≤1000) (hcq:n≤cq) (hm64:In64 ms) :
  Calls Tryz.prog 212 #[r.val,stV N (some ⟨gp,0,none⟩) cp (some ⟨gm,0,none⟩) cm,.agg #[.int .i64 x,.int .i64 y],.slice (some ⟨gg,x,none⟩) n cq] w fun e w'=>e=.returned (.bool true) ∧
   Mem w' (two L im ip (vOwn B N cm (some ⟨gm,0,none⟩) (appPM r gs x ps ms n).2) (vOwn B N cp (some ⟨gp,0,none⟩) (appPM r gs x ps ms n).1)):=by
 have CSz:Hid (∀ W:World,Calls Tryz.prog 43 #[.agg #[.int .i64 x,.int .i64 y]] W fun e w'=>e=.returned (.int .i64 n)∧Below W.heap.size W w'):=K1 (fun W=>(psize_any x y W (by omega) (by omega)).mono fun e w' ⟨h1,h2⟩=>⟨by rw [hn];exact h1,h2 ▸ (Below.refl _ _).alloc (Nat.le_refl _) _⟩)
 have HU:=K1 (fun (W:World) (M:List Ch) (hM':Mem W M) (k:Nat) (ps' ms':List Int) (pv mv g:Int) (h1:M[ip]?=some (vOwn B N cp (some ⟨gp,0,none⟩) ps')) (h2:M[im]?=some (vOwn B N cm (some ⟨gm,0,none⟩) ms')) (h3:ps'.length=N∧ms'.length=N) (h4:k<N) (h5:ps'[k]?=some pv) (h6:ms'[k]?=some mv) (h7:-9223372036854775808≤mv∧mv≤9223372036854775807) =>
  update_any W M hM' r hr ip im B N cp cm gp gm k ps' ms' pv mv g h1 h2 hpm h3 h4 h5 h6 h7)
 have HH:=K1 (And.intro hP (And.intro hM (And.intro hG (And.intro hpm (And.intro hgp hgm)))))
 have HX:=K1 (And.intro hN (And.intro hNg (And.intro hn hm64)))
 have hyx:¬ y<x:=by omega
 have hnb:n≤1000:=by omega
 have hx1:x≤1000:=by omega
 have hy1:y≤1000:=by omega
 have hxN:x<N:=by omega
 have hm0:=((h.alloc (.cells #[.int .i64 r.ra,.int .i64 r.mo,.int .i64 r.q] 162)).alloc (.cells #[.slice (some ⟨gp,0,none⟩) N cp,.slice (some ⟨gm,0,none⟩) N cm] 89)).alloc (.cells #[.int .i64 x,.int .i64 y] 47)
 simp only [World.size_alloc,List.append_assoc,List.cons_append,List.nil_append] at hm0
 rw [← two_same hM hP (L:=L)] at hm0
 have HM:=K1 hm0
 clear hm0 h hP hM hG hpm hgp hgm hN hNg hn hm64 hr
 have hAP:Hid (∀ k,appPM r gs x ps ms (k+1)=((appPM r gs x ps ms k).1.set (x+k) (updP r (ps[x+k]?.getD 0) (updM r (ms[x+k]?.getD 0) (gs[x+k]?.getD 0))),(appPM r gs x ps ms k).2.set (x+k) (updM r (ms[x+k]?.getD 0) (gs[x+k]?.getD 0)))):=K1 (fun k=>rfl)
 have e1:=HM.out.cells _ (two_at (B:=[_,_,_]) 2 rfl)
 have e2:=HM.out.cells _ (two_at (B:=[_,_,_]) 1 rfl)
 go_enter Tryz.func212,Tryz.ntmps212
 go_wp2_with fail
 refine (CSz.out _).mono ?_
 rintro e w1 ⟨rfl,hb⟩
 replace HM:=K1 (HM.out.below hb)
 clear hb e1 e2
 have e1:=HM.out.cells _ (two_at (B:=[_,_,_]) 2 rfl)
 have e2:=HM.out.cells _ (two_at (B:=[_,_,_]) 1 rfl)
 go_wp2_with fail
 refine (CSz.out _).mono ?_
 rintro e w2 ⟨rfl,hb⟩
 replace HM:=K1 (HM.out.below hb)
 clear hb e1 e2 CSz
 go_wp2_with fail
 go_loopw [46] (fun iv wr=>∃ k:Nat,k≤n∧iv=.int .i64 k∧Hid (Mem wr (two L im ip (vOwn B N cm (some ⟨gm,0,none⟩) (appPM r gs x ps ms k).2) (vOwn B N cp (some ⟨gp,0,none⟩) (appPM r gs x ps ms k).1)++[.obj w.heap.size (.cells #[.int .i64 r.ra,.int .i64 r.mo,.int .i64 r.q] 162 (0,0)),.obj (w.heap.size+1) (.cells #[.slice (some ⟨gp,0,none⟩) N cp,.slice (some ⟨gm,0,none⟩) N cm] 89 (0,0)),.obj (w.heap.size+1+1) (.cells #[.int .i64 x,.int .i64 y] 47 (0,0))]))) (fun iv _=>n-(intOf iv).toNat)
 case atStart=>exact ⟨0,Nat.zero_le _,rfl,HM⟩
 case round =>
  clear HM
  obtain ⟨k,hk,rfl,HM⟩:=hrel
  by_cases hlt:k<n
  · obtain ⟨xk,hxk⟩:∃ xk,xk=x+k:=⟨_,rfl⟩
    have hxki:(x:Int)+(k:Int)=(xk:Int):=by omega
    have hxkN:xk<N:=by have:=HX.out.2.2.1;omega
    have wxk:IntKind.i64.wrap (xk:Int)=(xk:Int):=IntWalk.i64_in _ (by omega)
    obtain ⟨pv,hpv⟩:=get_some ps xk (by have:=HX.out.1.1;omega)
    obtain ⟨mv,hmv⟩:=get_some ms xk (by have:=HX.out.1.2;omega)
    obtain ⟨g,hgv⟩:=get_some gs xk (by have:=HX.out.2.1;have:=HX.out.2.2.1;omega)
    have hat:=appPM_at r gs x ps ms k xk (by omega)
    have hlen:=appPM_len r gs x ps ms k
    have HUk:=K1 (fun (W:World) (T:List Ch) (hM':Mem W (two L im ip (vOwn B N cm (some ⟨gm,0,none⟩) (appPM r gs x ps ms k).2) (vOwn B N cp (some ⟨gp,0,none⟩) (appPM r gs x ps ms k).1)++T))=>HU.out W _ hM' xk (appPM r gs x ps ms k).1 (appPM r gs x ps ms k).2 pv mv g (at_l (two_i HH.out.1 HH.out.2.2.2.1)) (at_l (two_o HH.out.2.1 HH.out.2.2.2.1)) ⟨hlen.1.trans HX.out.1.1,hlen.2.trans HX.out.1.2⟩ hxkN (hat.1.trans hpv) (hat.2.trans hmv) (HX.out.2.2.2.at_ hmv))
    have HS:=K1 (show appPM r gs x ps ms (k+1)=((appPM r gs x ps ms k).1.set xk (updP r pv (updM r mv g)),(appPM r gs x ps ms k).2.set xk (updM r mv g)) by rw [hAP.out,← hxk,hpv,hmv,hgv];rfl)
    have HGC:=K1 (show ∀ (W:World) (M:List Ch),Mem W M→M[ig]?=some (vOwn Bg Ng cg (some ⟨gg,0,none⟩) gs)→W.cell? ⟨gg,xk,none⟩=some (.int .i64 g) from fun W M h hM=>((h.own ig hM).cellAt xk (by have:=(List.getElem?_eq_some_iff.1 hgv).1;have:=HX.out.2.1;omega)).trans (zC_at hgv))
    have HXK:=K1 hxk
    have hgx:x+k=xk:=hxk.symm
    clear hpv hmv hgv hat hlen hxk
    go_wp2_with fail
    refine wp_region_stage (.reads [0,1,2,3,4,5,6,7,8,9,10,11,12,13,14,15,16,17,18] (.eff 19 (.fin))) 20 (fun W'=>(∀ i,W'.cell? ⟨w.heap.size,i,none⟩=([.int .i64 r.ra,.int .i64 r.mo,.int .i64 r.q]:List Value)[i]?)∧(∀ i,W'.cell? ⟨w.heap.size+1,i,none⟩=([.slice (some ⟨gp,0,none⟩) N cp,.slice (some ⟨gm,0,none⟩) N cm]:List Value)[i]?)∧(∀ i,W'.cell? ⟨w.heap.size+1+1,i,none⟩=([.int .i64 x,.int .i64 y]:List Value)[i]?)∧W'.cell? ⟨gg,xk,none⟩=some (.int .i64 g))
     (by kernel_rfl) (by kernel_rfl) (by intro d v c a w h;cases d <;> exact h) ?_
    replace HM:=K1 HM.out.drew
    refine PlS.reads_ ⟨HM.out.cells _ (two_at 0 rfl),HM.out.cells _ (two_at 1 rfl),HM.out.cells _ (two_at 2 rfl),HGC.out _ _ HM.out (at_l (two_ne HH.out.2.2.1 HH.out.2.2.2.2.2.symm HH.out.2.2.2.2.1.symm))⟩ (by kernel_rfl) ?_
    simp only [pickO,p1,p2,p3,p4]
    apply Exists.intro
    apply And.intro
    · intro W' hS
      obtain ⟨s1,s2,s3,s4⟩:=hS
      repeat still_step
      exact wpStill_nil rfl
    refine PlS.eff_ ?_
    simp only [pickO,p1,p2,p3,p4]
    go_wp2_with fail
    refine (HUk.out _ _ HM.out).mono ?_
    rintro e w3 ⟨rfl,hm3⟩
    rw [two_two HH.out.2.1 HH.out.1 HH.out.2.2.2.1] at hm3
    have HM3:=K1 hm3
    clear hm3 HM HUk
    go_wp2_with fail
    refine After.go ⟨HM3.out.cells _ (two_at 0 rfl),HM3.out.cells _ (two_at 1 rfl),HM3.out.cells _ (two_at 2 rfl),HGC.out _ _ HM3.out (at_l (two_ne HH.out.2.2.1 HH.out.2.2.2.2.2.symm HH.out.2.2.2.2.1.symm))⟩ (PlS.fin_ ?_)
    go_wp2_with fail
    go_roundw
    case rel=>exact ⟨k+1,by omega,by go_num,by rw [HS.out];exact HM3⟩
    case measure=>simp [intOf];omega
  · have hkn:k=n:=by omega
    subst hkn
    go_wp2_with fail
    go_ret
    exact ⟨rfl,HM.out.left⟩
abbrev exV (n:Nat) (A:Option Addr) (c:Nat) (m:Nat) (B:Option Addr) (d:Nat):Value:=.agg #[.slice A n c,.slice B m d]
set_option maxRecDepth 100000 in
theorem dcopied_any (w:World) (A B:Option Addr) (n nb ca cb:Nat) (ps ms:List Int) (hA:Rd w w.heap.size A (zC ps)) (hB:Rd w w.heap.size B (zC ms)) (hp:ps.length=n) (hm:ms.length=nb) (hn:n≤1048576) (hn2:nb≤1048576) :
  Calls Tryz.prog 112 #[exV n A ca nb B cb] w fun e w'=>∃ Ap cp Am cm,e=.returned (exV n Ap cp nb Am cm)∧Mem w' [.bel w.heap.size w,vOwn w.heap.size n cp Ap ps,vOwn w.heap.size nb cm Am ms]:=by
 have CA:=K1 (fun W (hW:Rd W W.heap.size A (zC ps))=>cloneL_any A n ca (zC ps) W hW (by simp [hp]) (zC_one ps) (by omega))
 have CB:=K1 (fun W (hW:Rd W W.heap.size B (zC ms))=>cloneL_any B nb cb (zC ms) W hW (by simp [hm]) (zC_one ms) (by omega))
 have hm0:=((((Mem.start w).add_rd (i:=0) rfl hA).add_rd (i:=0) rfl hB).alloc (.cells #[.slice A n ca,.slice B nb cb] 140)).alloc (.cells #[.slice none 0 0,.slice none 0 0] 140)
 simp only [World.size_alloc] at hm0
 have HM:=K1 hm0
 clear hA hB hp hm hm0
 go_enter Tryz.func112,Tryz.ntmps112
 go_wp2_with fail
 refine name_wp fun W0 hW0=>?_
 replace HM:=K1 (hW0.out.symm ▸ HM.out)
 clear hW0
 refine wp_region_stage (.reads [0,1,3,4] (.eff 2 (.eff 5 (.reads [6] (.eff 7 (.fin)))))) 8 (fun W'=>∀ i,W'.cell? ⟨w.heap.size,i,none⟩=([.slice A n ca,.slice B nb cb]:List Value)[i]?)
  (by kernel_rfl) (by kernel_rfl) (by intro d v c a w h;cases d <;> exact h) ?_
 replace HM:=K1 HM.out.drew
 generalize W0.drew=V at *
 refine PlS.reads_ (HM.out.cells 3 rfl) (by kernel_rfl) ?_
 simp only [pickO,p1,p2,p3,p4]
 apply Exists.intro
 apply And.intro
 · intro W' hS
   repeat still_step
   exact wpStill_nil rfl
 refine PlS.eff_ ?_
 simp only [pickO,p1,p2,p3,p4]
 go_wp2_with fail
 refine (CA.out _ (HM.out.rd 1 rfl)).mono ?_
 rintro e w1 ⟨Ap,cp,rfl,ho,hcp,hb⟩
 have hg:=(HM.out.bel 0 rfl).size
 replace HM:=K1 ((HM.out.push_own hb ho rfl).lower (i:=5) rfl hg)
 clear ho hb hg CA
 go_wp2_with fail
 refine After.go (HM.out.cells 3 rfl) ?_
 refine PlS.eff_ ?_
 simp only [pickO,p1,p2,p3,p4]
 go_wp2_with fail
 refine (CB.out _ (HM.out.rd 2 rfl)).mono ?_
 rintro e w2 ⟨Am,cm,rfl,ho,hcm,hb⟩
 have hg:=(HM.out.bel 0 rfl).size
 replace HM:=K1 ((HM.out.push_own hb ho rfl).lower (i:=6) rfl hg)
 clear ho hb hg CB
 go_wp2_with fail
 refine After.go (HM.out.cells 3 rfl) ?_
 refine PlS.reads_ (HM.out.cells 3 rfl) (by kernel_rfl) ?_
 simp only [pickO,p1,p2,p3,p4]
 apply Exists.intro
 apply And.intro
 · intro W' hS
   repeat still_step
   exact wpStill_nil rfl
 refine PlS.eff_ ?_
 simp only [pickO,p1,p2,p3,p4]
 have c2:=HM.out.cells 4 rfl
 have f2:=fun j=>HM.out.frozen 4 j rfl
 have HF:=K1 ((HM.out.set (i:=4) (j:=0) rfl (.slice Ap n cp)).set (i:=4) (j:=1) rfl (.slice Am nb cm))
 clear HM
 go_wp2_with fail
 refine After.go (HF.out.cells 3 rfl) (PlS.fin_ ?_)
 clear c2 f2
 have c2:=HF.out.cells 4 rfl
 go_wp2_with fail
 refine bodyPost_ret (v:=exV n Ap cp nb Am cm) ?_ rfl ⟨_,_,_,_,rfl,HF.out.pick [0,5,6] _ rfl (by decide)⟩
 simp [results,Tryz.results112,go_sem,c2]
set_option maxRecDepth 100000 in
theorem dclone1_any (w:World) (A B:Option Addr) (n nb ca cb:Nat) (ps ms:List Int) (hA:Rd w w.heap.size A (zC ps)) (hB:Rd w w.heap.size B (zC ms)) (hp:ps.length=n) (hm:ms.length=nb) (hn:n≤1048576) (hn2:nb≤1048576) :
  Calls Tryz.prog 111 #[exV n A ca nb B cb] w fun e w'=>∃ Ap cp Am cm,e=.returned (.tuple #[exV n Ap cp nb Am cm,.bool true])∧Mem w' [.bel w.heap.size w,vOwn w.heap.size n cp Ap ps,vOwn w.heap.size nb cm Am ms]:=by
 have CC:=K1 (fun W (hb:Below w.heap.size w W)=>dcopied_any W A B n nb ca cb ps ms ((hA.below hb).more hb.size) ((hB.below hb).more hb.size) hp hm hn hn2)
 have hm0:=((Mem.start w).alloc (.cells #[.slice A n ca,.slice B nb cb] 140)).alloc (.cells #[.slice none 0 0,.slice none 0 0] 140)
 simp only [World.size_alloc] at hm0
 have HM:=K1 hm0
 have c1:=hm0.cells 1 rfl
 clear hA hB hp hm hm0
 go_enter Tryz.func111,Tryz.ntmps111
 go_wp2_with fail
 refine name_calls fun W0 hW0=>?_
 replace HM:=K1 (hW0.out.symm ▸ HM.out)
 clear hW0 c1
 refine (CC.out _ (HM.out.bel 0 rfl)).mono ?_
 rintro e w2 ⟨Ap,cp,Am,cm,rfl,hm2⟩
 have hg:=(HM.out.bel 0 rfl).size
 have HM2:=K1 (((HM.out.join hm2 (fun c hc hm=>by
  simp only [List.mem_cons,List.not_mem_nil,or_false] at hc
  rcases hc with rfl | rfl <;> exact absurd trivial hm)).lower (i:=3) rfl hg).lower (i:=4) rfl hg)
 clear hm2 hg CC HM
 have c2:=HM2.out.cells 2 rfl
 have f2:=fun j=>HM2.out.frozen 2 j rfl
 have HF:=K1 ((HM2.out.set (i:=2) (j:=0) rfl (.slice Ap n cp)).set (i:=2) (j:=1) rfl (.slice Am nb cm))
 clear HM2
 go_wp2_with fail
 clear c2 f2
 have c2:=HF.out.cells 2 rfl
 refine bodyPost_ret (v:=.tuple #[exV n Ap cp nb Am cm,.bool true]) ?_ rfl ⟨_,_,_,_,rfl,HF.out.pick [0,3,4] _ rfl (by decide)⟩
 simp [results,Tryz.results111,go_sem,c2]
structure Ex where
 ax:Option Addr
 xs:List Int
 cx:Nat
 ay:Option Addr
 ys:List Int
 cy:Nat
def Ex.cells (e:Ex):List Value:=[.slice e.ax e.xs.length e.cx,.slice e.ay e.ys.length e.cy]
def Ex.val (e:Ex):Value:=.agg #[.slice e.ax e.xs.length e.cx,.slice e.ay e.ys.length e.cy]
def exCells (l:List Ex):List Value:=l.flatMap Ex.cells
theorem exCells_len:∀ l:List Ex,(exCells l).length=2*l.length
 | []=>rfl
 | e::l=>by
   have ih:=exCells_len l
   have e1:exCells (e::l)=e.cells++exCells l:=rfl
   rw [e1,List.length_append,ih,List.length_cons]
   show 2+_=_
   omega
theorem exCells_at:∀ (l:List Ex) (k:Nat) (e:Ex),l[k]?=some e→(exCells l)[2*k]?=some (.slice e.ax e.xs.length e.cx)∧(exCells l)[2*k+1]?=some (.slice e.ay e.ys.length e.cy)
 | [],_,_,h=>by simp at h
 | x::l,0,e,h=>by
   simp at h;subst h
   exact ⟨rfl,rfl⟩
 | x::l,k+1,e,h=>by
   have ih:=exCells_at l k e (by simpa using h)
   have e1:exCells (x::l)=x.cells++exCells l:=rfl
   have h2:x.cells.length=2:=rfl
   rw [e1,List.getElem?_append_right (by omega),List.getElem?_append_right (by omega),h2]
   rw [show 2*(k+1)-2=2*k from by omega,show 2*(k+1)+1-2=2*k+1 from by omega]
   exact ih
def RdX (w:World) (B:Nat) (e:Ex):Prop:=RdI w B e.ax e.xs∧RdI w B e.ay e.ys∧e.xs.length≤e.cx∧e.ys.length≤e.cy∧e.xs.length≤9223372036854775807∧e.ys.length≤9223372036854775807
def RdE (w:World) (B:Nat) (A:Option Addr) (l:List Ex):Prop:=Rd w B A (exCells l)∧∀ e∈l,RdX w B e
theorem RdX.below {w w':World} {B:Nat} {e:Ex} (h:RdX w B e) (hb:Below B w w'):RdX w' B e:=⟨h.1.below hb,h.2.1.below hb,h.2.2⟩
theorem RdX.more {w:World} {B B':Nat} {e:Ex} (h:RdX w B e) (hB:B≤B'):RdX w B' e:=⟨h.1.more hB,h.2.1.more hB,h.2.2⟩
theorem RdE.below {w w':World} {B:Nat} {A:Option Addr} {l:List Ex} (h:RdE w B A l) (hb:Below B w w'):RdE w' B A l:=⟨h.1.below hb,fun e he=>(h.2 e he).below hb⟩
theorem RdE.more {w:World} {B B':Nat} {A:Option Addr} {l:List Ex} (h:RdE w B A l) (hB:B≤B'):RdE w B' A l:=⟨h.1.more hB,fun e he=>(h.2 e he).more hB⟩
theorem RdE.at_ {w:World} {B:Nat} {A:Option Addr} {l:List Ex} (h:RdE w B A l) (h0:0<l.length) :
  ∃ b off,A=some ⟨b,off,none⟩∧b<B∧∀ k e,l[k]?=some e→w.cell? ⟨b,off+k*2,none⟩=some (.slice e.ax e.xs.length e.cx)∧w.cell? ⟨b,off+k*2+1,none⟩=some (.slice e.ay e.ys.length e.cy):=by
 obtain ⟨b,off,rfl,hb,hc⟩:=h.1 (by rw [exCells_len];omega)
 refine ⟨b,off,rfl,hb,fun k e he=>?_⟩
 have ha:=exCells_at l k e he
 have h1:=hc _ _ ha.1
 have h2:=hc _ _ ha.2
 rw [Nat.mul_comm] at h1
 rw [Nat.mul_comm 2 k] at h2
 exact ⟨h1,by rw [Nat.add_assoc];exact h2⟩
def exBad (inn out:Int) (e:Ex):Bool:=!(decide ((e.xs.length:Int)=inn) && decide ((e.ys.length:Int)=out))
def exIdx (inn out:Int) (l:List Ex):Nat:=(l.findIdx? (exBad inn out)).getD 0
def exFits (inn out:Int) (l:List Ex):Bool:=l.all fun e=>!exBad inn out e
theorem fits_step {inn out:Int} {l:List Ex} {k:Nat} {e:Ex} (he:l[k]?=some e) (h:exFits inn out (l.take k)=true) (hb:exBad inn out e=false):exFits inn out (l.take (k+1))=true:=by
 unfold exFits at h ⊢
 rw [List.take_add_one,he,List.all_append,h]
 simp [hb]
theorem fits_first {inn out:Int}:∀ {l:List Ex} {k:Nat} {e:Ex},l[k]?=some e→exFits inn out (l.take k)=true→exBad inn out e=true→exFits inn out l=false∧l.findIdx? (exBad inn out)=some k
 | [],k,e,h,_,_=>by simp at h
 | x::l,0,e,h,_,hb=>by
   simp at h;subst h
   simp [exFits,hb,List.findIdx?_cons]
 | x::l,k+1,e,h,hf,hb=>by
   simp only [exFits,List.take_succ_cons,List.all_cons,Bool.and_eq_true,Bool.not_eq_true'] at hf
   have ih:=fits_first (l:=l) (k:=k) (by simpa using h) hf.2 hb
   simp [exFits,List.findIdx?_cons,hf.1,ih.2]
   have:=ih.1
   simpa [exFits] using this
theorem fits_idx {inn out:Int} {l:List Ex} {k:Nat} {e:Ex} (he:l[k]?=some e) (h:exFits inn out (l.take k)=true) (hb:exBad inn out e=true):exFits inn out l=false∧exIdx inn out l=k:=by
 have:=fits_first he h hb
 exact ⟨this.1,by unfold exIdx;rw [this.2];rfl⟩
theorem fits_all:∀ {inn out:Int} {l:List Ex},exFits inn out l=true→exIdx inn out l=0:=fun {inn out l} h=>by
 unfold exIdx
 have:l.findIdx? (exBad inn out)=none:=by
  rw [List.findIdx?_eq_none_iff]
  intro x hx
  have:=List.all_eq_true.1 h x hx
  simpa using this
 rw [this];rfl
end Go.Proofs.YtdpojpcoghcieaaGreat
