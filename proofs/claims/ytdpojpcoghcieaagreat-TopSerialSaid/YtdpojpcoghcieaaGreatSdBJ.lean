/- A part of the proof of TopSerial: MachComp, MachDoers. Conditions: none. -/
import Derived.Test.YtdpojpcoghcieaaGreatSdBI
set_option maxHeartbeats 8000000
namespace Go.Proofs.YtdpojpcoghcieaaGreat
open Lib renaming hid → K1
open List renaming filterMap_cons → p1, filterMap_nil → p2, getElem?_cons_zero → p3, getElem?_cons_succ → p4
open Go.RowKit
theorem permTo_lt {n:Nat} (hn:1≤n) (js:List Nat):∀ k,∀ x∈permTo n js k,x<n
 | 0,x,hx=>List.mem_range.1 hx
 | k+1,x,hx=>by
   have ih:=permTo_lt hn js k
   have key:∀ i:Nat,(permTo n js k)[i]?.getD 0<n:=fun i=>by
    cases h:(permTo n js k)[i]? with
    | none=>exact hn
    | some v=>exact ih v (List.mem_of_getElem? h)
   rw [permTo,swapL] at hx
   rcases List.mem_or_eq_of_mem_set hx with hx | rfl
   · rcases List.mem_or_eq_of_mem_set hx with hx | rfl
     · exact ih x hx
     · exact key _
   · exact key _
theorem subL_mem {α:Type} {l:List α} {a b:Nat} {x:α} (h:x∈subL l a b):x∈l:=List.mem_of_mem_drop (List.mem_of_mem_take h)
theorem microL_lt {ds:List Nat} {n batch t u k a mi:Nat} (hn:1≤n):∀ x∈microL ds n batch t u k a mi,x<n:=fun x hx=>permTo_lt hn _ _ x (subL_mem (subL_mem (subL_mem hx)))
theorem microL_le {ds:List Nat} {n batch t u k a mi:Nat} (hu:u<k) (ha:a<mi):(microL ds n batch t u k a mi).length≤n:=by
 have h1:=pieceL_le (l:=pieceL (viewL ds n batch t) u k) ha
 have h2:=pieceL_le (l:=viewL ds n batch t) hu
 have h3:(viewL ds n batch t).length≤n:=by
  unfold viewL subL
  rw [List.length_take,List.length_drop,shufL_len];omega
 unfold microL
 omega
theorem st_lt {W:World} {lo hi g:Nat} {P:World→Prop} (h:Local (fun g=>lo≤g∧g<hi) P W) (hg:lo≤g∧g<hi):hi≤W.heap.size:=by
 have:=h.lt (hi-1) (by omega)
 omega
theorem nsle {ns:List Nat} (h:NsOk ns) {k n:Nat} (hk:ns[k]?=some n):n≤1000:=by
 have hl:=h.len
 have hlt:=(List.getElem?_eq_some_iff.1 hk).1
 rcases Nat.lt_or_ge k (ns.length-1) with h1 | h1
 · obtain ⟨a,b,ha,_,_,_,_,_,h2,_⟩:=h.at_ h1
   rw [hk] at ha
   injection ha with ha
   omega
 · obtain ⟨a,b,_,hb,_,_,_,_,_,h2,_⟩:=h.at_ (show ns.length-2<ns.length-1 by omega)
   rw [show ns.length-2+1=k by omega,hk] at hb
   injection hb with hb
   omega
theorem Mem.pushNet {W W':World} {L:List Ch} {i flo fhi gn gs q:Nat} {ns:List Nat} {ps:List Int} (h:Mem W L) (hb:Below W.heap.size W W') (hn:NetAt W' W.heap.size W'.heap.size flo fhi gn gs q ns ps) (hi:L[i]?=some (formCh flo fhi gs ns)):Mem W' (L++[netCh W.heap.size W'.heap.size flo fhi gn gs q ns ps]) :=
 (h.below hb).add (netCh_holds hn) fun j d hd hm g hg hdg=>by
  rcases hg with hg | hg
  · have:=Ch.lt (h.holds j d hd) hdg
    omega
  · rcases hm with hm | hm
    · exact hm
    · refine h.sep j i d _ (fun e=>?_) hd hi hm g hdg hg
      subst e
      rw [hd] at hi
      injection hi with hi
      subst hi
      exact hm
def compG (ns:List Nat) (q:Nat) (ps:List Int) (p:Nat):List (List Int × List Int)→List Int→List Int
 | [],G=>G
 | e::r,G=>compG ns q ps p r (addTo 0 (gradL ns ps q e.1 e.2) G p)
theorem compG_snoc (ns:List Nat) (q:Nat) (ps:List Int) (p:Nat) (e:List Int × List Int):∀ (l:List (List Int × List Int)) (G:List Int),compG ns q ps p (l++[e]) G=addTo 0 (gradL ns ps q e.1 e.2) (compG ns q ps p l G) p
 | [],_=>rfl
 | _::r,_=>by rw [List.cons_append,compG,compG_snoc ns q ps p e r];rfl
theorem compG_len (ns:List Nat) (q:Nat) (ps:List Int) (p:Nat):∀ (l:List (List Int × List Int)) (G:List Int),(compG ns q ps p l G).length=G.length
 | [],_=>rfl
 | _::r,_=>by rw [compG,compG_len ns q ps p r,addTo_len]
theorem compG_in (ns:List Nat) (q:Nat) (ps:List Int) (p:Nat):∀ (l:List (List Int × List Int)) (G:List Int),In64 G→In64 (compG ns q ps p l G)
 | [],_,h=>h
 | _::r,_,h=>compG_in ns q ps p r _ (addTo_in h p)
def Mc.micro (m:Mc) (n:Nat):List (List Int × List Int):=exAt m.f.xs (microL m.f.ds m.f.n m.f.c.ba m.t m.f.u m.f.c.k n m.f.c.mi)
theorem exAt_mem {l:List Ex} {js:List Nat} (hj:∀ j∈js,j<l.length):∀ e∈exAt l js,∃ x∈l,e=x.nums:=fun e he=>by
 obtain ⟨j,hjm,rfl⟩:=List.mem_map.1 he
 obtain ⟨x,hx⟩:=get_some l j (hj j hjm)
 exact ⟨x,List.mem_of_getElem? hx,by rw [hx];rfl⟩
set_option maxRecDepth 100000 in
theorem mcompute_any (w:World) (m:Mc) (R:List Ch) (h:Mem w (m.ps++R)) (ho:m.Ok) (x:It) (ht:m.t<m.f.c.st) (hxs:x.step=m.t) (hxn:x.n<m.f.c.mi) (vi vo:Value) :
  Calls Tryz.prog 199 #[.pointer (some ⟨m.f.g,0,none⟩),.agg x.cells.toArray,.agg #[vi,vo]] w fun e w'=>e=.returned (.int .i64 0)∧Mem w' (({ m with G:=compG m.f.ns m.f.c.sh m.P m.f.p (m.micro x.n) m.G }:Mc).ps++R):=by
 have hG:=ho.G.1
 have hp60:=ho.f.p
 have hsh:=ho.f.c.sh
 have hba:=ho.f.c.ba
 have hkk:=ho.f.c.k
 have hn1:=ho.f.n
 obtain ⟨na,nz,hna,hnz,hexs⟩:=ho.f.ex
 have hml:=microL_le (ds:=m.f.ds) (n:=m.f.n) (batch:=m.f.c.ba) (t:=m.t) ho.f.u hxn
 have hmlt:=microL_lt (ds:=m.f.ds) (n:=m.f.n) (batch:=m.f.c.ba) (t:=m.t) (u:=m.f.u) (k:=m.f.c.k) (a:=x.n) (mi:=m.f.c.mi) (by omega)
 have HMI:=K1 (show m.micro x.n=exAt m.f.xs (microL m.f.ds m.f.n m.f.c.ba m.t m.f.u m.f.c.k x.n m.f.c.mi) from rfl)
 have CN:=K1 (fun (W:World) (hF:FormAt W m.f.flo m.f.fhi m.f.gs m.f.ns) (hh:m.f.fhi≤W.heap.size) hr=>(netNew_any W m.f.flo m.f.fhi m.f.gs m.f.c.sh m.f.p m.cP m.f.ns (some ⟨m.gP,0,none⟩) m.P hF hh ho.f.ns hr ho.P.1 ho.f.pn hsh.2).mono fun e w' h=>(show ∃ gn,e=.returned (.tuple #[.pointer (some ⟨gn,0,none⟩),.bool true])∧NetAt w' W.heap.size w'.heap.size m.f.flo m.f.fhi gn m.f.gs m.f.c.sh m.f.ns m.P∧Below W.heap.size W w' by
  obtain ⟨gn,Ap,cp,As,Al,cl,ms,rfl,h1,h2,h3,h4,h5,h6⟩:=h
  exact ⟨gn,rfl,netAt_new hF hh ho.f.ns ho.P.1 ho.f.pn ho.P.2 hsh.2 h1 h2 h3 h4 h5 h6,h6.bel 0 rfl⟩))
 have CM:=K1 (fun (W:World) (hS:SampAt W m.f.slo m.f.shi m.f.gb m.f.n m.f.c.ba m.f.c.st m.f.ds) (hh:m.f.shi≤W.heap.size)=>micro_any W m.f.slo m.f.shi m.f.gb m.f.n m.f.c.ba m.f.c.st m.t m.f.u m.f.c.k x.n m.f.c.mi m.f.ds hS hh hn1.1 (by omega) ht ho.f.c.st ⟨ho.f.u,by omega⟩ ⟨hxn,ho.f.c.mi.2⟩)
 have CP:=K1 (fun (W:World) (B:Option Addr) (cb:Nat) hr hf hB=>dpick_any W m.f.Ax B m.f.n m.f.cx (microL m.f.ds m.f.n m.f.c.ba m.t m.f.u m.f.c.k x.n m.f.c.mi).length cb m.f.xs (microL m.f.ds m.f.n m.f.c.ba m.t m.f.u m.f.c.k x.n m.f.c.mi) hr hf hB ho.f.xs (by omega) (fun e he=>by
  have h1:=nsle ho.f.ns hna
  have h2:=nsle ho.f.ns hnz
  obtain ⟨e1,e2,_⟩:=hexs e he
  omega) rfl (by omega) hmlt)
 have CG:=K1 (fun (W:World) (gn nx cx ny cy:Nat) (X Y:Option Addr) (xs ys:List Int) (hN:NetIn W gn m.f.gs m.f.c.sh m.f.ns m.P) hX hx hnx h1 hY hy hny=>gradient_any W gn m.f.gs m.f.c.sh nx cx ny cy m.f.p m.f.ns X Y m.P xs ys hN hX hx hnx h1 hY hy hny ho.f.pn)
 have HEX:Hid (∀ e∈m.micro x.n,e.1.length=na∧e.2.length=nz∧In64 e.1):=K1 (fun e he=>by
  obtain ⟨z,hz,rfl⟩:=exAt_mem (fun j hj=>by rw [ho.f.xs];exact hmlt j hj) e he
  obtain ⟨e1,e2,e3,_⟩:=hexs z hz
  exact ⟨e1,e2,e3⟩)
 have HNA:=K1 (And.intro hna hnz)
 generalize hjs:microL m.f.ds m.f.n m.f.c.ba m.t m.f.u m.f.c.k x.n m.f.c.mi=js at *
 have HGl:=K1 (fun (l:List (List Int × List Int))=>(compG_len m.f.ns m.f.c.sh m.P m.f.p l m.G).trans hG)
 have HGs:=K1 (fun e l=>compG_snoc m.f.ns m.f.c.sh m.P m.f.p e l m.G)
 have HG0:=K1 (show compG m.f.ns m.f.c.sh m.P m.f.p [] m.G=m.G from rfl)
 have hm0:=((h.alloc (.cells x.cells.toArray 146)).fA.alloc (.cells #[vi,vo] 313)).fA
 simp only [World.size_alloc] at hm0
 have HM:=K1 hm0
 have hjl:js.length≤1000:=by omega
 have hpb:m.f.p≤60:=hp60.2
 clear hm0 h ho hG hjs hml hmlt hexs hna hnz hn1 hba hkk hsh hxn hp60
 obtain ⟨kd,st,n,ac⟩:=x
 dsimp only at *
 subst hxs
 go_enter Tryz.func199,Tryz.ntmps199
 go_wp2_with fail
 refine name_wp fun W0 hW=>?_
 replace HM:=K1 (hW.out.symm ▸ HM.out)
 clear hW
 refine wp_region_stage (.reads [0,1,2,3,4,5,6,7,8,9,10,11,12,13,14,15] (.eff 16 (.reads [17,18,19,20,21] .fin))) 22 (fun W'=>W'.cell? ⟨m.f.g,3,none⟩=some (.pointer (some ⟨m.f.gs,0,none⟩))∧W'.cell? ⟨m.f.g,11,none⟩=some (.slice (some ⟨m.gP,0,none⟩) m.f.p m.cP)∧W'.cell? ⟨m.f.g,10,none⟩=some (.int .i64 m.f.c.sh))
  (by kernel_rfl) (by kernel_rfl) (by intro d v c a w h;cases d <;> exact h) ?_
 replace HM:=K1 HM.out.drew
 generalize W0.drew=V at *
 refine PlS.reads_ (⟨blk_cells (HM.out.obj 0 rfl) 3,blk_cells (HM.out.obj 0 rfl) 11,blk_cells (HM.out.obj 0 rfl) 10⟩) (by kernel_rfl) ?_
 simp only [pickO,p1,p2,p3,p4]
 apply Exists.intro
 apply And.intro
 · intro W' hS
   obtain ⟨s1,s2,s3⟩:=hS
   repeat still_step
   exact wpStill_nil rfl
 refine PlS.eff_ ?_
 simp only [pickO,p1,p2,p3,p4]
 go_wp2_with fail
 have hfh:m.f.fhi≤V.heap.size:=st_lt (HM.out.holds 13 _ rfl) (HM.out.st 13 rfl).in_
 refine (CN.out _ (HM.out.st 13 rfl) hfh (rd_of_own (HM.out.own 2 rfl))).mono ?_
 rintro e w3 ⟨gn,rfl,hnet,hb⟩
 replace HM:=K1 ((HM.out.pushNet hb hnet (i:=13) rfl).fA)
 generalize V.heap.size=nlo at *
 generalize w3.heap.size=nhi at *
 clear hnet hb CN hfh
 go_wp2_with fail
 refine After.go (⟨blk_cells (HM.out.obj 0 rfl) 3,blk_cells (HM.out.obj 0 rfl) 11,blk_cells (HM.out.obj 0 rfl) 10⟩) ?_
 refine PlS.reads_ (⟨blk_cells (HM.out.obj 0 rfl) 3,blk_cells (HM.out.obj 0 rfl) 11,blk_cells (HM.out.obj 0 rfl) 10⟩) (by kernel_rfl) ?_
 simp only [pickO,p1,p2,p3,p4]
 apply Exists.intro
 apply And.intro
 · intro W' hS
   clear hS
   repeat still_step
   exact wpStill_nil rfl
 refine PlS.fin_ ?_
 go_wp2_with fail
 refine name_wp fun W4 hW=>?_
 replace HM:=K1 (hW.out.symm ▸ HM.out)
 clear hW
 refine wp_region_stage (.reads [0,1,2,3,4,5,6,7,8,9,10,11,12,13,14,15,16,17,18,19,20,21,22,23,24,25,26,27,28] (.eff 29 (.eff 30 (.reads [31,32,33,34,35] .fin)))) 36 (fun W'=>W'.cell? ⟨m.f.g,4,none⟩=some (.slice m.f.Ax m.f.n m.f.cx)∧W'.cell? ⟨m.f.g,5,none⟩=some (.pointer (some ⟨m.f.gb,0,none⟩))∧W'.cell? ⟨m.f.g,0,none⟩=some (.int .i64 m.f.u)∧W'.cell? ⟨m.f.g,1,none⟩=some (.int .i64 m.f.c.k)∧W'.cell? ⟨m.f.g,2,none⟩=some (.int .i64 m.f.c.mi)∧W'.cell? ⟨w.heap.size,1,none⟩=some (.int .i64 m.t)∧W'.cell? ⟨w.heap.size,2,none⟩=some (.int .i64 n))
  (by kernel_rfl) (by kernel_rfl) (by intro d v c a w h;cases d <;> exact h) ?_
 replace HM:=K1 HM.out.drew
 generalize W4.drew=V4 at *
 refine PlS.reads_ (⟨blk_cells (HM.out.obj 0 rfl) 4,blk_cells (HM.out.obj 0 rfl) 5,blk_cells (HM.out.obj 0 rfl) 0,blk_cells (HM.out.obj 0 rfl) 1,blk_cells (HM.out.obj 0 rfl) 2,HM.out.cells 14 rfl 1,HM.out.cells 14 rfl 2⟩) (by kernel_rfl) ?_
 simp only [pickO,p1,p2,p3,p4]
 apply Exists.intro
 apply And.intro
 · intro W' hS
   obtain ⟨s1,s2,s3,s4,s5,s6,s7⟩:=hS
   repeat still_step
   exact wpStill_nil rfl
 refine PlS.eff_ ?_
 simp only [pickO,p1,p2,p3,p4]
 go_wp2_with fail
 have hsh:m.f.shi≤V4.heap.size:=st_lt (HM.out.holds 12 _ rfl) (HM.out.st 12 rfl).in_
 refine (CM.out _ (HM.out.st 12 rfl) hsh).mono ?_
 rintro e w5 ⟨Aj,cj,rfl,hoj,hb⟩
 replace HM:=K1 ((HM.out.push_rd hb (rd_of_own hoj) (own_from_base hoj)).fA)
 clear hoj hb CM hsh
 go_wp2_with fail
 refine After.go (⟨blk_cells (HM.out.obj 0 rfl) 4,blk_cells (HM.out.obj 0 rfl) 5,blk_cells (HM.out.obj 0 rfl) 0,blk_cells (HM.out.obj 0 rfl) 1,blk_cells (HM.out.obj 0 rfl) 2,HM.out.cells 14 rfl 1,HM.out.cells 14 rfl 2⟩) ?_
 refine PlS.eff_ ?_
 simp only [pickO,p1,p2,p3,p4]
 go_wp2_with fail
 refine (CP.out _ _ _ (HM.out.rd 9 rfl) (HM.out.st 10 rfl) (HM.out.rd 17 rfl)).mono ?_
 rintro e w6 ⟨Ae,ce,es,rfl,hes,hef,hme⟩
 replace HM:=K1 ((((HM.out.join hme (fun c hc hm g hg=>by
  simp only [List.mem_cons,List.not_mem_nil,or_false] at hc
  rcases hc with rfl | rfl
  · exact absurd trivial hm
  · obtain ⟨a,ha,_,p,hp,rfl⟩:=hg
    exact hef a ha p hp)).fB.freeze (i:=18) rfl).fS rfl))
 rw [← HMI.out] at hes
 have HES:=K1 hes
 have hel:es.length=js.length:=by
  have h1:=congrArg List.length hes
  rw [HMI.out] at h1
  simpa [exAt] using h1
 have HEL:=K1 hel
 clear hes hef hme CP hel
 go_wp2_with fail
 refine After.go (⟨blk_cells (HM.out.obj 0 rfl) 4,blk_cells (HM.out.obj 0 rfl) 5,blk_cells (HM.out.obj 0 rfl) 0,blk_cells (HM.out.obj 0 rfl) 1,blk_cells (HM.out.obj 0 rfl) 2,HM.out.cells 14 rfl 1,HM.out.cells 14 rfl 2⟩) ?_
 refine PlS.reads_ (⟨blk_cells (HM.out.obj 0 rfl) 4,blk_cells (HM.out.obj 0 rfl) 5,blk_cells (HM.out.obj 0 rfl) 0,blk_cells (HM.out.obj 0 rfl) 1,blk_cells (HM.out.obj 0 rfl) 2,HM.out.cells 14 rfl 1,HM.out.cells 14 rfl 2⟩) (by kernel_rfl) ?_
 simp only [pickO,p1,p2,p3,p4]
 apply Exists.intro
 apply And.intro
 · intro W' hS
   clear hS
   repeat still_step
   exact wpStill_nil rfl
 refine PlS.fin_ ?_
 go_wp2_with fail
 have HM0:Hid (∃ W,W=w6∧Mem W ((({ m with G:=m.G }:Mc).ps++[.obj w.heap.size (.cells (It.cells ⟨kd,m.t,n,ac⟩).toArray 146 (0,0)),.obj (w.heap.size+1) (.cells #[vi,vo] 313 (0,0)),netCh nlo nhi m.f.flo m.f.fhi gn m.f.gs m.f.c.sh m.f.ns m.P,.rd Aj (iCells js),.rd Ae (exCells es),famCh (exFam es)])++R)):=K1 ⟨_,rfl,HM.out⟩
 go_loopw [71] (fun i wr=>∃ k:Nat,k≤js.length∧i=.int .i64 k∧Hid (Mem wr ((({ m with G:=compG m.f.ns m.f.c.sh m.P m.f.p ((m.micro n).take k) m.G }:Mc).ps++[.obj w.heap.size (.cells (It.cells ⟨kd,m.t,n,ac⟩).toArray 146 (0,0)),.obj (w.heap.size+1) (.cells #[vi,vo] 313 (0,0)),netCh nlo nhi m.f.flo m.f.fhi gn m.f.gs m.f.c.sh m.f.ns m.P,.rd Aj (iCells js),.rd Ae (exCells es),famCh (exFam es)])++R))) (fun i _=>js.length-(intOf i).toNat)
 case atStart =>
  refine ⟨0,Nat.zero_le _,rfl,K1 ?_⟩
  rw [List.take_zero,HG0.out]
  exact HM.out
 case round =>
  clear HM HM0
  obtain ⟨k,hk,rfl,HMk⟩:=hrel
  by_cases hlt:k<js.length
  · obtain ⟨e,he⟩:=get_some es k (by rw [HEL.out];exact hlt)
    have hem:=List.mem_of_getElem? he
    have hmk:(m.micro n)[k]?=some e.nums:=by rw [← HES.out,List.getElem?_map,he];rfl
    obtain ⟨b,off,rfl⟩:=HMk.out.rdA (i:=18) rfl (by rw [exCells_len,HEL.out];omega)
    have HX:=K1 (HEX.out _ (List.mem_of_getElem? hmk))
    have HT:=K1 (show (m.micro n).take (k+1)=(m.micro n).take k++[e.nums] by rw [List.take_add_one,hmk];rfl)
    have ⟨e3,e4⟩:=HMk.out.ex2 18 rfl he
    have HFm:=K1 (And.intro (exFam_x hem) (exFam_y hem))
    obtain ⟨ax,xs,cx,ay,ys,cy⟩:=e
    dsimp only [Ex.nums] at HX HT HFm e3 e4
    have HM1:=K1 ((HMk.out.alloc (.cells #[.slice ax xs.length cx,.slice ay ys.length cy] 140)).fA)
    have c20:=HM1.out.cells 20 rfl
    have HGk:=K1 (HGl.out ((m.micro n).take k))
    have HGn:=K1 (HGs.out (xs,ys) ((m.micro n).take k))
    dsimp only at HGn
    generalize hGk:compG m.f.ns m.f.c.sh m.P m.f.p ((m.micro n).take k) m.G=Gk at *
    clear HMk he hem hmk hGk
    go_wp2_with fail
    refine name_calls fun W0 hW0=>?_
    replace HM1:=K1 (HM1.out.inW hW0.out)
    clear hW0 e3 e4 c20
    refine (CG.out _ _ _ _ _ _ _ _ _ _ (HM1.out.st 16 rfl).in_ (HM1.out.st 19 rfl _ HFm.out.1) rfl (by rw [HX.out.1];exact HNA.out.1) HX.out.2.2 (HM1.out.st 19 rfl _ HFm.out.2) rfl (by rw [HX.out.2.1];exact HNA.out.2)).mono ?_
    rintro e w8 ⟨gz,rfl,hoz,hb⟩
    have HGL:=K1 (show (gradL m.f.ns m.P m.f.c.sh xs ys).length=m.f.p by have:=hoz.1;simpa using this)
    replace HM1:=K1 ((HM1.out.push_rd hb (rd_of_own hoz) (own_from_base hoz)).fA)
    clear hoz hb
    have c0:=(blk_cells (HM1.out.obj 0 rfl) 13).trans (show _=some (.slice (some ⟨m.gG,0,none⟩) m.f.p m.f.p) from rfl)
    go_wp2_with fail
    refine (vadd_any _ _ HM1.out 1 21 m.BG m.f.p m.f.p 0 m.f.p m.f.p m.f.p (some ⟨m.gG,0,none⟩) _ _ Gk (gradL m.f.ns m.P m.f.c.sh xs ys) rfl rfl ?_ ?_ HGk.out (fun _=>by rw [Option.map_some,add_none]) (Nat.le_refl _) (Nat.le_refl _) (by omega)).mono ?_
    · exact HGL.out
    · rw [HGk.out];omega
    rintro e w9 ⟨rfl,hm9⟩
    rw [← HGn.out] at hm9
    have HM2:=K1 (Mem.cast (hm9.fS rfl) (show _=((({ m with G:=compG m.f.ns m.f.c.sh m.P m.f.p ((m.micro n).take k++[(xs,ys)]) m.G }:Mc).ps++[.obj w.heap.size (.cells (It.cells ⟨kd,m.t,n,ac⟩).toArray 146 (0,0)),.obj (w.heap.size+1) (.cells #[vi,vo] 313 (0,0)),netCh nlo nhi m.f.flo m.f.fhi gn m.f.gs m.f.c.sh m.f.ns m.P,.rd Aj (iCells js),.rd (some ⟨b,off,none⟩) (exCells es),famCh (exFam es)])++[_,_])++R from rfl))
    clear hm9 HM1 c0
    go_wp2_with fail
    go_roundw
    case rel =>
     refine ⟨k+1,by omega,by go_num,K1 ?_⟩
     rw [HT.out]
     exact HM2.out.mid
    case measure=>simp [intOf];omega
  · have hkn:k=js.length:=by omega
    have HF:=K1 HMk.out
    clear HMk
    go_wp2_with fail
    go_ret
    refine ⟨rfl,?_⟩
    rw [List.take_of_length_le (by have h1:=congrArg List.length HES.out;rw [List.length_map,HEL.out] at h1;omega)] at HF
    exact HF.out.mid
theorem run_store_nf (P:Program) (w:World) (a:Addr) (m:Mode):(store a .nilFunc m).run P w=stored P w a .nilFunc m:=run_store P w a _ m rfl
attribute [local go_sem] run_store_fn run_store_nf
set_option maxRecDepth 100000 in
theorem doers_any (w:World) :
  Calls Tryz.prog 198 #[] w fun e w'=>e=.returned (.agg #[.nilFunc,.func (.func 199) #[] #[],.func (.func 200) #[] #[],.func (.func 201) #[] #[],.func (.func 202) #[] #[],.func (.func 203) #[] #[],.func (.func 204) #[] #[]])∧Below w.heap.size w w':=by
 have HF:=K1 ((Mem.start w).alloc (.cells #[.nilFunc,.func (.func 199) #[] #[],.func (.func 200) #[] #[],.func (.func 201) #[] #[],.func (.func 202) #[] #[],.func (.func 203) #[] #[],.func (.func 204) #[] #[]] 308))
 have c1:=HF.out.cells 1 rfl
 go_enter Tryz.func198,Tryz.ntmps198
 go_wp2_with fail
 refine bodyPost_ret (v:=.agg #[.nilFunc,.func (.func 199) #[] #[],.func (.func 200) #[] #[],.func (.func 201) #[] #[],.func (.func 202) #[] #[],.func (.func 203) #[] #[],.func (.func 204) #[] #[]]) ?_ rfl ⟨rfl,HF.out.bel 0 rfl⟩
 simp [results,Tryz.results198,go_sem,c1]
end Go.Proofs.YtdpojpcoghcieaaGreat
