/- A part of the proof of TopBound: Messages, PlanTotal, Progress, BoundP, TopN. Conditions: none. -/
import Derived.Test.YtdpojpcoghcieaaGreatBdBX
set_option maxHeartbeats 8000000
namespace Go.Proofs.YtdpojpcoghcieaaGreat
open Lib renaming hid → K1
open List renaming filterMap_cons → p1, filterMap_nil → p2, getElem?_cons_zero → p3, getElem?_cons_succ → p4
open Go.RowKit Go.Shelf
attribute [local go_sem] Oper.semAt_some
def onlyN (Q:Exit→Act→World→Prop):Exit→Act→World→Prop
 | .normal,a,w=>Q .normal a w
 | _,_,_=>False
theorem wp_region_stageN {P:Program} {l:List Oper} {Q:Exit→Act→World→Prop} {id:Nat} {a:Act} {w:World} (pl:Pl) (t:Nat) (S:World→Prop) (hm:P.follows .mixedOrders=true) (hB:stageB l pl t=true) (h:PlS P l (onlyN Q) pl t S a w.drew):(Code.region id l.toArray true).wp P Q a w :=
 Code.wp_mono (fun e a w hq=>by cases e <;> first | exact hq | exact hq.elim) (wp_region_stage pl t S hm hB (fun _ _ _ _ _ h=>h) h)
theorem wpIn_region_stageN {P:Program} {l:List Oper} {Q:Exit→Act→World→Prop} {id l0 n:Nat} {a:Act} {w:World} (pl:Pl) (t:Nat) (S:World→Prop) (hm:P.follows .mixedOrders=true) (hB:stageB l pl t=true) (hd:l.all (fun o=>!(o.op matches .defer _))=true) (h:PlS P l (onlyN Q) pl t S a w.drew):(Code.region id l.toArray true).wpIn (Fence.wide.inRound l0) n P Q a w :=
 wpIn_mono (wpIn_region_stage pl t S hm hB (fun _ _ _ _ _ h=>h) hd (fun ⟨_,_,h⟩=>h) h) (fun e a w hq=>by cases e <;> first | exact hq | exact hq.elim)
theorem PlS.finN {P:Program} {l:List Oper} {Q:Exit→Act→World→Prop} {t:Nat} {S:World→Prop} {a:Act} {w:World} (h:Q .normal a w):PlS P l (onlyN Q) .fin t S a w:=h
def cntTo (s:Nat) (rs:List (Nat × Nat)):Nat→Nat
 | 0=>0
 | k+1=>cntTo s rs k+pcnt ((rs[k]?.getD (0,0)).2-(rs[k]?.getD (0,0)).1) s
theorem cntTo_le {s m:Nat} {rs:List (Nat × Nat)} (h:∀ p∈rs,p.2≤m):∀ k,k≤rs.length→cntTo s rs k≤k*m
 | 0,_=>by simp [cntTo]
 | k+1,hk=>by
   obtain ⟨p,hp⟩:=get_some rs k (by omega)
   have h1:=cntTo_le (s:=s) h k (by omega)
   have h2:=pcnt_le (p.2-p.1) s
   have h3:=h p (List.mem_of_getElem? hp)
   rw [cntTo,hp,Nat.succ_mul]
   simp only [Option.getD_some]
   omega
def rngArgs (rs:List (Nat × Nat)) (k:Nat):Array Value:=#[.agg #[.int .i64 (rs[k]?.getD (0,0)).1,.int .i64 (rs[k]?.getD (0,0)).2]]
def latB (W:World) (Bl Bs Bb n cap by_:Nat) (A:Option Addr):Prop :=
 W.cell? ⟨Bl,0,none⟩=some (.slice A n cap)∧W.cell? ⟨Bs,0,none⟩=some (.func (.func 78) #[] #[.pointer (some ⟨Bb,0,none⟩)])∧W.cell? ⟨Bb,0,none⟩=some (.int .i64 by_)
theorem lat_local {W:World} {Bl Bs Bb n cap by_:Nat} {A:Option Addr} (h:latB W Bl Bs Bb n cap by_ A):(Ch.st (fun g=>g=Bl∨g=Bs∨g=Bb) (fun W=>latB W Bl Bs Bb n cap by_ A)).Holds W :=
 ⟨h,fun g hg=>by
  rcases hg with rfl | rfl | rfl
  · exact World.block_lt_of_cell? W _ h.1
  · exact World.block_lt_of_cell? W _ h.2.1
  · exact World.block_lt_of_cell? W _ h.2.2,fun W1 W2 _ hk h1 =>
  ⟨(World.cell?_of_block (w:=W1) (w':=W2) (a:=⟨Bl,0,none⟩) (hk Bl (.inl rfl))).trans h1.1,(World.cell?_of_block (w:=W1) (w':=W2) (a:=⟨Bs,0,none⟩) (hk Bs (.inr (.inl rfl)))).trans h1.2.1,(World.cell?_of_block (w:=W1) (w':=W2) (a:=⟨Bb,0,none⟩) (hk Bb (.inr (.inr rfl)))).trans h1.2.2⟩⟩
def msgL (w:World) (Bl Bs Bb g5 g7 lo s cap:Nat) (A:Option Addr) (ev:List (Nat × Nat)) (k:Nat):List Ch :=
 [.bel w.heap.size w,.rd A (rcells ev),.st (fun g=>g=Bl∨g=Bs∨g=Bb) (fun W=>latB W Bl Bs Bb ev.length cap lo A),.obj g5 (.cells #[.int .i64 s] 3 (0,0)),.obj g7 (.cells #[.int .i64 (cntTo s (shiftL lo ev) k:Nat)] 3 (0,0))]
set_option maxRecDepth 100000 in
theorem messages_any (w:World) (lo hi wk s:Nat) (hlo:lo≤hi) (hhi:hi≤1000) (hk:1≤wk∧wk≤1000) (hs:1≤s∧s≤1048576) :
  Calls Tryz.prog 15 #[.agg #[.int .i64 lo,.int .i64 hi],.int .i64 wk,.int .i64 s] w fun e w'=>e=.returned (.int .i64 (cntTo s (shiftL lo (evenL (hi-lo) wk)) wk:Nat))∧Below w.heap.size w w':=by
 have CS:=K1 (fun W=>psize_any lo hi W hlo (by omega))
 have CE:=K1 (fun W=>even_any (hi-lo) wk W (by omega) hk)
 have hm:=((Mem.start w).alloc (.cells #[.int .i64 lo,.int .i64 hi] 47)).alloc (.cells #[.int .i64 s] 3) |>.alloc (.cells #[.int .i64 0] 3)
 simp only [World.size_alloc] at hm
 have HM:=K1 hm
 have HEV:=K1 (And.intro (even_len (hi-lo) wk) (And.intro (even_le (hi-lo) wk hk.1) (show ∀ p∈evenL (hi-lo) wk,p.1≤p.2 from fun p hp=>by
  obtain ⟨i,_,rfl⟩:=List.mem_map.1 hp
  exact bnd_mono _ _ _)))
 have HSB:Hid (∀ p∈shiftL lo (evenL (hi-lo) wk),p.2≤2000):=K1 (fun p hp=>by
  obtain ⟨q,hq,rfl⟩:=List.mem_map.1 hp
  have:=(even_le (hi-lo) wk hk.1 q hq).2
  dsimp only;omega)
 generalize evenL (hi-lo) wk=ev at *
 generalize hd:hi-lo=d at *
 have hd1000:d≤1000:=by omega
 clear hm hd
 refine (callsIn_wide (n:=5)).1 ?_
 refine callsIn_of_wp_marks Tryz.func15 rfl trivial ?_ rfl
 simp only [Tryz.ntmps15,List.size_toArray,List.length_cons,List.length_nil,Nat.reduceAdd,Nat.reduceSub,Array.replicate_succ,Array.replicate_zero,List.push_toArray,List.append_toArray,List.nil_append,List.cons_append]
 gi_wp2_with fail
 refine wpIn_wide.2 ?_
 refine name_wp fun W0 hW0=>?_
 replace HM:=K1 (hW0.out.symm ▸ HM.out)
 clear hW0
 refine wp_region_stageN (.reads [0,2,4,5] (.eff 1 (.eff 3 (.eff 6 (.fin))))) 7 (fun W'=>∀ i,W'.cell? ⟨w.heap.size,i,none⟩=([.int .i64 lo,.int .i64 hi]:List Value)[i]?)
  (by kernel_rfl) (by kernel_rfl) ?_
 replace HM:=K1 HM.out.drew
 generalize W0.drew=V at *
 refine PlS.reads_ (HM.out.cells 1 rfl) (by kernel_rfl) ?_
 simp only [pickO,p1,p2,p3,p4]
 apply Exists.intro
 apply And.intro
 · intro W' hS
   repeat still_step
   exact wpStill_nil rfl
 refine PlS.eff_ ?_
 simp only [pickO,p1,p2,p3,p4]
 go_wp2_with fail
 refine (CS.out _).mono ?_
 rintro e w1 ⟨rfl,hw1⟩
 have HM:=K1 (HM.out.below (hw1 ▸ (Below.refl V.heap.size V).alloc (Nat.le_refl _) _))
 clear hw1
 go_wp2_with fail
 refine After.go (HM.out.cells 1 rfl) ?_
 refine PlS.eff_ ?_
 simp only [pickO,p1,p2,p3,p4]
 go_wp2_with fail
 refine (CE.out _).mono ?_
 rintro e w2 ⟨v,rfl,hv,hb⟩
 obtain ⟨A,cap,rfl⟩:=own_slice hv
 have HM2:=K1 (HM.out.push_rd hb (OwnR.rd hv).1 (own_from_base hv))
 clear hb hv
 go_wp2_with fail
 refine After.go (HM2.out.cells 1 rfl) ?_
 refine PlS.eff_ ?_
 simp only [pickO,p1,p2,p3,p4]
 go_wp2_with fail
 refine (laterAt_any A ev.length cap lo ev _ rfl (HM2.out.rd 4 rfl)).mono ?_
 rintro e w3 ⟨Bl,Bs,Bb,rfl,hat,hb3,hl1,hl2,hl3⟩
 have HM3:=K1 (HM2.out.push (c:=.st (fun g=>g=Bl∨g=Bs∨g=Bb) (fun W=>latB W Bl Bs Bb ev.length cap lo A)) hb3 (lat_local ⟨hat.l,hat.s,hat.b⟩) (fun g hg=>by rcases hg with rfl | rfl | rfl <;> assumption))
 clear hat hb3 hl1 hl2 hl3
 go_wp2_with fail
 refine After.go (HM3.out.cells 1 rfl) (PlS.finN ?_)
 apply_assumption
 have HM4:=K1 (HM3.out.pick [0,4,5,2,3] (msgL w Bl Bs Bb (w.heap.size+1) (w.heap.size+1+1) lo s cap A ev 0) rfl (by decide))
 clear HM3 HM2 HM
 gi_wp2_with fail
 refine wpIn_range_mem rfl (fun _ _=>by go_simp) (fun k L=>L=msgL w Bl Bs Bb (w.heap.size+1) (w.heap.size+1+1) lo s cap A ev k) wk (rngArgs (shiftL lo ev)) ⟨_,rfl,HM4.out⟩ (fun _=>rfl) ?_ ?_ ?_
 · intro l J hE hJ hY W h0
   have hat:∀ k W,J k W→LaterAt W Bl Bs Bb A ev cap lo:=fun k W h=>by
    obtain ⟨L,M,rfl,hM⟩:=hE k W h
    have h2:=hM.st 2 rfl
    exact ⟨h2.1,h2.2.1,h2.2.2,hM.rd 1 rfl⟩
   refine (later2_in _ l Bl Bs Bb cap lo A ev (by rw [HEV.out.1];omega) (fun p hp=>⟨by have:=(HEV.out.2.1 p hp).1;omega,by have:=(HEV.out.2.1 p hp).2;omega⟩) (by omega) (fun pre=>J pre.length) (fun pre W h=>hat _ W h) (fun pre W W' h hb=>hJ _ W W' h hb) (fun pre x y W h hlt hxy=>?_) W h0).mono (fun e W' h=>⟨h.1,by have:=h.2;rwa [shift_len,HEV.out.1] at this⟩)
   have:=hY pre.length W (by rw [← HEV.out.1];exact hlt) h
   unfold rngArgs at this
   rw [hxy] at this
   simpa using this
 · rintro k D l o L W hk' rfl hM
   have HM:=K1 hM
   clear hM HM4
   obtain ⟨q,hq⟩:=get_some ev k (by rw [HEV.out.1];exact hk')
   have hqo:=HEV.out.2.2 q (List.mem_of_getElem? hq)
   have hqb:=(HEV.out.2.1 q (List.mem_of_getElem? hq)).2
   obtain ⟨x,hx⟩:∃ x,x=q.1+lo:=⟨_,rfl⟩
   obtain ⟨y,hy⟩:∃ y,y=q.2+lo:=⟨_,rfl⟩
   have hp:(shiftL lo ev)[k]?=some (x,y):=by rw [shiftL,List.getElem?_map,hq,hx,hy];rfl
   have hxy:x≤y:=by omega
   have hy2:y≤2000:=by omega
   have HTS:=K1 (show cntTo s (shiftL lo ev) (k+1)=cntTo s (shiftL lo ev) k+pcnt (y-x) s by rw [cntTo,hp];rfl)
   have hcl:=cntTo_le (s:=s) (m:=2000) HSB.out k (by rw [shift_len,HEV.out.1];omega)
   have hpl:=pcnt_le (y-x) s
   have CZ:=K1 (fun W=>psize_any x y W hxy (by omega))
   have CT:=K1 (fun W=>pcount_any (y-x) s W (by omega) hs)
   obtain ⟨t1,ht1⟩:∃ t1,t1=cntTo s (shiftL lo ev) (k+1):=⟨_,rfl⟩
   have HT1:=K1 ht1
   rw [← ht1] at HTS
   generalize ht0:cntTo s (shiftL lo ev) k=t0 at *
   have HT0:=K1 ht0
   clear ht0
   generalize pcnt (y-x) s=c at *
   generalize hdd:y-x=dd at *
   have hti:(t0:Int)+(c:Int)=(t1:Int):=by have:=HTS.out;omega
   have ht1b:t1≤1000000000:=by have:=HTS.out;omega
   have wt1:IntKind.i64.wrap (t1:Int)=(t1:Int):=IntWalk.i64_in _ (by omega)
   unfold rngArgs
   rw [hp]
   clear hq hqo hqb hx hy hp hcl hpl ht1 hdd
   simp only [Option.getD_some,List.zip_toArray,List.zip_cons_cons,List.zip_nil_left]
   gi_wp2_with fail
   refine ⟨[_],HM.out.alloc _,fun o' w2 hM2=>?_⟩
   unfold msgL at hM2
   rw [HT0.out] at hM2
   have HM2:=K1 hM2
   clear hM2 HM
   generalize W.heap.size=g8 at *
   gi_wp2_with fail
   refine wpIn_region_stageN (.reads [0,1,3] (.eff 2 (.eff 4 (.reads [5] (.eff 6 (.fin)))))) 6 (fun W'=>W'.cell? ⟨w.heap.size+1+1,0,none⟩=some (.int .i64 t0)∧(∀ i,W'.cell? ⟨g8,i,none⟩=([.int .i64 x,.int .i64 y]:List Value)[i]?)∧W'.cell? ⟨w.heap.size+1,0,none⟩=some (.int .i64 s))
    (by kernel_rfl) (by kernel_rfl) (by decide) ?_
   replace HM2:=K1 HM2.out.drew
   refine PlS.reads_ ⟨HM2.out.cell 4 0 rfl rfl,HM2.out.cells 7 rfl,HM2.out.cell 3 0 rfl rfl⟩ (by kernel_rfl) ?_
   simp only [pickO,p1,p2,p3,p4]
   apply Exists.intro
   apply And.intro
   · intro W' hS
     obtain ⟨s1,s2,s3⟩:=hS
     repeat still_step
     exact wpStill_nil rfl
   refine PlS.eff_ ?_
   simp only [pickO,p1,p2,p3,p4]
   go_wp2_with fail
   refine (CZ.out _).mono ?_
   rintro e w3 ⟨rfl,hw3⟩
   have HM3:=K1 (HM2.out.below (hw3 ▸ (Below.refl _ _).alloc (Nat.le_refl _) _))
   clear hw3 HM2 CZ
   go_wp2_with fail
   refine After.go ⟨HM3.out.cell 4 0 rfl rfl,HM3.out.cells 7 rfl,HM3.out.cell 3 0 rfl rfl⟩ ?_
   refine PlS.eff_ ?_
   simp only [pickO,p1,p2,p3,p4]
   go_wp2_with fail
   refine (CT.out _).mono ?_
   rintro e w4 ⟨rfl,rfl⟩
   go_wp2_with fail
   refine After.go ⟨HM3.out.cell 4 0 rfl rfl,HM3.out.cells 7 rfl,HM3.out.cell 3 0 rfl rfl⟩ ?_
   refine PlS.reads_ ⟨HM3.out.cell 4 0 rfl rfl,HM3.out.cells 7 rfl,HM3.out.cell 3 0 rfl rfl⟩ (by kernel_rfl) ?_
   simp only [pickO,p1,p2,p3,p4]
   apply Exists.intro
   apply And.intro
   · intro W' hS
     repeat still_step
     exact wpStill_nil rfl
   refine PlS.eff_ ?_
   simp only [pickO,p1,p2,p3,p4]
   have c4:=HM3.out.cell 4 0 rfl rfl
   have f4:=HM3.out.frozen 4 0 rfl
   have HM4:=K1 (HM3.out.set (i:=4) (j:=0) rfl (.int .i64 t1))
   clear HM3
   go_wp2_with fail
   refine After.last (by decide) (PlS.finN ?_)
   clear c4 f4
   have e5:msgL w Bl Bs Bb (w.heap.size+1) (w.heap.size+1+1) lo s cap A ev (k+1)=[.bel w.heap.size w,.rd A (rcells ev),.st (fun g=>g=Bl∨g=Bs∨g=Bb) (fun W=>latB W Bl Bs Bb ev.length cap lo A),.obj (w.heap.size+1) (.cells #[.int .i64 s] 3 (0,0)),.obj (w.heap.size+1+1) (.cells #[.int .i64 t1] 3 (0,0))]:=by unfold msgL;rw [← HT1.out]
   refine ⟨_,[.obj g8 (.cells #[.int .i64 x,.int .i64 y] 47 (0,0))],rfl,?_⟩
   rw [e5]
   exact HM4.out
 · rintro D l o L W rfl hM
   have HM:=K1 hM
   clear hM HM4
   have c0:=HM.out.cell 4 0 rfl rfl
   have HLE:=K1 (show cntTo s (shiftL lo ev) wk≤1000000000 from by have:=cntTo_le (s:=s) (m:=2000) HSB.out wk (by rw [shift_len,HEV.out.1];omega);omega)
   generalize ht:cntTo s (shiftL lo ev) wk=tot at *
   have HTO:=K1 ht
   clear ht
   gi_wp2_with fail
   refine ⟨by simp,.inl ⟨_,_,rfl,run_takeDeferred (HM.out.obj 5 rfl),?_⟩⟩
   have hF:=HM.out.put (i:=5) rfl (.deferred none)
   exact ⟨_,results_tmp rfl _ _ _,by rw [HTO.out];rfl,hF.bel 0 rfl⟩
end Go.Proofs.YtdpojpcoghcieaaGreat
namespace Go.Proofs.YtdpojpcoghcieaaGreat
open Lib renaming hid → K1
open List renaming filterMap_cons → p1, filterMap_nil → p2, getElem?_cons_zero → p3, getElem?_cons_succ → p4
open Go.RowKit
set_option maxRecDepth 100000 in
theorem planTotal_any (w:World) (lo hi gp:Nat) (c:Kf) (p:Nat) (h:PlanAt w lo hi gp c p) (hh:hi≤w.heap.size) (hc:c.Ok) (hp:p≤60) :
  Calls Tryz.prog 81 #[.pointer (some ⟨gp,0,none⟩)] w fun e w'=>(∃ z:Int,e=.returned (.int .i64 z))∧Below w.heap.size w w':=by
 obtain ⟨As,ns,cs,Ab,cb,Ag,cg,Al,cl,h1,h2,h3,h4,h5,h6,h7⟩:=h.cells hh
 have hlen:=(plBs_ok hc hp).2.1
 have HC:Hid (∀ W,Below w.heap.size w W→∀ j,W.cell? ⟨gp,j,none⟩=([.slice As ns cs,.int .i64 c.sh,.int .i64 c.ra,.int .i64 c.mo,.int .i64 c.k,.int .i64 c.ba,.int .i64 c.mi,.int .i64 c.st,.int .i64 c.bu,.int .i64 c.s,.int .i64 c.wi,.int .i64 c.ca,.slice Ab (plBs c p).length cb,.slice Ag (plGs c p).length cg,.slice Al c.k cl]:List Value)[j]?):=K1 (fun W hb j=>by
  have hgp:gp<w.heap.size:=by have:=h.in_;omega
  rw [← h1 j]
  exact hb.cell hgp)
 have HR:=K1 (fun (W:World) (hb:Below w.heap.size w W)=>(h2.below hb))
 have CM:=K1 (fun (W:World) (x y:Nat) (hxy:(x,y)∈plBs c p)=>messages_any W x y c.k c.s (Nat.le_of_lt (plBs_lt hc _ hxy).1) (by have:=(plBs_lt hc _ hxy).2;dsimp only at this;omega) ⟨hc.k.1,by have:=hc.k.2;omega⟩ hc.s)
 have HBS:=K1 (Eq.refl (plBs c p))
 generalize hbs:plBs c p=bs at *
 have HBL:=K1 (show ∀ j,j<bs.length→∃ q,bs[j]?=some q from fun j hj=>get_some bs j hj)
 obtain ⟨nb,hnb⟩:∃ nb,nb=bs.length:=⟨_,rfl⟩
 obtain ⟨ng,hng⟩:∃ ng,ng=(plGs c p).length:=⟨_,rfl⟩
 rw [← hnb] at HC HBL hlen
 rw [← hng] at HC
 have HNB:=K1 hnb
 have hnb60:nb≤60:=hlen
 have hk1:=hc.k.1
 have hk8:=hc.k.2
 have hmi:=hc.mi.2
 obtain ⟨n2,hn2⟩:∃ n2,n2=2*nb:=⟨_,rfl⟩
 obtain ⟨n3,hn3⟩:∃ n3,n3=c.mi+n2:=⟨_,rfl⟩
 obtain ⟨n4,hn4⟩:∃ n4,n4=n3+1:=⟨_,rfl⟩
 obtain ⟨n5,hn5⟩:∃ n5,n5=c.k*n4:=⟨_,rfl⟩
 obtain ⟨km,hkm⟩:∃ km,km=c.k-1:=⟨_,rfl⟩
 obtain ⟨k4,hk4⟩:∃ k4,k4=4*km:=⟨_,rfl⟩
 have i2:(2:Int)*(nb:Int)=(n2:Int):=by omega
 have i3:(c.mi:Int)+(n2:Int)=(n3:Int):=by omega
 have i4:(n3:Int)+1=(n4:Int):=by omega
 have i5:(c.k:Int)*(n4:Int)=(n5:Int):=by rw [hn5];exact (Int.natCast_mul _ _).symm
 have ikm:(c.k:Int)-1=(km:Int):=by omega
 have ik4:(4:Int)*(km:Int)=(k4:Int):=by omega
 have b5:n5≤8*2000:=by rw [hn5];exact Nat.mul_le_mul hk8 (by omega)
 have w2_:IntKind.i64.wrap (n2:Int)=(n2:Int):=IntWalk.i64_in _ (by omega)
 have w3_:IntKind.i64.wrap (n3:Int)=(n3:Int):=IntWalk.i64_in _ (by omega)
 have w4_:IntKind.i64.wrap (n4:Int)=(n4:Int):=IntWalk.i64_in _ (by omega)
 have w5_:IntKind.i64.wrap (n5:Int)=(n5:Int):=IntWalk.i64_in _ (by omega)
 have wkm:IntKind.i64.wrap (km:Int)=(km:Int):=IntWalk.i64_in _ (by omega)
 have wk4:IntKind.i64.wrap (k4:Int)=(k4:Int):=IntWalk.i64_in _ (by omega)
 clear hn2 hn3 hn4 hn5 hkm hk4
 have c0:=HC.out w (Below.refl _ _)
 have HB:=K1 (Below.refl w.heap.size w)
 clear h h1 h2 h3 h4 h5 h6 h7 hh hc hp hlen hnb hng hbs HBS
 go_enter Tryz.func81,Tryz.ntmps81
 go_wp2_with fail
 refine wp_region_stage (.reads [0,1,2,3,4,5,6,7,8,9,10,11,12,13,14,15,16,17,18,19,20,21,22] .fin) 23 (fun W'=>∀ j,W'.cell? ⟨gp,j,none⟩=([.slice As ns cs,.int .i64 c.sh,.int .i64 c.ra,.int .i64 c.mo,.int .i64 c.k,.int .i64 c.ba,.int .i64 c.mi,.int .i64 c.st,.int .i64 c.bu,.int .i64 c.s,.int .i64 c.wi,.int .i64 c.ca,.slice Ab nb cb,.slice Ag ng cg,.slice Al c.k cl]:List Value)[j]?)
  (by kernel_rfl) (by kernel_rfl) (by intro d v c a w h;cases d <;> exact h) ?_
 replace HB:=K1 HB.out.drew
 generalize w.drew=V at *
 refine PlS.reads_ (HC.out _ HB.out) (by kernel_rfl) ?_
 simp only [pickO,p1,p2,p3,p4]
 apply Exists.intro
 apply And.intro
 · intro W' hS
   repeat still_step
   exact wpStill_nil rfl
 refine PlS.fin_ ?_
 clear c0
 have c0:=HC.out _ HB.out
 go_wp2_with fail
 go_loopw [3,36] (fun s3 s36 wr=>∃ (j:Nat) (z:Int),j≤nb∧s3=.int .i64 z∧s36=.int .i64 j∧Hid (Below w.heap.size w wr)) (fun _ s36 _=>nb-(intOf s36).toNat)
 case atStart=>exact ⟨0,_,Nat.zero_le _,rfl,rfl,HB⟩
 case round =>
  clear HB c0
  obtain ⟨j,z,hj,rfl,rfl,HB⟩:=hrel
  have c0:=HC.out _ HB.out
  by_cases hlt:j<nb
  · obtain ⟨⟨x,y⟩,hq⟩:=HBL.out j hlt
    obtain ⟨bb,bo,hA,_,hx⟩:=RdR.at_ (HR.out _ HB.out) (by have:=HNB.out;omega)
    subst hA
    have ⟨k1,k2⟩:=hx j (x,y) hq
    have CMx:=K1 (fun W=>CM.out W x y (List.mem_of_getElem? hq))
    have HM:=K1 (((Mem.start wr).alloc (.cells #[.int .i64 x,.int .i64 y] 47)))
    clear hx hq CM
    go_wp2_with fail
    refine name_wp fun W0 hW=>?_
    replace HM:=K1 (HM.out.inW hW.out)
    clear hW c0 k1 k2
    refine wp_region_stage (.reads [0,1,2,3,4,5,6,7,8,9,10,11,12,13,14,15,16,17,18,19,20,21] (.eff 22 (.reads [23,24,25] .fin))) 26 (fun W'=>(∀ j,W'.cell? ⟨gp,j,none⟩=([.slice As ns cs,.int .i64 c.sh,.int .i64 c.ra,.int .i64 c.mo,.int .i64 c.k,.int .i64 c.ba,.int .i64 c.mi,.int .i64 c.st,.int .i64 c.bu,.int .i64 c.s,.int .i64 c.wi,.int .i64 c.ca,.slice (some ⟨bb,bo,none⟩) nb cb,.slice Ag ng cg,.slice Al c.k cl]:List Value)[j]?)∧(∀ j,W'.cell? ⟨wr.heap.size,j,none⟩=([.int .i64 x,.int .i64 y]:List Value)[j]?))
     (by kernel_rfl) (by kernel_rfl) (by intro d v c a w h;cases d <;> exact h) ?_
    replace HM:=K1 HM.out.drew
    generalize W0.drew=V0 at *
    refine PlS.reads_ ⟨HC.out _ (HB.out.trans ((HM.out.bel 0 rfl).mono HB.out.size)),HM.out.cells 1 rfl⟩ (by kernel_rfl) ?_
    simp only [pickO,p1,p2,p3,p4]
    apply Exists.intro
    apply And.intro
    · intro W' hS
      obtain ⟨s1,s2⟩:=hS
      repeat still_step
      exact wpStill_nil rfl
    refine PlS.eff_ ?_
    simp only [pickO,p1,p2,p3,p4]
    go_wp2_with fail
    refine (CMx.out _).mono ?_
    rintro e w2 ⟨rfl,hb2⟩
    replace HM:=K1 (HM.out.below hb2)
    clear hb2 CMx
    go_wp2_with fail
    refine After.go ⟨HC.out _ (HB.out.trans ((HM.out.bel 0 rfl).mono HB.out.size)),HM.out.cells 1 rfl⟩ ?_
    refine PlS.reads_ ⟨HC.out _ (HB.out.trans ((HM.out.bel 0 rfl).mono HB.out.size)),HM.out.cells 1 rfl⟩ (by kernel_rfl) ?_
    simp only [pickO,p1,p2,p3,p4]
    apply Exists.intro
    apply And.intro
    · intro W' hS
      clear hS
      repeat still_step
      exact wpStill_nil rfl
    refine PlS.fin_ ?_
    go_wp2_with fail
    go_roundw
    case rel =>
     exact ⟨j+1,_,by omega,rfl,by go_num,K1 (HB.out.trans ((HM.out.bel 0 rfl).mono HB.out.size))⟩
    case measure=>simp [intOf];omega
  · have hjn:j=nb:=by omega
    go_wp2_with fail
    go_ret
    exact ⟨⟨_,rfl⟩,HB.out⟩
set_option maxRecDepth 100000 in
theorem steps_any (w:World) (i:Inp) (hi:i.Ok) (ha:i.At w) :
  Calls Tryz.prog 45 #[.agg #[.slice i.A i.r.ns.length i.cap,.int .i64 i.r.c.sh,.int .i64 i.r.c.ra,.int .i64 i.r.c.mo,.int .i64 i.r.c.k,.int .i64 i.r.c.ba,.int .i64 i.r.c.mi,.int .i64 i.r.c.st,.int .i64 i.r.c.bu,.int .i64 i.r.c.s,.int .i64 i.r.c.wi,.int .i64 i.r.c.ca],.int .i64 i.r.p] w fun e w'=>(∃ z:Int,e=.returned (.int .i64 z))∧Below w.heap.size w w':=by
 have CP:Hid (∀ W,Below w.heap.size w W→Calls Tryz.prog 64 #[.agg #[.slice i.A i.r.ns.length i.cap,.int .i64 i.r.c.sh,.int .i64 i.r.c.ra,.int .i64 i.r.c.mo,.int .i64 i.r.c.k,.int .i64 i.r.c.ba,.int .i64 i.r.c.mi,.int .i64 i.r.c.st,.int .i64 i.r.c.bu,.int .i64 i.r.c.s,.int .i64 i.r.c.wi,.int .i64 i.r.c.ca],.int .i64 i.r.p] W fun e w'=>∃ gp,e=.returned (.tuple #[.pointer (some ⟨gp,0,none⟩),.bool true])∧PlanAt w' W.heap.size w'.heap.size gp i.r.c i.r.p∧Below W.heap.size W w'):=K1 (fun W hb=>by
  have h2:=planNew_any i.r.c hi.c (castL i.r.ns) i.A i.cap i.r.p hi.p W (ha.below hb).ns (by simpa using hi.cap) (by have:=hi.ns.len;simp;omega) hi.conf
  simp only [List.length_map] at h2
  exact h2)
 have HI:=K1 hi
 have HM:=K1 ((Mem.start w).alloc (.cells #[.slice i.A i.r.ns.length i.cap,.int .i64 i.r.c.sh,.int .i64 i.r.c.ra,.int .i64 i.r.c.mo,.int .i64 i.r.c.k,.int .i64 i.r.c.ba,.int .i64 i.r.c.mi,.int .i64 i.r.c.st,.int .i64 i.r.c.bu,.int .i64 i.r.c.s,.int .i64 i.r.c.wi,.int .i64 i.r.c.ca] 24))
 have c1:=HM.out.cells 1 rfl
 clear hi ha
 go_enter Tryz.func45,Tryz.ntmps45
 go_wp2_with fail
 refine (CP.out _ (HM.out.bel 0 rfl)).mono ?_
 rintro e w1 ⟨gp,rfl,hP,hb⟩
 replace HM:=K1 (HM.out.below hb)
 have CT:=K1 (planTotal_any w1 _ _ gp i.r.c i.r.p hP (Nat.le_refl _) HI.out.c HI.out.p.2)
 clear hb hP CP c1
 go_wp2_with fail
 refine CT.out.mono ?_
 rintro e w2 ⟨⟨z,rfl⟩,hb⟩
 replace HM:=K1 (HM.out.below hb)
 clear hb CT
 go_wp2_with fail
 go_ret
 exact ⟨⟨z,rfl⟩,HM.out.bel 0 rfl⟩
def ProgR (i:Inp) (zs:List Int) (n:Nat) (b:Bool):Prop:=∃ x0 x':Wv,x0.Ok i.r∧x0.count=0∧(∀ m∈x0.ms,m.abs=iniA i)∧(∀ l∈x0.ls,l.q=[])∧RunR i.r x0 zs n x'∧x'.Ok i.r∧(b=true↔∀ m∈x'.ms,i.r.c.st≤m.t)
set_option maxRecDepth 100000 in
theorem progress_any (w:World) (i:Inp) (hi:i.Ok) (ha:i.At w) (A:Option Addr) (cap len:Nat) (zs:List Int) (hA:Rd w w.heap.size A (zC zs)) (hlen:zs.length=len) (hl:len≤100000) :
  Calls Tryz.prog 16 #[.agg i.cells.toArray,.slice A len cap] w fun e w'=>(∃ (n:Nat) (z:Int) (b:Bool),e=.returned (.tuple #[.agg #[.int .i64 n,.int .i64 z,.int .i64 (len-n:Nat),.bool b],.int .i64 0])∧n≤len∧ProgR i zs n b)∧Below w.heap.size w w':=by
 have CS:=K1 (fun W (hb:Below w.heap.size w W)=>snew_any W i hi (ha.below hb))
 have CB:=K1 (fun W (hb:Below w.heap.size w W)=>steps_any W i hi (ha.below hb))
 have HA:=K1 (fun W (hb:Below w.heap.size w W)=>((hA.below hb).more hb.size:Rd W W.heap.size A (zC zs)))
 have hm0:=((Mem.start w).alloc (.cells i.cells.toArray 29)).alloc (.cells #[.int .i64 0,.int .i64 0,.int .i64 0,.bool false] 50)
 simp only [World.size_alloc] at hm0
 have HM:=K1 hm0
 have HL:=K1 hlen
 dsimp only [Inp.cells] at *
 clear hi ha hA hm0 hlen
 go_enter Tryz.func16,Tryz.ntmps16
 have c1:=HM.out.cells 1 rfl
 go_wp2_with fail
 refine name_calls fun W0 hW=>?_
 replace HM:=K1 (HM.out.inW hW.out)
 clear hW c1
 refine (CS.out _ (HM.out.bel 0 rfl)).mono ?_
 rintro e w1 ⟨x,rfl,hx1,hx2,hx3,hx4,hm1⟩
 have hbw:=hm1.bel x.ps.length at_mid
 have hm2:Mem w1 (x.ps++(.rd A (zC zs)::[.bel W0.heap.size W0])):=by
  have h1:=hm1.add_rd (i:=x.ps.length) at_mid (HA.out W0 (HM.out.bel 0 rfl))
  exact h1.perm (by rw [List.append_assoc];exact List.Perm.append_left _ (List.Perm.swap ..))
 have CR:=K1 (run_any w1 x i.r _ A cap zs len HL.out hm2 hx1 (by omega))
 have HX:=K1 (And.intro hx1 (And.intro hx2 (And.intro hx3 hx4)))
 clear hm1 hm2 hbw hx1 hx2 hx3 hx4 CS
 go_wp2_with fail
 refine CR.out.mono ?_
 rintro e w2 ⟨n,x',rfl,hx1,hg,hR,hm2⟩
 have hb2:Below W0.heap.size W0 w2:=hm2.bel (x'.ps.length+1) (by simp)
 have HM2:=K1 (HM.out.below hb2)
 have hnl:n≤len:=by rw [← HL.out];exact (RunR.count _ hR).2
 have CD:=K1 (fun W (hb:Below w2.heap.size w2 W)=>done_any W x' i.r _ (hm2.below hb) hx1)
 rw [hg] at CD
 have HR:=K1 (And.intro hx1 hR)
 clear hx1 hR hm2 hg hb2 CR HM
 have c1:=HM2.out.cells 1 rfl
 obtain ⟨d,hd⟩:∃ d,d=len-n:=⟨_,rfl⟩
 have hdi:(len:Int)-(n:Int)=(d:Int):=by omega
 have wd:IntKind.i64.wrap (d:Int)=(d:Int):=IntWalk.i64_in _ (by omega)
 have HD:=K1 hd
 clear hd
 go_wp2_with fail
 refine (CB.out _ (HM2.out.bel 0 rfl)).mono ?_
 rintro e w3 ⟨⟨z,rfl⟩,hb3⟩
 replace HM2:=K1 (HM2.out.below hb3)
 have CD3:=K1 (CD.out w3 hb3)
 clear hb3 CB CD c1
 go_wp2_with fail
 refine CD3.out.mono ?_
 rintro e w4 ⟨b,rfl,hb,hb4⟩
 have HBB:=K1 hb
 replace HM2:=K1 (HM2.out.below hb4)
 clear hb hb4 CD3
 have c2:=HM2.out.cells 2 rfl
 have f2:=fun j=>HM2.out.frozen 2 j rfl
 have hf:=HM2.out.fill (i:=2) rfl [.int .i64 n,.int .i64 (wrap64 (z-n)),.int .i64 d,.bool b] rfl
 simp only [World.setCells,Nat.reduceAdd,Nat.zero_add] at hf
 have HF:=K1 hf
 clear hf HM2
 go_wp2_with fail
 clear c2 f2
 have c2:=HF.out.cells 2 rfl
 refine bodyPost_ret (v:=.tuple #[.agg #[.int .i64 n,.int .i64 (wrap64 (z-n)),.int .i64 d,.bool b],.int .i64 0]) ?_ rfl ⟨⟨n,_,b,by rw [← HD.out],hnl,x,x',HX.out.1,HX.out.2.1,HX.out.2.2.1,HX.out.2.2.2,HR.out.2,HR.out.1,HBB.out⟩,HF.out.bel 0 rfl⟩
 simp [results,Tryz.results16,go_sem,c2]
theorem sumR_upd {f g:Nat→Nat} {u:Nat} (h:∀ v,v≠u→g v=f v) (hu:g u=f u+1):∀ k,u<k→sumR g k=sumR f k+1
 | 0,hk=>absurd hk (Nat.not_lt_zero _)
 | k+1,hk=>by
   simp only [sumR]
   by_cases e:u=k
   · subst e
     rw [sumR_congr (f:=g) (g:=f) (fun i hi=>h i (by omega)),hu];omega
   · rw [sumR_upd h hu k (by omega),h k (by omega)];omega
theorem sumR_le {f g:Nat→Nat}:∀ k,(∀ u,u<k→f u≤g u)→sumR f k≤sumR g k
 | 0,_=>Nat.le_refl _
 | k+1,h=>Nat.add_le_add (sumR_le k fun u hu=>h u (by omega)) (h k (by omega))
theorem sumR_eq {f g:Nat→Nat}:∀ k,(∀ u,u<k→f u≤g u)→sumR f k=sumR g k→∀ u,u<k→f u=g u
 | 0,_,_,u,hu=>absurd hu (Nat.not_lt_zero _)
 | k+1,h,e,u,hu=>by
   simp only [sumR] at e
   have h1:=sumR_le k fun u hu=>h u (by omega)
   have h2:=h k (by omega)
   by_cases hk:u=k
   · subst hk;omega
   · exact sumR_eq k (fun u hu=>h u (by omega)) (by omega) u (by omega)
def lenU (r:Rn) (u:Nat):Nat:=(plIts r.c r.p 0 u).length
def totR (r:Rn):Nat:=r.c.st*sumR (lenU r) r.c.k
def cntU (x:Wv) (u:Nat):Nat:=((x.ms[u]?).map Mc.cnt).getD 0
structure CntOk (r:Rn) (x:Wv):Prop where
 one:∀ (u:Nat) (m:Mc),x.ms[u]?=some m→m.cnt=m.t*lenU r u+m.next
 all:sumR (cntU x) r.c.k=x.count
theorem its_lenU {r:Rn} {m:Mc} {u:Nat} (hc:r.c.Ok) (hu:m.f.u=u) (hf:m.f.Of r) (ht:m.t<r.c.st):m.its.length=lenU r u:=by
 unfold Mc.its itsAt lenU
 rw [if_pos (by rw [hf.c];exact ht),hf.c,hf.p,hu]
 exact plIts_len hc _ _ _ _
theorem stepA_inv {f:Mf} {a:Am} {L:Nat} (h:a.cnt=a.t*L+a.next) (hl:(itsAt f a.t).length=L):(stepA f a).cnt=(stepA f a).t*L+(stepA f a).next:=by
 unfold stepA
 split
 · rename_i hn
   dsimp only
   rw [Nat.succ_mul];omega
 · dsimp only
   omega
theorem Moved.cnt {r:Rn} {x x':Wv} {u:Nat} (ho:x.Ok r) (h:CntOk r x) (hu:u<r.c.k) (hm:Moved r x u x'):CntOk r x':=by
 obtain ⟨m,m',it,h1,h2,h3,h4,h5,h6⟩:=hm
 obtain ⟨k1,k2,k3,_⟩:=ho.m u m h1
 have ht:m.t<r.c.st:=by
  rcases Nat.lt_or_ge m.t m.f.c.st with h7 | h7
  · rw [← k3.c];exact h7
  · obtain ⟨e1,e2⟩:=k1.none_ (Nat.not_lt.2 h7)
    rw [e1] at h2;cases h2
 have hl:(itsAt m.f m.t).length=lenU r u:=its_lenU ho.c k2 k3 ht
 have hone:=h.one u m h1
 have key:m'.cnt=m'.t*lenU r u+m'.next∧m'.cnt=m.cnt+1:=by
  have fin:∀ a:Am,a.t=m.t→a.next=m.next→a.cnt=m.cnt→m'.abs=stepA m.f a→m'.cnt=m'.t*lenU r u+m'.next∧m'.cnt=m.cnt+1:=fun a e1 e2 e3 ea=>by
   have h8:=stepA_inv (f:=m.f) (a:=a) (L:=lenU r u) (by rw [e1,e2,e3];exact hone) (by rw [e1];exact hl)
   rw [← ea] at h8
   exact ⟨h8,(congrArg Am.cnt ea).trans ((stepA_cnt _ _).trans (by rw [e3]))⟩
  rcases h6 with ⟨_,_,_,ea⟩ | ⟨_,l,l',_,_,_,_,_,ea⟩ | ⟨_,l,l',v,q,_,_,_,_,_,ea⟩
  · refine fin _ ?_ ?_ (ownA_cnt _ _ _) ea
    · unfold ownA
      split
      · rfl
      · split
        · rfl
        · split <;> rfl
    · unfold ownA
      split
      · rfl
      · split
        · rfl
        · split <;> rfl
  · exact fin _ rfl rfl rfl ea
  · exact fin _ rfl rfl rfl ea
 have hlt:=(List.getElem?_eq_some_iff.1 h1).1
 refine ⟨fun v n hn=>?_,?_⟩
 · rw [h4] at hn
   by_cases hv:u=v
   · subst hv
     rw [List.getElem?_set_self hlt] at hn
     injection hn with hn
     subst hn
     exact key.1
   · rw [List.getElem?_set_ne hv] at hn
     exact h.one v n hn
 · rw [h5,← h.all]
   refine sumR_upd (u:=u) (fun v hv=>?_) ?_ _ hu
   · unfold cntU
     rw [h4,List.getElem?_set_ne (Ne.symm hv)]
   · unfold cntU
     rw [h4,List.getElem?_set_self hlt,h1]
     exact key.2
theorem PickR.cnt {r:Rn} {x x':Wv} {z:Int} {b:Bool} (ho:x.Ok r) (h:CntOk r x) (hp:PickR r x z b x'):CntOk r x':=by
 rcases hp with ⟨_,rfl,_⟩ | ⟨_,_,u,_,hm⟩
 · exact h
 · refine Moved.cnt ho h ?_ hm
   obtain ⟨m,m',it,h1,_⟩:=hm
   have:=(List.getElem?_eq_some_iff.1 h1).1
   rwa [ho.lm] at this
theorem cnt_bound {r:Rn} {x:Wv} (ho:x.Ok r) (h:CntOk r x):x.count≤totR r∧(x.count=totR r↔∀ m∈x.ms,r.c.st≤m.t):=by
 have one:∀ u,u<r.c.k→cntU x u≤r.c.st*lenU r u∧(cntU x u=r.c.st*lenU r u↔∀ m,x.ms[u]?=some m→r.c.st≤m.t):=fun u hu=>by
  obtain ⟨m,hm⟩:=get_some x.ms u (by rw [ho.lm];exact hu)
  obtain ⟨k1,k2,k3,_⟩:=ho.m u m hm
  have hc:cntU x u=m.t*lenU r u+m.next:=by
   unfold cntU
   rw [hm]
   exact h.one u m hm
  rw [hc]
  have htle:m.t≤r.c.st:=by rw [← k3.c];exact k1.t
  rcases Nat.lt_or_ge m.t r.c.st with ht | ht
  · have hn:m.next<lenU r u:=by
     rw [← its_lenU ho.c k2 k3 ht]
     exact k1.next (by rw [k3.c];exact ht)
    have hmul:=Nat.mul_le_mul_right (lenU r u) ht
    rw [Nat.succ_mul] at hmul
    refine ⟨by omega,fun e=>by omega,fun e=>?_⟩
    have:=e m hm
    omega
  · have hn:m.next=0:=k1.end_ (by rw [k3.c];exact ht)
    have e:m.t=r.c.st:=by omega
    rw [hn,e]
    refine ⟨Nat.le_refl _,fun _ m' hm'=>?_,fun _=>rfl⟩
    rw [hm] at hm'
    injection hm' with hm'
    rw [← hm',e]
    exact Nat.le_refl _
 have htot:totR r=sumR (fun u=>r.c.st*lenU r u) r.c.k:=(sumR_mul _ _ _).symm
 rw [htot,← h.all]
 refine ⟨sumR_le _ fun u hu=>(one u hu).1,fun e m hm=>?_,fun e=>?_⟩
 · obtain ⟨u,hu⟩:=List.getElem?_of_mem hm
   have huk:u<r.c.k:=by have:=(List.getElem?_eq_some_iff.1 hu).1;rwa [ho.lm] at this
   exact (one u huk).2.1 (sumR_eq _ (fun u hu=>(one u hu).1) e u huk) m hu
 · exact sumR_congr fun u hu=>(one u hu).2.2 fun m hm=>e m (List.mem_of_getElem? hm)
theorem prog_bound {i:Inp} {zs:List Int} {n:Nat} {b:Bool} (h:ProgR i zs n b):n≤totR i.r∧(b=true↔n=totR i.r):=by
 obtain ⟨x0,x',h1,h2,h3,h4,h5,h6,h7⟩:=h
 have c0:CntOk i.r x0:=by
  have hz:∀ (u:Nat) (m:Mc),x0.ms[u]?=some m→m.cnt=0∧m.t=0∧m.next=0:=fun u m hm=>by
   have:=h3 m (List.mem_of_getElem? hm)
   exact ⟨congrArg Am.cnt this,congrArg Am.t this,congrArg Am.next this⟩
  refine ⟨fun u m hm=>?_,?_⟩
  · obtain ⟨e1,e2,e3⟩:=hz u m hm
    rw [e1,e2,e3];omega
  · rw [h2,sumR_congr (g:=fun _=>0) (fun u hu=>?_),sumR_const]
    · omega
    · obtain ⟨m,hm⟩:=get_some x0.ms u (by rw [h1.lm];exact hu)
      unfold cntU
      rw [hm]
      exact (hz u m hm).1
 have cr:∀ (zs:List Int) (x x':Wv) (n:Nat),x.Ok i.r→CntOk i.r x→RunR i.r x zs n x'→CntOk i.r x':=by
  intro zs
  induction zs with
  | nil=>rintro x x' n _ hc ⟨_,rfl⟩;exact hc
  | cons z zs ih =>
    rintro x x' n ho hc ⟨c,y,n',hp,hr,_⟩
    exact ih y x' n' (hp.ok ho) (PickR.cnt ho hc hp) hr
 have cx:=cr zs x0 x' n h1 c0 h5
 have hb:=cnt_bound h6 cx
 have hn:x'.count=n:=by rw [(RunR.count _ h5).1,h2];omega
 rw [hn] at hb
 exact ⟨hb.1,h7.trans hb.2.symm⟩
theorem cntTo_sum (s:Nat) (rs:List (Nat × Nat)):∀ k,cntTo s rs k=sumR (fun i=>pcnt ((rs[i]?.getD (0,0)).2-(rs[i]?.getD (0,0)).1) s) k
 | 0=>rfl
 | k+1=>by rw [cntTo,cntTo_sum s rs k];rfl
def bktMsgs (r:Rn) (b:Nat):Nat:=cntTo r.c.s (shiftL ((plBs r.c r.p)[b]?.getD (0,0)).1 (evenL (((plBs r.c r.p)[b]?.getD (0,0)).2-((plBs r.c r.p)[b]?.getD (0,0)).1) r.c.k)) r.c.k
theorem bktMsgs_eq (r:Rn) (b:Nat):bktMsgs r b=msgsOf (jobOf (plBs r.c r.p) r.c.k r.c.s 0 b):=by
 unfold bktMsgs msgsOf
 rw [cntTo_sum]
 refine sumR_congr fun i _=>?_
 unfold segCnt
 rw [segChunks_len]
 rfl
theorem tot_formula {r:Rn} (hc:r.c.Ok):totR r=r.c.st*(sumR (fun b=>4*(r.c.k-1)*bktMsgs r b+2*r.c.k) (plBs r.c r.p).length+r.c.k*(r.c.mi+1)):=by
 unfold totR
 have h:=items_all r.c hc r.p 0
 have e:sumR (lenU r) r.c.k=sumR (fun w=>(plIts r.c r.p 0 w).length) r.c.k:=rfl
 rw [e,h,Nat.add_comm]
 congr 2
 refine sumR_congr fun b _=>?_
 rw [bktMsgs_eq,Nat.add_comm]
end Go.Proofs.YtdpojpcoghcieaaGreat
