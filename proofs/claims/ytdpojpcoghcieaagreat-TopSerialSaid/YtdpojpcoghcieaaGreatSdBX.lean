/- A part of the proof of TopSerial: RefJob, Gi, FewIn. Conditions: none. -/
import Derived.Test.YtdpojpcoghcieaaGreatSdBW
set_option maxHeartbeats 8000000
namespace Go.Proofs.YtdpojpcoghcieaaGreat
open Lib renaming hid → K1
open List renaming filterMap_cons → p1, filterMap_nil → p2, getElem?_cons_zero → p3, getElem?_cons_succ → p4
open Go.RowKit
def rpC (c:Kf) (p:Nat) (sz:Value):List Value:=[sz,.int .i64 c.sh,.int .i64 c.ra,.int .i64 c.mo,.int .i64 c.k,.int .i64 c.ba,.int .i64 c.mi,.int .i64 c.st,.int .i64 c.bu,.int .i64 c.s,.int .i64 c.wi,.int .i64 c.ca,.int .i64 p]
set_option maxRecDepth 100000 in
theorem rpbuckets_any (w:World) (c:Kf) (p:Nat) (sz:Value) (hb:1≤c.bu∧c.bu≤1048576) (hp:p≤1000000) :
  Calls Tryz.prog 93 #[.agg (rpC c p sz).toArray] w fun e w'=>∃ A cc,e=.returned (.slice A (plBs c p).length cc)∧(plBs c p).length≤cc∧Mem w' [.bel w.heap.size w,rrO w.heap.size (plBs c p).length cc A (plBs c p)]:=by
 have CB:=K1 (fun W=>rbuckets_any p c.bu W hp hb)
 have HE:=K1 (show bucketsL p c.bu=plBs c p from rfl)
 rw [HE.out] at CB
 have HM:=K1 ((Mem.start w).alloc (.cells (rpC c p sz).toArray 82))
 obtain ⟨sh,ra,mo,k,ba,mi,st,bu,s,wi,ca⟩:=c
 dsimp only [rpC] at *
 go_enter Tryz.func93,Tryz.ntmps93
 go_wp2_with fail
 refine (CB.out _).mono ?_
 rintro e w1 ⟨A,cc,rfl,hcc,hm⟩
 have hg:=(HM.out.bel 0 rfl).size
 replace HM:=K1 ((HM.out.push_own (hm.bel 0 rfl) (hm.own 1 rfl) rfl).lower (i:=2) rfl hg)
 clear hm CB hg
 go_wp2_with fail
 go_ret
 exact ⟨A,cc,rfl,hcc,HM.out.pick [0,2] _ rfl (by decide)⟩
set_option maxRecDepth 100000 in
theorem rjob_any (w:World) (c:Kf) (p t j:Nat) (sz:Value) (x y:Nat) (hj:(plBs c p)[j]?=some (x,y)) (hb:1≤c.bu∧c.bu≤1048576) (hp:p≤1000000) :
  Calls Tryz.prog 135 #[.agg (rpC c p sz).toArray,.int .i64 t,.int .i64 j] w fun e w'=>e=.returned (.agg (Jb.cells ⟨t,j,x,y,c.k,c.s⟩).toArray)∧Below w.heap.size w w':=by
 have CB:=K1 (fun W=>rpbuckets_any W c p sz hb hp)
 have HJ:=K1 hj
 have hm:=(((Mem.start w).alloc (.cells (rpC c p sz).toArray 82))).alloc (.cells #[.int .i64 0,.int .i64 0,.int .i64 0,.int .i64 0,.int .i64 0,.int .i64 0] 245)
 simp only [World.size_alloc] at hm
 have HM:=K1 hm
 have hjl:j<(plBs c p).length:=(List.getElem?_eq_some_iff.1 hj).1
 clear hm hj
 generalize plBs c p=bs at *
 obtain ⟨sh,ra,mo,k,ba,mi,st,bu,s,wi,ca⟩:=c
 dsimp only [rpC,Jb.cells] at *
 go_enter Tryz.func135,Tryz.ntmps135
 go_wp2_with fail
 refine name_wp fun W0 hW=>?_
 replace HM:=K1 (hW.out.symm ▸ HM.out)
 clear hW
 refine wp_region_stage (.reads [0,1,2,4,7,8,9,10,11,12] (.eff 3 (.eff 5 (.eff 6 (.eff 13 (.eff 14 (.fin))))))) 15 (fun W'=>∀ i,W'.cell? ⟨w.heap.size,i,none⟩=([sz,.int .i64 sh,.int .i64 ra,.int .i64 mo,.int .i64 k,.int .i64 ba,.int .i64 mi,.int .i64 st,.int .i64 bu,.int .i64 s,.int .i64 wi,.int .i64 ca,.int .i64 p]:List Value)[i]?)
  (by kernel_rfl) (by kernel_rfl) (by intro d v c a w h;cases d <;> exact h) ?_
 replace HM:=K1 HM.out.drew
 generalize W0.drew=V at *
 refine PlS.reads_ (HM.out.cells 1 rfl) (by kernel_rfl) ?_
 simp only [pickO,p1,p2,p3,p4]
 apply Exists.intro
 apply And.intro
 · intro W' hS
   repeat still_step
   exact wpStill_nil rfl
 refine PlS.eff_ ?_
 simp only [pickO,p1,p2,p3,p4]
 go_wp2_with fail
 refine (CB.out _).mono ?_
 rintro e w2 ⟨A1,c1,rfl,hc1,hm2⟩
 have hrd:=rd_of_own (hm2.own 1 rfl)
 have hA1:=own_from_base (hm2.own 1 rfl)
 replace HM:=K1 (HM.out.push_rd (hm2.bel 0 rfl) hrd hA1)
 clear hm2 hrd hA1 CB
 obtain ⟨b1,o1,rfl,_⟩:=HM.out.ranges 3 rfl (by omega)
 go_wp2_with fail
 refine After.go (HM.out.cells 1 rfl) ?_
 refine PlS.eff_ ?_
 simp only [pickO,p1,p2,p3,p4]
 go_wp2_with fail
 refine After.go (HM.out.cells 1 rfl) ?_
 refine PlS.eff_ ?_
 simp only [pickO,p1,p2,p3,p4]
 have j1:(bs[j]'hjl).1=x:=by have:=(List.getElem?_eq_some_iff.1 HJ.out).2;rw [this]
 have j2:(bs[j]'hjl).2=y:=by have:=(List.getElem?_eq_some_iff.1 HJ.out).2;rw [this]
 obtain ⟨g1,g2⟩:=HM.out.range2 3 rfl HJ.out
 go_wp2_with fail
 clear g1 g2
 refine After.go (HM.out.cells 1 rfl) ?_
 refine PlS.eff_ ?_
 simp only [pickO,p1,p2,p3,p4]
 go_wp2_with fail
 refine After.go (HM.out.cells 1 rfl) ?_
 refine PlS.eff_ ?_
 simp only [pickO,p1,p2,p3,p4]
 have c2:=HM.out.cells 2 rfl
 have f2:=fun j=>HM.out.frozen 2 j rfl
 replace HM:=K1 (HM.out.set6 (i:=2) rfl (.int .i64 t) (.int .i64 j) (.int .i64 x) (.int .i64 y) (.int .i64 k) (.int .i64 s))
 go_wp2_with fail
 refine After.go (HM.out.cells 1 rfl) ?_
 refine PlS.fin_ ?_
 clear c2 f2
 have c2:=HM.out.cells 2 rfl
 go_wp2_with fail
 refine bodyPost_ret (v:=.agg #[.int .i64 t,.int .i64 j,.int .i64 x,.int .i64 y,.int .i64 k,.int .i64 s]) ?_ rfl ⟨rfl,HM.out.bel 0 rfl⟩
 simp [results,Tryz.results135,go_sem,c2]
theorem castL_of:∀ {zs:List Int},(∀ z∈zs,1≤z)→∃ ns:List Nat,zs=castL ns∧∀ n∈ns,1≤n
 | [],_=>⟨[],rfl,by simp⟩
 | z::r,h=>by
   obtain ⟨ns,rfl,hn⟩:=castL_of (zs:=r) fun y hy=>h y (List.mem_cons_of_mem _ hy)
   have:=h z (List.mem_cons_self ..)
   exact ⟨z.toNat::ns,by simp [castL];omega,fun n hm=>(List.mem_cons.1 hm).elim (fun e=>by omega) (hn n)⟩
theorem epo_nat {st ba n:Nat} (hb:1≤ba) (hn:ba≤n) (hm:n≤1048576):epo 0 st ba n=(pcnt st (n / ba):Nat):=by
 rw [epo_yes (by omega)]
 have hq:1≤n / ba:=(Nat.le_div_iff_mul_le hb).2 (by omega)
 rw [← Int.natCast_ediv]
 generalize n / ba=q at *
 have e:(st:Int)+q-1=((st+q-1:Nat):Int):=by omega
 rw [e,← Int.natCast_ediv]
 congr 1
 unfold pcnt
 split
 · rename_i h0
   subst h0
   exact Nat.div_eq_of_lt (by omega)
 · rw [show st+q-1=st-1+q by omega,Nat.add_div_right _ hq]
theorem Gi.inp {g:Gi} {w:World} (h:g.Small) (ha:g.At w):∃ i:Inp,i.cells=g.cells∧i.Ok∧i.At w∧i.r.c.k≤6∧g.pl=rpC i.r.c i.r.p (.slice i.A i.r.ns.length i.cap):=by
 obtain ⟨A,cap,zs,DA,dcap,l,SA,scap,ss,RA,rcap,ds,sh,ra,mo,wo,ba,mi,st,bu,ch,wi,ca⟩:=g
 obtain ⟨a1,a2,a3,a4,a5,a6,a7,a8,a9,a10,a11,a12,a13⟩:=ha
 obtain ⟨h1,h2,h3,h4,h5,h6,h7⟩:=h
 dsimp only [Gi.code,Gi.cc,Gi.cells] at *
 have hcc:confCode zs ⟨sh,0,0,wo,ba,mi,st,bu,ch,wi,ca⟩=0:=by
  by_cases hk:confCode zs ⟨sh,0,0,wo,ba,mi,st,bu,ch,wi,ca⟩=0
  · exact hk
  · unfold inCode at h1
    rw [if_pos hk] at h1
    exact absurd h1 hk
 rw [hcc] at h1
 have hin:=h1
 have hz:=(conf_zero hcc).2.2.2
 have hconf:=hcc
 unfold confCode at hcc
 dsimp only at hcc
 split at hcc
 · cases hcc
 split at hcc
 · cases hcc
 split at hcc
 · omega
 split at hcc
 · cases hcc
 split at hcc
 · cases hcc
 rename_i b1 b2 b3 b4 b5
 have hn:numsOk ⟨sh,0,0,wo,ba,mi,st,bu,ch,wi,ca⟩=true:=by simpa using b4
 unfold numsOk at hn
 simp only [Bool.and_eq_true,Bool.or_eq_true,okSz_iff,decide_eq_true_eq] at hn
 have hall:zs.all okSz=true:=by
  unfold shCode at hz
  split at hz
  · cases hz
  split at hz
  · cases hz
  · next hq2 hq3 =>
    cases hb:zs.all okSz
    · first | exact absurd hb hq2 | exact absurd hb hq3 | exact absurd hb (by assumption)
    · rfl
 have htwo:=sizes_two hz
 obtain ⟨ns,rfl,hpos⟩:=castL_of (zs:=zs) fun z hm=>(okSz_iff.1 (List.all_eq_true.1 hall z hm)).1
 rw [List.length_map] at htwo
 unfold inCode at h1
 rw [if_neg (by omega)] at h1
 split at h1
 · cases h1
 split at h1
 · cases h1
 split at h1
 · cases h1
 rename_i n1 n2 n3
 have hfit:exFits (zAt (castL ns) 0) (zAt (castL ns) ((castL ns).length-1)) l=true:=by
  cases hf:exFits (zAt (castL ns) 0) (zAt (castL ns) ((castL ns).length-1)) l
  · exact absurd (.inl hf) n2
  · rfl
 have hcn:(ss.length:Int)=cnt (castL ns):=Decidable.byContradiction fun hc=>n2 (.inr hc)
 have hoff:=cnt_nat ns (by omega)
 have hpn:ss.length=offN ns (ns.length-1):=by omega
 obtain ⟨sh,rfl⟩:=Int.eq_ofNat_of_zero_le (show 0≤sh by omega)
 obtain ⟨wo,rfl⟩:=Int.eq_ofNat_of_zero_le (show 0≤wo by omega)
 obtain ⟨ba,rfl⟩:=Int.eq_ofNat_of_zero_le (show 0≤ba by omega)
 obtain ⟨mi,rfl⟩:=Int.eq_ofNat_of_zero_le (show 0≤mi by omega)
 obtain ⟨st,rfl⟩:=Int.eq_ofNat_of_zero_le (show 0≤st by omega)
 obtain ⟨bu,rfl⟩:=Int.eq_ofNat_of_zero_le (show 0≤bu by omega)
 obtain ⟨ch,rfl⟩:=Int.eq_ofNat_of_zero_le (show 0≤ch by omega)
 obtain ⟨wi,rfl⟩:=Int.eq_ofNat_of_zero_le (show 0≤wi by omega)
 obtain ⟨ca,rfl⟩:=Int.eq_ofNat_of_zero_le (show 0≤ca by omega)
 refine ⟨⟨⟨⟨sh,ra,mo,wo,ba,mi,st,bu,ch,wi,ca⟩,ss.length,ns,l.length,ds,l.map Ex.nums⟩,A,cap,DA,dcap,l,SA,scap,ss,RA,rcap⟩,?_,?_,?_,by dsimp only;omega,by simp [Gi.pl,rpC]⟩
 · simp [Inp.cells]
 · have hp1:1≤ss.length:=by
    obtain ⟨d,hd⟩:∃ d,ns.length-1=d+1:=⟨ns.length-2,by omega⟩
    have hm:=hpos _ (List.getElem_mem (l:=ns) (n:=d+1) (by omega))
    rw [hpn,hd,offN_succ,List.getElem?_eq_getElem (by omega)]
    simp only [Option.getD_some]
    omega
   refine ⟨⟨by dsimp only;omega,by dsimp only;omega,by dsimp only;omega,by dsimp only;omega,by dsimp only;omega,by dsimp only;omega,by dsimp only;omega,by dsimp only;omega,by dsimp only;omega⟩,by dsimp only;omega,⟨htwo,hpos,by rw [← hpn];omega⟩,hpn,by dsimp only;omega,⟨rfl,rfl⟩,?_,⟨rfl,a9⟩,?_,by simpa using a2,⟨a12,a13,by dsimp only;omega⟩,hconf,hz,hin⟩
   · refine ⟨ns[0],ns[ns.length-1],List.getElem?_eq_getElem (l:=ns) (i:=0) (by omega),List.getElem?_eq_getElem (l:=ns) (i:=ns.length-1) (by omega),fun e he=>?_⟩
     have hb:=List.all_eq_true.1 hfit e he
     have q0:zAt (castL ns) 0=(ns[0]'(by omega):Nat):=by
      unfold zAt
      rw [List.getD_eq_getElem?_getD,castL_at (List.getElem?_eq_getElem (by omega))]
      rfl
     have q1:zAt (castL ns) ((castL ns).length-1)=(ns[ns.length-1]'(by omega):Nat):=by
      unfold zAt
      rw [List.length_map,List.getD_eq_getElem?_getD,castL_at (List.getElem?_eq_getElem (by omega))]
      rfl
     rw [q0,q1] at hb
     unfold exBad at hb
     simp only [Bool.not_not,Bool.and_eq_true,decide_eq_true_eq] at hb
     exact ⟨by omega,by omega,(a6 e he).1,(a6 e he).2⟩
   · refine ⟨?_,by dsimp only;omega⟩
     dsimp only
     unfold nee at n3
     rw [epo_nat (by omega) (by omega) (by omega)] at n3
     have e:((l.length:Int)-1)=((l.length-1:Nat):Int):=by omega
     rw [e,← Int.natCast_mul] at n3
     omega
 · exact ⟨a1,a4,fun a hm=>by
    obtain ⟨e,he,hx⟩:=List.mem_flatMap.1 hm
    rcases List.mem_cons.1 hx with rfl | hx
    · exact (a4.2 e he).1
    · rw [List.mem_singleton.1 hx]
      exact (a4.2 e he).2.1,a7,a10⟩
theorem refInput_any (A DA SA RA:Option Addr) (cap dcap sn scap rn rcap:Nat) (zs:List Int) (l:List Ex) (sh ra mo wo ba mi st bu ch wi ca:Int) (w:World) (hr:RdI w w.heap.size A zs) (hm:zs.length≤9223372036854775807)
  (hd:RdE w w.heap.size DA l) (hlm:l.length≤9223372036854775807) :
  Calls Tryz.prog 22 #[.agg #[.slice A zs.length cap,.int .i64 sh,.int .i64 ra,.int .i64 mo,.int .i64 wo,.int .i64 ba,.int .i64 mi,.int .i64 st,.int .i64 bu,.int .i64 ch,.int .i64 wi,.int .i64 ca,.slice DA l.length dcap,.slice SA sn scap,.slice RA rn rcap]] w (Coded w (inCode (confCode zs ⟨sh,0,0,wo,ba,mi,st,bu,ch,wi,ca⟩) zs st ba l sn rn)):=by
 by_cases h:confCode zs ⟨sh,0,0,wo,ba,mi,st,bu,ch,wi,ca⟩=0
 · exact refInput_good A DA SA RA cap dcap sn scap rn rcap zs l sh ra mo wo ba mi st bu ch wi ca w hr hm hd hlm h
 · exact refInput_bad A DA SA RA cap dcap sn scap rn rcap zs l sh ra mo wo ba mi st bu ch wi ca w hr hm h
def fewIn (n:Nat) (l:List Ex) (sn rn:Nat):Bool:=decide (n≤40) && exFew l && decide (sn≤600) && decide (rn≤2000)
theorem fewIn_any (A DA SA RA:Option Addr) (cap dcap sn scap rn rcap:Nat) (zs:List Int) (l:List Ex) (sh ra mo wo ba mi st bu ch wi ca:Int) (w:World)
  (hd:RdE w w.heap.size DA l) (hlm:l.length≤9223372036854775807) (hm:zs.length≤9223372036854775807) (hsm:sn≤9223372036854775807) (hrm:rn≤9223372036854775807) :
  Calls Tryz.prog 130 #[.agg #[.slice A zs.length cap,.int .i64 sh,.int .i64 ra,.int .i64 mo,.int .i64 wo,.int .i64 ba,.int .i64 mi,.int .i64 st,.int .i64 bu,.int .i64 ch,.int .i64 wi,.int .i64 ca,.slice DA l.length dcap,.slice SA sn scap,.slice RA rn rcap]] w fun e w'=>e=.returned (.bool (fewIn zs.length l sn rn))∧Below w.heap.size w w':=by
 have hb0:Below w.heap.size w (w.alloc (.cells #[.slice A zs.length cap,.int .i64 sh,.int .i64 ra,.int .i64 mo,.int .i64 wo,.int .i64 ba,.int .i64 mi,.int .i64 st,.int .i64 bu,.int .i64 ch,.int .i64 wi,.int .i64 ca,.slice DA l.length dcap,.slice SA sn scap,.slice RA rn rcap] 29)):=(Below.refl _ _).alloc (Nat.le_refl _) _
 have hI:=heap_alloc_new w (.cells #[.slice A zs.length cap,.int .i64 sh,.int .i64 ra,.int .i64 mo,.int .i64 wo,.int .i64 ba,.int .i64 mi,.int .i64 st,.int .i64 bu,.int .i64 ch,.int .i64 wi,.int .i64 ca,.slice DA l.length dcap,.slice SA sn scap,.slice RA rn rcap] 29)
 have C:=K1 (dataFew_any DA dcap l (w.alloc (.cells #[.slice A zs.length cap,.int .i64 sh,.int .i64 ra,.int .i64 mo,.int .i64 wo,.int .i64 ba,.int .i64 mi,.int .i64 st,.int .i64 bu,.int .i64 ch,.int .i64 wi,.int .i64 ca,.slice DA l.length dcap,.slice SA sn scap,.slice RA rn rcap] 29)) ((hd.below hb0).more hb0.size) hlm)
 clear hI
 by_cases h1:zs.length≤40
 · cases hf:exFew l
   · have hfin:Hid (fewIn zs.length l sn rn=false):=K1 (by simp [fewIn,hf])
     go_enter Tryz.func130,Tryz.ntmps130
     go_wp2_with (go_at_call 153;refine C.out.mono ?_;rintro e w1 ⟨rfl,q,rfl⟩;rw [hf])
     go_ret
     exact ⟨ret_bool (by first | exact hfin.out.symm | (rw [hfin.out];simp;omega)),below_drewN hb0 _⟩
   by_cases h2:sn≤600
   · by_cases h3:rn≤2000
     · have hfin:Hid (fewIn zs.length l sn rn=true):=K1 (by simp [fewIn,hf,h1,h2,h3])
       go_enter Tryz.func130,Tryz.ntmps130
       go_wp2_with (go_at_call 153;refine C.out.mono ?_;rintro e w1 ⟨rfl,q,rfl⟩;rw [hf])
       go_ret
       exact ⟨ret_bool (by first | exact hfin.out.symm | (rw [hfin.out];simp;omega)),below_drewN hb0 _⟩
     · have hfin:Hid (fewIn zs.length l sn rn=false):=K1 (by simp [fewIn,h3])
       go_enter Tryz.func130,Tryz.ntmps130
       go_wp2_with (go_at_call 153;refine C.out.mono ?_;rintro e w1 ⟨rfl,q,rfl⟩;rw [hf])
       go_ret
       exact ⟨ret_bool (by first | exact hfin.out.symm | (rw [hfin.out];simp;omega)),below_drewN hb0 _⟩
   · have hfin:Hid (fewIn zs.length l sn rn=false):=K1 (by simp [fewIn,h2])
     go_enter Tryz.func130,Tryz.ntmps130
     go_wp2_with (go_at_call 153;refine C.out.mono ?_;rintro e w1 ⟨rfl,q,rfl⟩;rw [hf])
     go_ret
     exact ⟨ret_bool (by first | exact hfin.out.symm | (rw [hfin.out];simp;omega)),below_drewN hb0 _⟩
 · have hfin:Hid (fewIn zs.length l sn rn=false):=K1 (by simp [fewIn,h1])
   go_enter Tryz.func130,Tryz.ntmps130
   go_wp2
   go_ret
   exact ⟨ret_bool hfin.out.symm,hb0⟩
end Go.Proofs.YtdpojpcoghcieaaGreat
