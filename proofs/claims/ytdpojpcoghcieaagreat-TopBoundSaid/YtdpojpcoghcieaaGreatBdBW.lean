/- A part of the proof of TopBound: RefJob, Gi, RefGroup. Conditions: none. -/
import Derived.Test.YtdpojpcoghcieaaGreatBdBV
import Derived.Test.YtdpojpcoghcieaaGreatBdBS
set_option maxHeartbeats 8000000
namespace Go.Proofs.YtdpojpcoghcieaaGreat
open Lib renaming hid → K1
open List renaming filterMap_cons → p1, filterMap_nil → p2, getElem?_cons_zero → p3, getElem?_cons_succ → p4
open Go.RowKit
def rpC (c:Kf) (p:Nat) (sz:Value):List Value:=[sz,.int .i64 c.sh,.int .i64 c.ra,.int .i64 c.mo,.int .i64 c.k,.int .i64 c.ba,.int .i64 c.mi,.int .i64 c.st,.int .i64 c.bu,.int .i64 c.s,.int .i64 c.wi,.int .i64 c.ca,.int .i64 p]
set_option maxRecDepth 100000 in
theorem rpbuckets_any (w:World) (c:Kf) (p:Nat) (sz:Value) (hb:1≤c.bu∧c.bu≤1048576) (hp:p≤1000000) :
  Calls Tryz.prog 93 #[.agg (rpC c p sz).toArray] w fun e w'=>∃ A cc,e=.returned (.slice A (plBs c p).length cc)∧(plBs c p).length≤cc∧Mem w' [.bel w.heap.size w,rrO w.heap.size (plBs c p).length cc A (plBs c p)]:=by
 have CB:=K1 (fun W=>rbuckets_any p c.bu W hp hb)
 have HE:=K1 (show bucketsL p c.bu=plBs c p from rfl)
 rw [HE.out] at CB
 have HM:=K1 ((Mem.start w).alloc (.cells (rpC c p sz).toArray 82))
 obtain ⟨sh,ra,mo,k,ba,mi,st,bu,s,wi,ca⟩:=c
 dsimp only [rpC] at *
 go_enter Tryz.func93,Tryz.ntmps93
 go_wp2_with fail
 refine (CB.out _).mono ?_
 rintro e w1 ⟨A,cc,rfl,hcc,hm⟩
 have hg:=(HM.out.bel 0 rfl).size
 replace HM:=K1 ((HM.out.push_own (hm.bel 0 rfl) (hm.own 1 rfl) rfl).lower (i:=2) rfl hg)
 clear hm CB hg
 go_wp2_with fail
 go_ret
 exact ⟨A,cc,rfl,hcc,HM.out.pick [0,2] _ rfl (by decide)⟩
set_option maxRecDepth 100000 in
theorem rjob_any (w:World) (c:Kf) (p t j:Nat) (sz:Value) (x y:Nat) (hj:(plBs c p)[j]?=some (x,y)) (hb:1≤c.bu∧c.bu≤1048576) (hp:p≤1000000) :
  Calls Tryz.prog 135 #[.agg (rpC c p sz).toArray,.int .i64 t,.int .i64 j] w fun e w'=>e=.returned (.agg (Jb.cells ⟨t,j,x,y,c.k,c.s⟩).toArray)∧Below w.heap.size w w':=by
 have CB:=K1 (fun W=>rpbuckets_any W c p sz hb hp)
 have HJ:=K1 hj
 have hm:=(((Mem.start w).alloc (.cells (rpC c p sz).toArray 82))).alloc (.cells #[.int .i64 0,.int .i64 0,.int .i64 0,.int .i64 0,.int .i64 0,.int .i64 0] 245)
 simp only [World.size_alloc] at hm
 have HM:=K1 hm
 have hjl:j<(plBs c p).length:=(List.getElem?_eq_some_iff.1 hj).1
 clear hm hj
 generalize plBs c p=bs at *
 obtain ⟨sh,ra,mo,k,ba,mi,st,bu,s,wi,ca⟩:=c
 dsimp only [rpC,Jb.cells] at *
 go_enter Tryz.func135,Tryz.ntmps135
 go_wp2_with fail
 refine name_wp fun W0 hW=>?_
 replace HM:=K1 (hW.out.symm ▸ HM.out)
 clear hW
 refine wp_region_stage (.reads [0,1,2,4,7,8,9,10,11,12] (.eff 3 (.eff 5 (.eff 6 (.eff 13 (.eff 14 (.fin))))))) 15 (fun W'=>∀ i,W'.cell? ⟨w.heap.size,i,none⟩=([sz,.int .i64 sh,.int .i64 ra,.int .i64 mo,.int .i64 k,.int .i64 ba,.int .i64 mi,.int .i64 st,.int .i64 bu,.int .i64 s,.int .i64 wi,.int .i64 ca,.int .i64 p]:List Value)[i]?)
  (by kernel_rfl) (by kernel_rfl) (by intro d v c a w h;cases d <;> exact h) ?_
 replace HM:=K1 HM.out.drew
 generalize W0.drew=V at *
 refine PlS.reads_ (HM.out.cells 1 rfl) (by kernel_rfl) ?_
 simp only [pickO,p1,p2,p3,p4]
 apply Exists.intro
 apply And.intro
 · intro W' hS
   repeat still_step
   exact wpStill_nil rfl
 refine PlS.eff_ ?_
 simp only [pickO,p1,p2,p3,p4]
 go_wp2_with fail
 refine (CB.out _).mono ?_
 rintro e w2 ⟨A1,c1,rfl,hc1,hm2⟩
 have hrd:=rd_of_own (hm2.own 1 rfl)
 have hA1:=own_from_base (hm2.own 1 rfl)
 replace HM:=K1 (HM.out.push_rd (hm2.bel 0 rfl) hrd hA1)
 clear hm2 hrd hA1 CB
 obtain ⟨b1,o1,rfl,_⟩:=HM.out.ranges 3 rfl (by omega)
 go_wp2_with fail
 refine After.go (HM.out.cells 1 rfl) ?_
 refine PlS.eff_ ?_
 simp only [pickO,p1,p2,p3,p4]
 go_wp2_with fail
 refine After.go (HM.out.cells 1 rfl) ?_
 refine PlS.eff_ ?_
 simp only [pickO,p1,p2,p3,p4]
 have j1:(bs[j]'hjl).1=x:=by have:=(List.getElem?_eq_some_iff.1 HJ.out).2;rw [this]
 have j2:(bs[j]'hjl).2=y:=by have:=(List.getElem?_eq_some_iff.1 HJ.out).2;rw [this]
 obtain ⟨g1,g2⟩:=HM.out.range2 3 rfl HJ.out
 go_wp2_with fail
 clear g1 g2
 refine After.go (HM.out.cells 1 rfl) ?_
 refine PlS.eff_ ?_
 simp only [pickO,p1,p2,p3,p4]
 go_wp2_with fail
 refine After.go (HM.out.cells 1 rfl) ?_
 refine PlS.eff_ ?_
 simp only [pickO,p1,p2,p3,p4]
 have c2:=HM.out.cells 2 rfl
 have f2:=fun j=>HM.out.frozen 2 j rfl
 replace HM:=K1 (HM.out.set6 (i:=2) rfl (.int .i64 t) (.int .i64 j) (.int .i64 x) (.int .i64 y) (.int .i64 k) (.int .i64 s))
 go_wp2_with fail
 refine After.go (HM.out.cells 1 rfl) ?_
 refine PlS.fin_ ?_
 clear c2 f2
 have c2:=HM.out.cells 2 rfl
 go_wp2_with fail
 refine bodyPost_ret (v:=.agg #[.int .i64 t,.int .i64 j,.int .i64 x,.int .i64 y,.int .i64 k,.int .i64 s]) ?_ rfl ⟨rfl,HM.out.bel 0 rfl⟩
 simp [results,Tryz.results135,go_sem,c2]
theorem castL_of:∀ {zs:List Int},(∀ z∈zs,1≤z)→∃ ns:List Nat,zs=castL ns∧∀ n∈ns,1≤n
 | [],_=>⟨[],rfl,by simp⟩
 | z::r,h=>by
   obtain ⟨ns,rfl,hn⟩:=castL_of (zs:=r) fun y hy=>h y (List.mem_cons_of_mem _ hy)
   have:=h z (List.mem_cons_self ..)
   exact ⟨z.toNat::ns,by simp [castL];omega,fun n hm=>(List.mem_cons.1 hm).elim (fun e=>by omega) (hn n)⟩
theorem epo_nat {st ba n:Nat} (hb:1≤ba) (hn:ba≤n) (hm:n≤1048576):epo 0 st ba n=(pcnt st (n / ba):Nat):=by
 rw [epo_yes (by omega)]
 have hq:1≤n / ba:=(Nat.le_div_iff_mul_le hb).2 (by omega)
 rw [← Int.natCast_ediv]
 generalize n / ba=q at *
 have e:(st:Int)+q-1=((st+q-1:Nat):Int):=by omega
 rw [e,← Int.natCast_ediv]
 congr 1
 unfold pcnt
 split
 · rename_i h0
   subst h0
   exact Nat.div_eq_of_lt (by omega)
 · rw [show st+q-1=st-1+q by omega,Nat.add_div_right _ hq]
theorem Gi.inp {g:Gi} {w:World} (h:g.Small) (ha:g.At w):∃ i:Inp,i.cells=g.cells∧i.Ok∧i.At w∧i.r.c.k≤6∧g.pl=rpC i.r.c i.r.p (.slice i.A i.r.ns.length i.cap):=by
 obtain ⟨A,cap,zs,DA,dcap,l,SA,scap,ss,RA,rcap,ds,sh,ra,mo,wo,ba,mi,st,bu,ch,wi,ca⟩:=g
 obtain ⟨a1,a2,a3,a4,a5,a6,a7,a8,a9,a10,a11,a12,a13⟩:=ha
 obtain ⟨h1,h2,h3,h4,h5,h6,h7⟩:=h
 dsimp only [Gi.code,Gi.cc,Gi.cells] at *
 have hcc:confCode zs ⟨sh,0,0,wo,ba,mi,st,bu,ch,wi,ca⟩=0:=by
  by_cases hk:confCode zs ⟨sh,0,0,wo,ba,mi,st,bu,ch,wi,ca⟩=0
  · exact hk
  · unfold inCode at h1
    rw [if_pos hk] at h1
    exact absurd h1 hk
 rw [hcc] at h1
 have hin:=h1
 have hz:=(conf_zero hcc).2.2.2
 have hconf:=hcc
 unfold confCode at hcc
 dsimp only at hcc
 split at hcc
 · cases hcc
 split at hcc
 · cases hcc
 split at hcc
 · omega
 split at hcc
 · cases hcc
 split at hcc
 · cases hcc
 rename_i b1 b2 b3 b4 b5
 have hn:numsOk ⟨sh,0,0,wo,ba,mi,st,bu,ch,wi,ca⟩=true:=by simpa using b4
 unfold numsOk at hn
 simp only [Bool.and_eq_true,Bool.or_eq_true,okSz_iff,decide_eq_true_eq] at hn
 have hall:zs.all okSz=true:=by
  unfold shCode at hz
  split at hz
  · cases hz
  split at hz
  · cases hz
  · next hq2 hq3 =>
    cases hb:zs.all okSz
    · first | exact absurd hb hq2 | exact absurd hb hq3 | exact absurd hb (by assumption)
    · rfl
 have htwo:=sizes_two hz
 obtain ⟨ns,rfl,hpos⟩:=castL_of (zs:=zs) fun z hm=>(okSz_iff.1 (List.all_eq_true.1 hall z hm)).1
 rw [List.length_map] at htwo
 unfold inCode at h1
 rw [if_neg (by omega)] at h1
 split at h1
 · cases h1
 split at h1
 · cases h1
 split at h1
 · cases h1
 rename_i n1 n2 n3
 have hfit:exFits (zAt (castL ns) 0) (zAt (castL ns) ((castL ns).length-1)) l=true:=by
  cases hf:exFits (zAt (castL ns) 0) (zAt (castL ns) ((castL ns).length-1)) l
  · exact absurd (.inl hf) n2
  · rfl
 have hcn:(ss.length:Int)=cnt (castL ns):=Decidable.byContradiction fun hc=>n2 (.inr hc)
 have hoff:=cnt_nat ns (by omega)
 have hpn:ss.length=offN ns (ns.length-1):=by omega
 obtain ⟨sh,rfl⟩:=Int.eq_ofNat_of_zero_le (show 0≤sh by omega)
 obtain ⟨wo,rfl⟩:=Int.eq_ofNat_of_zero_le (show 0≤wo by omega)
 obtain ⟨ba,rfl⟩:=Int.eq_ofNat_of_zero_le (show 0≤ba by omega)
 obtain ⟨mi,rfl⟩:=Int.eq_ofNat_of_zero_le (show 0≤mi by omega)
 obtain ⟨st,rfl⟩:=Int.eq_ofNat_of_zero_le (show 0≤st by omega)
 obtain ⟨bu,rfl⟩:=Int.eq_ofNat_of_zero_le (show 0≤bu by omega)
 obtain ⟨ch,rfl⟩:=Int.eq_ofNat_of_zero_le (show 0≤ch by omega)
 obtain ⟨wi,rfl⟩:=Int.eq_ofNat_of_zero_le (show 0≤wi by omega)
 obtain ⟨ca,rfl⟩:=Int.eq_ofNat_of_zero_le (show 0≤ca by omega)
 refine ⟨⟨⟨⟨sh,ra,mo,wo,ba,mi,st,bu,ch,wi,ca⟩,ss.length,ns,l.length,ds,l.map Ex.nums⟩,A,cap,DA,dcap,l,SA,scap,ss,RA,rcap⟩,?_,?_,?_,by dsimp only;omega,by simp [Gi.pl,rpC]⟩
 · simp [Inp.cells]
 · have hp1:1≤ss.length:=by
    obtain ⟨d,hd⟩:∃ d,ns.length-1=d+1:=⟨ns.length-2,by omega⟩
    have hm:=hpos _ (List.getElem_mem (l:=ns) (n:=d+1) (by omega))
    rw [hpn,hd,offN_succ,List.getElem?_eq_getElem (by omega)]
    simp only [Option.getD_some]
    omega
   refine ⟨⟨by dsimp only;omega,by dsimp only;omega,by dsimp only;omega,by dsimp only;omega,by dsimp only;omega,by dsimp only;omega,by dsimp only;omega,by dsimp only;omega,by dsimp only;omega⟩,by dsimp only;omega,⟨htwo,hpos,by rw [← hpn];omega⟩,hpn,by dsimp only;omega,⟨rfl,rfl⟩,?_,⟨rfl,a9⟩,?_,by simpa using a2,⟨a12,a13,by dsimp only;omega⟩,hconf,hz,hin⟩
   · refine ⟨ns[0],ns[ns.length-1],List.getElem?_eq_getElem (l:=ns) (i:=0) (by omega),List.getElem?_eq_getElem (l:=ns) (i:=ns.length-1) (by omega),fun e he=>?_⟩
     have hb:=List.all_eq_true.1 hfit e he
     have q0:zAt (castL ns) 0=(ns[0]'(by omega):Nat):=by
      unfold zAt
      rw [List.getD_eq_getElem?_getD,castL_at (List.getElem?_eq_getElem (by omega))]
      rfl
     have q1:zAt (castL ns) ((castL ns).length-1)=(ns[ns.length-1]'(by omega):Nat):=by
      unfold zAt
      rw [List.length_map,List.getD_eq_getElem?_getD,castL_at (List.getElem?_eq_getElem (by omega))]
      rfl
     rw [q0,q1] at hb
     unfold exBad at hb
     simp only [Bool.not_not,Bool.and_eq_true,decide_eq_true_eq] at hb
     exact ⟨by omega,by omega,(a6 e he).1,(a6 e he).2⟩
   · refine ⟨?_,by dsimp only;omega⟩
     dsimp only
     unfold nee at n3
     rw [epo_nat (by omega) (by omega) (by omega)] at n3
     have e:((l.length:Int)-1)=((l.length-1:Nat):Int):=by omega
     rw [e,← Int.natCast_mul] at n3
     omega
 · exact ⟨a1,a4,fun a hm=>by
    obtain ⟨e,he,hx⟩:=List.mem_flatMap.1 hm
    rcases List.mem_cons.1 hx with rfl | hx
    · exact (a4.2 e he).1
    · rw [List.mem_singleton.1 hx]
      exact (a4.2 e he).2.1,a7,a10⟩
def riO (base:Nat) (A:Option Addr) (c:Nat) (l:List It):Ch:=.own base 76 12 (.slice A l.length c) l.length (icells l)
theorem rit_app {Q:Exit→Act→World→Prop} {a:Act} {o:Oper} {ops:Array Oper} {rest:List Oper} (hgd:o.guard=none) (s x:Operand)
  (ho:o.op=.call { callee:=.builtin .append,args:=#[s,x],argTypes:=#[67,67] }) {W:World} {R:List Ch} {base:Nat} {A:Option Addr} {c n:Nat} {its:List It} (hn:its.length=n) (HM:Mem W (riO base A c its::R))
  (it:It) {cs:Array Value} (hcs:cs=it.cells.toArray) (hs:a.eval s=.slice A n c) (hx:a.eval x=.slice (some ⟨W.heap.size,0,none⟩) 1 1) (hl:n≤1000000000)
  (h:∀ A' c' w',Mem w' (riO base A' c' (its++[it])::R)→wpList Tryz.prog ops Q rest (a.put o.dst (.slice A' (n+1) c')) w'):wpList Tryz.prog ops Q (o::rest) a (W.alloc (.cells cs 76)):=by
 subst hcs
 subst hn
 have HM2:=HM.alloc (.cells it.cells.toArray 76)
 refine wpList_append_mem hgd s x 67 ho HM2 0 rowRI rfl hs _ 1 _ it.cells hx ?_ rfl (icells_one _) (by omega) ?_
 · have:=HM2.box (R.length+1) (g:=W.heap.size) (cs:=it.cells.toArray) (t:=76) (by simp)
   simpa using this
 · intro A' c' w' hm
   refine h A' c' w' ?_
   have h2:=hm.front (R.length+1)
   refine Mem.cast h2 ?_
   unfold riO
   rw [icells_snoc,List.length_append,List.length_singleton]
   simp
set_option maxRecDepth 100000 in
theorem rgroup_any (w:World) (R:List Ch) (c:Kf) (p u t:Nat) (sz:Value) (its:List It) (A:Option Addr) (cap base lo hi:Nat) (hM:Mem w (riO base A cap its::R)) (hc:c.Ok) (hp:p≤60) (hu:u<c.k) (hlo:lo≤hi) (hhi:hi≤(plBs c p).length) (hl:its.length≤200000000) :
  Calls Tryz.prog 94 #[.slice A its.length cap,.agg (rpC c p sz).toArray,.int .i64 u,.int .i64 t,.agg #[.int .i64 lo,.int .i64 hi]] w fun e w'=>∃ A' c',e=.returned (.slice A' (its++groupL (plBs c p) c.k c.s t u (lo,hi)).length c')∧Mem w' (riO base A' c' (its++groupL (plBs c p) c.k c.s t u (lo,hi))::R):=by
 have HJB:=K1 (fun W j x y (hj:(plBs c p)[j]?=some (x,y))=>rjob_any W c p t j sz x y hj hc.bu (by omega))
 have hbs:=plBs_ok hc hp
 have hk8:=hc.k
 have hs:=hc.s
 have HR2:=K1 (fun W j x y ph r (hj:(plBs c p)[j]?=some (x,y)) (hr:r+1<c.k) (hph:ph≤1)=>rround_any ⟨t,j,x,y,c.k,c.s⟩ u ph r W ⟨hk8.1,Nat.le_trans hk8.2 (by decide)⟩ hu hr hph (hbs.1 _ (List.mem_of_getElem? hj)).1 (hbs.1 _ (List.mem_of_getElem? hj)).2 hs)
 have HGL:=K1 (groupL_len (s:=c.s) (t:=t) (w:=u) (g:=(lo,hi)) hbs.1 hbs.2.1 hk8 hlo hhi)
 generalize plBs c p=bs at *
 obtain ⟨d,hd⟩:∃ d,d=c.k-1:=⟨_,rfl⟩
 obtain ⟨n,hn⟩:∃ n,n=hi-lo:=⟨_,rfl⟩
 have hn60:n≤60:=by have:=hbs.2.1;omega
 have hh60:hi≤60:=by have:=hbs.2.1;omega
 have hl0:(rndsTo bs c.k c.s t u lo n (2*d)).length≤2000*n*(2*d):=rndsTo_len hbs.1 hk8.1 (by omega) _
 obtain ⟨i1,hi1⟩:∃ i1,i1=its++fromTo 2 t lo n:=⟨_,rfl⟩
 obtain ⟨PL,hPL⟩:∃ PL:Nat→List It,PL=fun q=>i1++rndsTo bs c.k c.s t u lo n q:=⟨_,rfl⟩
 obtain ⟨QL,hQL⟩:∃ QL:Nat→Nat→List It,QL=fun q b=>PL q++rndBs bs c.k c.s t u q lo b:=⟨_,rfl⟩
 obtain ⟨RD,hRD⟩:∃ RD:Nat→Nat→List Ac,RD=fun q b=>roundL (jobOf bs c.k c.s t (lo+b)) u (q / d) (q % d):=⟨_,rfl⟩
 have HI1:=K1 hi1
 have P0:=K1 (show PL 0=i1 by rw [hPL];simp [rndsTo])
 have Q0:=K1 (show ∀ q,QL q 0=PL q by intro q;rw [hQL];simp [rndBs])
 have PS:=K1 (show ∀ q,PL (q+1)=QL q n by intro q;rw [hQL,hPL];simp only [];rw [rndsTo_succ,List.append_assoc])
 have QS:=K1 (show ∀ q b,QL q (b+1)=QL q b++(RD q b).map (actIt t) by intro q b;rw [hQL,hRD];simp only [];rw [rndBs_succ,List.append_assoc,rndB,hd])
 have RDE:=K1 (show ∀ q b ph r x y,q=ph*d+r→r<d→bs[lo+b]?=some (x,y)→RD q b=roundL ⟨t,lo+b,x,y,c.k,c.s⟩ u ph r by
  intro q b ph r x y hq hr hb
  have h1:q / d=ph:=by rw [hq,Nat.add_comm,Nat.add_mul_div_right _ _ (by omega),Nat.div_eq_of_lt hr,Nat.zero_add]
  have h2:q % d=r:=by rw [hq,Nat.add_comm,Nat.add_mul_mod_self_right,Nat.mod_eq_of_lt hr]
  rw [hRD]
  simp only []
  rw [h1,h2,jobOf_at hb])
 have HPLL:=K1 (show ∀ q,q≤2*d→(PL q).length≤300000000 by
  intro q hq
  rw [hPL]
  simp only []
  rw [List.length_append,hi1,List.length_append,fromTo_len]
  have h1:=rndsTo_len (s:=c.s) (t:=t) (w:=u) (lo:=lo) (n:=n) hbs.1 hk8.1 (by omega) q
  have h3:2000*n*q≤2000*60*14:=Nat.mul_le_mul (Nat.mul_le_mul_left _ hn60) (by omega)
  omega)
 have HQLL:=K1 (show ∀ q b,q≤2*d→b≤n→(QL q b).length≤400000000 by
  intro q b hq hb
  have h1:=rndBs_len (s:=c.s) (t:=t) (w:=u) (q:=q) (lo:=lo) hbs.1 hk8.1 b (by omega)
  have h2:=HPLL.out q hq
  rw [hQL]
  simp only []
  rw [List.length_append]
  omega)
 have HFIN:=K1 (show its++groupL bs c.k c.s t u (lo,hi)=PL (2*d)++fromTo 5 t lo n by
  rw [hPL,groupL,roundsL]
  simp only []
  rw [hi1,hd,hn]
  simp only [List.append_assoc])
 have HBO:=K1 (show ∀ b,b<n→∃ x y,bs[lo+b]?=some (x,y) by
  intro b hb
  obtain ⟨⟨x,y⟩,h⟩:=get_some bs (lo+b) (by omega)
  exact ⟨x,y,h⟩)
 have e0:(c.k:Int)-1=(d:Int):=by omega
 have hdk:∀ r,r<d→r+1<c.k:=by intro r hr;omega
 have HDK:=K1 hdk
 have hd8:d≤7:=by omega
 have hNN:=K1 hn
 rw [HFIN.out]
 clear HGL hl0 hPL hQL hRD hbs hdk hd hn
 have hm:=(((show Mem w ([riO base A cap its]++R) from hM).alloc (.cells (rpC c p sz).toArray 82)).fA.alloc (.cells #[.int .i64 lo,.int .i64 hi] 72)).fA
 simp only [World.size_alloc] at hm
 have HM0:=K1 (show Mem _ (riO base A cap its::.obj w.heap.size (.cells (rpC c p sz).toArray 82 (0,0))::.obj (w.heap.size+1) (.cells #[.int .i64 lo,.int .i64 hi] 72 (0,0))::R) from hm)
 clear hm hM
 obtain ⟨N0,hN0⟩:∃ N0,N0=its.length:=⟨_,rfl⟩
 rw [← hN0] at hl ⊢
 have HN0:=K1 hN0.symm
 clear hN0 hk8 hs hc
 obtain ⟨sh,ra,mo,k,ba,mi,st,bu,s,wi,ca⟩:=c
 dsimp only [rpC,Jb.cells] at *
 go_enter Tryz.func94,Tryz.ntmps94
 have c2:=HM0.out.cells 2 rfl
 go_wp2_with fail
 clear c2
 generalize w.heap.size=g0 at *
 obtain ⟨CP,hCP⟩:∃ CP:Obj,CP=.cells #[sz,.int .i64 sh,.int .i64 ra,.int .i64 mo,.int .i64 k,.int .i64 ba,.int .i64 mi,.int .i64 st,.int .i64 bu,.int .i64 s,.int .i64 wi,.int .i64 ca,.int .i64 p] 82 (0,0):=⟨_,rfl⟩
 have HCP:=K1 hCP
 replace HM0:=K1 (show Mem _ (riO base A cap its::.obj g0 CP::.obj (g0+1) (.cells #[.int .i64 lo,.int .i64 hi] 72 (0,0))::R) by rw [hCP];exact HM0.out)
 clear hCP
 go_loopw [0,11] (fun s0 s11 wr=>∃ (b:Nat) (A:Option Addr) (cc:Nat) (N:Nat),b≤n∧N≤200000060∧s0=.slice A N cc∧s11=.int .i64 (lo+b:Nat)∧Hid ((its++fromTo 2 t lo b).length=N∧Mem wr (riO base A cc (its++fromTo 2 t lo b)::.obj g0 CP::.obj (g0+1) (.cells #[.int .i64 lo,.int .i64 hi] 72 (0,0))::R))) (fun _ s11 _=>hi-(intOf s11).toNat)
 case atStart=>exact ⟨0,A,cap,N0,Nat.zero_le _,by omega,rfl,rfl,K1 (by rw [show its++fromTo 2 t lo 0=its by simp [fromTo]];exact ⟨HN0.out,HM0.out⟩)⟩
 case round =>
  clear HM0
  obtain ⟨b,A,cc,N,hb,hN,rfl,rfl,HM⟩:=hrel
  obtain ⟨j,hj⟩:∃ j,j=lo+b:=⟨_,rfl⟩
  rw [← hj]
  have hjb:j≤60:=by have:=hNN.out;omega
  have HJ:=K1 hj
  clear hj
  have c2:=HM.out.2.cells 2 rfl
  by_cases hlt:j<hi
  · have HLE:=K1 (show N≤200000059 by have h1:=HM.out.1;rw [List.length_append,fromTo_len] at h1;have:=HJ.out;have:=hNN.out;have:=HN0.out;omega)
    go_wp2_with (at_builtin;refine rit_app rfl _ _ rfl HM.out.1 HM.out.2 ⟨2,t,j,Ac.zero⟩ rfl rfl rfl (by omega) ?_;intro A' c' W' hM')
    have HM':=K1 hM'
    clear hM'
    go_wp2_with fail
    go_roundw
    case rel =>
     refine ⟨b+1,A',c',N+1,by have:=HJ.out;have:=hNN.out;omega,by have:=HLE.out;omega,rfl,congrArg (Value.int .i64) (by have:=HJ.out;omega),K1 ?_⟩
     rw [fromTo_succ,← List.append_assoc,plainIt,← HJ.out]
     exact ⟨by rw [List.length_append,HM.out.1];rfl,HM'.out⟩
    case measure=>simp [intOf];omega
  · have hbn:n=b:=by have:=HJ.out;have:=hNN.out;omega
    subst hbn
    have HM1:=K1 (show (PL 0).length=N∧Mem wr (riO base A cc (PL 0)::.obj g0 CP::.obj (g0+1) (.cells #[.int .i64 lo,.int .i64 hi] 72 (0,0))::R) by rw [P0.out,HI1.out];exact HM.out)
    clear HM HJ hjb
    go_wp2_with fail
    clear c2 hlt hb
    go_loopw [0,12] (fun s0 s12 wr=>∃ (ph:Nat) (A:Option Addr) (cc:Nat) (N:Nat),ph≤2∧N≤300000000∧s0=.slice A N cc∧s12=.int .i64 ph∧Hid ((PL (ph*d)).length=N∧Mem wr (riO base A cc (PL (ph*d))::.obj g0 CP::.obj (g0+1) (.cells #[.int .i64 lo,.int .i64 hi] 72 (0,0))::R))) (fun _ s12 _=>2-(intOf s12).toNat)
    case atStart=>exact ⟨0,A,cc,N,Nat.zero_le _,by omega,rfl,rfl,K1 (by rw [Nat.zero_mul];exact HM1.out)⟩
    case round =>
     clear HM1 hN
     obtain ⟨ph,A,cc,N,hph,hN,rfl,rfl,HM⟩:=hrel
     by_cases hlp:ph<2
     · go_wp2_with fail
       go_loopw [0,13] (fun s0 s13 wr=>∃ (r:Nat) (A:Option Addr) (cc:Nat) (N:Nat),r≤d∧N≤300000000∧s0=.slice A N cc∧s13=.int .i64 r∧Hid ((PL (ph*d+r)).length=N∧Mem wr (riO base A cc (PL (ph*d+r))::.obj g0 CP::.obj (g0+1) (.cells #[.int .i64 lo,.int .i64 hi] 72 (0,0))::R))) (fun _ s13 _=>d-(intOf s13).toNat)
       case atStart=>exact ⟨0,A,cc,N,Nat.zero_le _,by omega,rfl,rfl,K1 (by rw [Nat.add_zero];exact HM.out)⟩
       case round =>
        clear HM hN
        obtain ⟨r,A,cc,N,hr,hN,rfl,rfl,HM⟩:=hrel
        obtain ⟨q,hq⟩:∃ q,q=ph*d+r:=⟨_,rfl⟩
        rw [← hq] at HM
        have c1:=HM.out.2
        rw [HCP.out] at c1
        have c1:=c1.cells 1 rfl
        have c2:=HM.out.2.cells 2 rfl
        by_cases hlr:r<d
        · have hq2:q+1≤2*d:=by
           have h1:ph*d≤1*d:=Nat.mul_le_mul_right d (by omega)
           omega
          have HQ:=K1 hq
          have HQ2:=K1 hq2
          clear hq hq2
          replace HM:=K1 (show (QL q 0).length=N∧Mem wr (riO base A cc (QL q 0)::.obj g0 CP::.obj (g0+1) (.cells #[.int .i64 lo,.int .i64 hi] 72 (0,0))::R) by rw [Q0.out];exact HM.out)
          go_wp2_with fail
          clear c1 c2
          go_loopw [0,14] (fun s0 s14 wr=>∃ (b:Nat) (A:Option Addr) (cc:Nat) (N:Nat),b≤n∧N≤400000000∧s0=.slice A N cc∧s14=.int .i64 (lo+b:Nat)∧Hid ((QL q b).length=N∧Mem wr (riO base A cc (QL q b)::.obj g0 CP::.obj (g0+1) (.cells #[.int .i64 lo,.int .i64 hi] 72 (0,0))::R))) (fun _ s14 _=>hi-(intOf s14).toNat)
          case atStart=>exact ⟨0,A,cc,N,Nat.zero_le _,by omega,rfl,rfl,HM⟩
          case round =>
           clear HM hN
           obtain ⟨b,A,cc,N,hb,hN,rfl,rfl,HM⟩:=hrel
           obtain ⟨j,hj⟩:∃ j,j=lo+b:=⟨_,rfl⟩
           rw [← hj]
           have hjb:j≤60:=by have:=hNN.out;omega
           have c1:=HM.out.2
           rw [HCP.out] at c1
           have c1:=c1.cells 1 rfl
           have c2:=HM.out.2.cells 2 rfl
           by_cases hltb:j<hi
           · obtain ⟨x,y,hxy⟩:=HBO.out b (by have:=hNN.out;omega)
             have HRD:=K1 (RDE.out q b ph r x y HQ.out hlr hxy)
             rw [← hj] at hxy HRD
             have HXY:=K1 hxy
             have HJ:=K1 hj
             clear hxy hj
             have HQS:=K1 (QS.out q b)
             have HQN:=K1 (HQLL.out q (b+1) (by have:=HQ2.out;omega) (by have:=HJ.out;have:=hNN.out;omega))
             go_wp2_with fail
             refine (HJB.out _ j x y HXY.out).mono ?_
             rintro e w1 ⟨rfl,hb1⟩
             replace HM:=K1 (And.intro HM.out.1 (HM.out.2.below hb1))
             clear hb1 c1 c2
             go_wp2_with fail
             refine (HR2.out _ j x y ph r HXY.out (HDK.out r hlr) (by omega)).mono ?_
             rintro e w2 ⟨A4,c4,rfl,hc4,hm⟩
             have hrd:=rd_of_own (hm.own 1 rfl)
             have hA1:=own_from_base (hm.own 1 rfl)
             have hm2:=(show Mem w2 (([riO base A cc (QL q b),.obj g0 CP,.obj (g0+1) (.cells #[.int .i64 lo,.int .i64 hi] 72 (0,0))]++R)++[_]) from HM.out.2.push_rd (hm.bel 0 rfl) hrd hA1).fA
             have HM2:=K1 (And.intro HM.out.1 (show Mem w2 (riO base A cc (QL q b)::.obj g0 CP::.obj (g0+1) (.cells #[.int .i64 lo,.int .i64 hi] 72 (0,0))::.rd A4 (acells (roundL ⟨t,j,x,y,k,s⟩ u ph r))::R) from hm2))
             clear hm hrd hA1 hm2 HM
             rw [← HRD.out] at HM2 ⊢
             obtain ⟨acs,hacs⟩:∃ acs,acs=RD q b:=⟨_,rfl⟩
             rw [← hacs] at HM2 HQS ⊢
             clear hacs HRD
             obtain ⟨na,hna⟩:∃ na,na=acs.length:=⟨_,rfl⟩
             rw [← hna]
             obtain ⟨SL,hSL⟩:∃ SL:Nat→List It,SL=fun e=>QL q b++(acs.take e).map (actIt t):=⟨_,rfl⟩
             have S0:=K1 (show SL 0=QL q b by rw [hSL];simp)
             have SN:=K1 (show SL na=QL q (b+1) by rw [hSL,hna,HQS.out];simp)
             have SS:=K1 (show ∀ e a,acs[e]?=some a→SL (e+1)=SL e++[actIt t a] by intro e a he;rw [hSL];simp only [];rw [List.take_add_one,he,List.map_append,List.append_assoc];rfl)
             have SB:=K1 (show ∀ e,e≤na→(SL e).length≤400000000 by
              intro e he
              have h1:=HQN.out
              rw [HQS.out,List.length_append,List.length_map] at h1
              rw [hSL]
              simp only []
              rw [List.length_append,List.length_map,List.length_take]
              omega)
             have hnab:na≤400000000:=by
              have h1:=HQN.out
              rw [HQS.out,List.length_append,List.length_map] at h1
              omega
             have HNA:=K1 hna
             rw [← S0.out] at HM2
             clear hSL hna HQS HQN hN hb
             go_wp2_with fail
             go_loopw [0,16] (fun s0 s16 wr=>∃ (e:Nat) (A:Option Addr) (cc:Nat) (N:Nat),e≤na∧N≤400000000∧s0=.slice A N cc∧s16=.int .i64 e∧Hid ((SL e).length=N∧Mem wr (riO base A cc (SL e)::.obj g0 CP::.obj (g0+1) (.cells #[.int .i64 lo,.int .i64 hi] 72 (0,0))::.rd A4 (acells acs)::R))) (fun _ s16 _=>na-(intOf s16).toNat)
             case atStart=>exact ⟨0,A,cc,N,Nat.zero_le _,by have h1:=SB.out 0 (Nat.zero_le _);rw [HM2.out.1] at h1;exact h1,rfl,rfl,HM2⟩
             case round =>
              clear HM2
              obtain ⟨e,A,cc,N,he,hN,rfl,rfl,HM⟩:=hrel
              by_cases hlte:e<na
              · obtain ⟨a,ha⟩:=get_some acs e (by have:=HNA.out;omega)
                obtain ⟨b4,o4,rfl⟩:=HM.out.2.rdA 3 rfl (by rw [acells_len];have:=HNA.out;omega)
                have hact:=HM.out.2.action 3 rfl ha
                have HSS:=K1 (SS.out e a ha)
                clear ha
                obtain ⟨sd,ad,st',bk,ph',rd',ck,lo',hi'⟩:=a
                dsimp only at hact
                obtain ⟨q0,q1,q2,q3,q4,q5,q6,q7,q8⟩:=hact
                have HSB:=K1 (SB.out (e+1) (by omega))
                cases sd
                · go_wp2_with (at_builtin;refine rit_app rfl _ _ rfl HM.out.1 HM.out.2 ⟨4,t,0,⟨false,ad,st',bk,ph',rd',ck,lo',hi'⟩⟩ rfl rfl rfl (by omega) ?_;intro A' c' W' hM')
                  have HM':=K1 hM'
                  clear hM' q0 q1 q2 q3 q4 q5 q6 q7 q8
                  go_wp2_with fail
                  go_roundw
                  case rel =>
                   have h1:=HSB.out
                   rw [HSS.out,List.length_append,HM.out.1] at h1
                   refine ⟨e+1,A',c',N+1,by omega,h1,rfl,by go_num,K1 ?_⟩
                   rw [HSS.out]
                   exact ⟨by rw [List.length_append,HM.out.1];rfl,HM'.out⟩
                  case measure=>simp [intOf];omega
                · go_wp2_with (at_builtin;refine rit_app rfl _ _ rfl HM.out.1 HM.out.2 ⟨3,t,0,⟨true,ad,st',bk,ph',rd',ck,lo',hi'⟩⟩ rfl rfl rfl (by omega) ?_;intro A' c' W' hM')
                  have HM':=K1 hM'
                  clear hM' q0 q1 q2 q3 q4 q5 q6 q7 q8
                  go_wp2_with fail
                  go_roundw
                  case rel =>
                   have h1:=HSB.out
                   rw [HSS.out,List.length_append,HM.out.1] at h1
                   refine ⟨e+1,A',c',N+1,by omega,h1,rfl,by go_num,K1 ?_⟩
                   rw [HSS.out]
                   exact ⟨by rw [List.length_append,HM.out.1];rfl,HM'.out⟩
                  case measure=>simp [intOf];omega
              · have hen:e=na:=by omega
                subst hen
                have hm3:=(show Mem wr (([riO base A cc (SL e),.obj g0 CP,.obj (g0+1) (.cells #[.int .i64 lo,.int .i64 hi] 72 (0,0))]++[.rd A4 (acells acs)])++R) from HM.out.2).mid
                have HM3:=K1 (show (QL q (b+1)).length=N∧Mem wr (riO base A cc (QL q (b+1))::.obj g0 CP::.obj (g0+1) (.cells #[.int .i64 lo,.int .i64 hi] 72 (0,0))::R) by rw [← SN.out];exact ⟨HM.out.1,hm3⟩)
                clear hm3 HM
                go_wp2_with fail
                go_roundw
                case rel=>exact ⟨b+1,A,cc,N,by have:=HJ.out;have:=hNN.out;omega,hN,rfl,congrArg (Value.int .i64) (by have:=HJ.out;omega),HM3⟩
                case measure=>simp [intOf];omega
           · have hbn:b=n:=by have:=hNN.out;omega
             subst hbn
             have HM3:=K1 (show (PL (q+1)).length=N∧Mem wr (riO base A cc (PL (q+1))::.obj g0 CP::.obj (g0+1) (.cells #[.int .i64 lo,.int .i64 hi] 72 (0,0))::R) by rw [PS.out];exact HM.out)
             have HN3:=K1 (show N≤300000000 by have h1:=HPLL.out (q+1) HQ2.out;rw [HM3.out.1] at h1;exact h1)
             clear HM hj
             go_wp2_with fail
             go_roundw
             case rel=>exact ⟨r+1,by omega,A,cc,N,HN3.out,⟨rfl,rfl,rfl⟩,by omega,K1 (by rw [show ph*d+(r+1)=q+1 by rw [HQ.out];omega];exact HM3.out)⟩
             case measure=>simp [intOf];omega
        · have hrd:r=d:=by omega
          subst hrd
          have HM3:=K1 (show (PL ((ph+1)*r)).length=N∧Mem wr (riO base A cc (PL ((ph+1)*r))::.obj g0 CP::.obj (g0+1) (.cells #[.int .i64 lo,.int .i64 hi] 72 (0,0))::R) by rw [Nat.succ_mul,← hq];exact HM.out)
          clear HM hq
          go_wp2_with fail
          go_roundw
          case rel=>exact ⟨ph+1,A,cc,N,by omega,hN,rfl,by go_num,HM3⟩
          case measure=>simp [intOf];omega
     · have hp2:ph=2:=by omega
       subst hp2
       have c2:=HM.out.2.cells 2 rfl
       go_wp2_with fail
       clear c2
       go_loopw [0,18] (fun s0 s18 wr=>∃ (b:Nat) (A:Option Addr) (cc:Nat) (N:Nat),b≤n∧N≤300000060∧s0=.slice A N cc∧s18=.int .i64 (lo+b:Nat)∧Hid ((PL (2*d)++fromTo 5 t lo b).length=N∧Mem wr (riO base A cc (PL (2*d)++fromTo 5 t lo b)::.obj g0 CP::.obj (g0+1) (.cells #[.int .i64 lo,.int .i64 hi] 72 (0,0))::R))) (fun _ s18 _=>hi-(intOf s18).toNat)
       case atStart=>exact ⟨0,A,cc,N,Nat.zero_le _,by omega,rfl,rfl,K1 (by rw [show PL (2*d)++fromTo 5 t lo 0=PL (2*d) by simp [fromTo]];exact HM.out)⟩
       case round =>
        clear HM hN
        obtain ⟨b,A,cc,N,hb,hN,rfl,rfl,HM⟩:=hrel
        obtain ⟨j,hj⟩:∃ j,j=lo+b:=⟨_,rfl⟩
        rw [← hj]
        have hjb:j≤60:=by have:=hNN.out;omega
        have HJ:=K1 hj
        clear hj
        have c2:=HM.out.2.cells 2 rfl
        by_cases hlt:j<hi
        · have HLE:=K1 (show N≤300000059 by have h1:=HM.out.1;rw [List.length_append,fromTo_len] at h1;have:=HJ.out;have:=hNN.out;have:=HPLL.out (2*d) (Nat.le_refl _);omega)
          go_wp2_with (at_builtin;refine rit_app rfl _ _ rfl HM.out.1 HM.out.2 ⟨5,t,j,Ac.zero⟩ rfl rfl rfl (by omega) ?_;intro A' c' W' hM')
          have HM':=K1 hM'
          clear hM'
          go_wp2_with fail
          go_roundw
          case rel =>
           refine ⟨b+1,A',c',N+1,by have:=HJ.out;have:=hNN.out;omega,by have:=HLE.out;omega,rfl,congrArg (Value.int .i64) (by have:=HJ.out;omega),K1 ?_⟩
           rw [fromTo_succ,← List.append_assoc,plainIt,← HJ.out]
           exact ⟨by rw [List.length_append,HM.out.1];rfl,HM'.out⟩
          case measure=>simp [intOf];omega
        · have hbn:b=n:=by have:=HJ.out;have:=hNN.out;omega
          subst hbn
          go_wp2_with fail
          go_ret
          have hm3:=(show Mem wr (([riO base A cc (PL (2*d)++fromTo 5 t lo b)]++[.obj g0 CP,.obj (g0+1) (.cells #[.int .i64 lo,.int .i64 hi] 72 (0,0))])++R) from HM.out.2).mid
          exact ⟨A,cc,by rw [← List.length_append,HM.out.1];rfl,hm3⟩
end Go.Proofs.YtdpojpcoghcieaaGreat
