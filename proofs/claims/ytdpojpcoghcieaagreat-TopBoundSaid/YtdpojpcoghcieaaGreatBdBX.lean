/- A part of the proof of TopBound: RefItems, SchedNew. Conditions: none. -/
import Derived.Test.YtdpojpcoghcieaaGreatBdBW
set_option maxHeartbeats 8000000
namespace Go.Proofs.YtdpojpcoghcieaaGreat
open Lib renaming hid → K1
open List renaming filterMap_cons → p1, filterMap_nil → p2, getElem?_cons_zero → p3, getElem?_cons_succ → p4
open Go.RowKit
theorem groupsTo_zero (bs gs:List (Nat × Nat)) (k s t w:Nat):groupsTo bs gs k s t w 0=[]:=by simp [groupsTo]
set_option maxRecDepth 100000 in
theorem ritems_any (w:World) (c:Kf) (p u t:Nat) (sz:Value) (hc:c.Ok) (hp:p≤60) (hu:u<c.k) :
  Calls Tryz.prog 57 #[.agg (rpC c p sz).toArray,.int .i64 u,.int .i64 t] w fun e w'=>∃ A cc,e=.returned (.slice A (plIts c p t u).length cc)∧Mem w' (riO w.heap.size A cc (plIts c p t u)::.bel w.heap.size w::[]):=by
 have CB:=K1 (fun W=>rpbuckets_any W c p sz hc.bu (by omega))
 have CG:=K1 (fun W R its A cap base lo hi hM hlo hhi hl=>rgroup_any W R c p u t sz its A cap base lo hi hM hc hp hu hlo hhi hl)
 have hbs:=plBs_ok hc hp
 have hin:=plBs_in (p:=p) hc
 have CR:=K1 (fun W=>rgroups_any (plBs c p).length c.wi W (by have:=hbs.2.1;omega) hc.wi)
 have HE:=K1 (show plIts c p t u=fromTo 1 t 0 c.mi++groupsTo (plBs c p) (plGs c p) c.k c.s t u (plGs c p).length++[plainIt 6 t 0] by rw [plIts,itemsL,groupsTo,List.take_length])
 generalize plIts c p t u=RES at *
 rw [show blocksL (plBs c p).length c.wi=plGs c p from rfl] at CR
 have HGL:=K1 (fun m=>groupsTo_len (s:=c.s) (t:=t) (w:=u) hbs.1 hbs.2.1 hc.k hbs.2.2.1 m)
 have HGO:=K1 hbs.2.2.1
 have hgl:=hbs.2.2.2
 have hbl:=hbs.2.1
 have hmi:=hc.mi.2
 have huk:(u:Int)<(c.k:Int):=by omega
 have huk2:¬ (c.k:Int)≤(u:Int):=by omega
 clear hbs hin hu hp hc
 generalize plBs c p=bs at *
 generalize plGs c p=gs at *
 have hm0:=(Mem.start w).alloc (.cells (rpC c p sz).toArray 82)
 have hm1:=hm0.add (c:=riO w.heap.size none 0 []) ⟨own_nil _ _ _ _,by simp only [World.size_alloc];omega⟩ (fun _ _ _ _ g hg=>by cases hg)
 have HM0:=K1 (hm1.pick [2,0,1] [riO w.heap.size none 0 [],.bel w.heap.size w,.obj w.heap.size (.cells (rpC c p sz).toArray 82 (0,0))] rfl (by decide))
 clear hm0 hm1
 obtain ⟨sh,ra,mo,k,ba,mi,st,bu,s,wi,ca⟩:=c
 dsimp only [rpC] at *
 obtain ⟨ng,hng⟩:∃ ng,ng=gs.length:=⟨_,rfl⟩
 obtain ⟨nb,hnb⟩:∃ nb,nb=bs.length:=⟨_,rfl⟩
 rw [← hng] at CR HE hgl
 rw [← hnb] at CB CR CG hbl
 have HNG:=K1 hng
 have HNB:=K1 hnb
 clear hng hnb
 go_enter Tryz.func57,Tryz.ntmps57
 have c1:=HM0.out.cells 2 rfl
 go_wp2_with fail
 clear c1
 generalize hg0:w.heap.size=g0 at *
 have HG0:=K1 hg0
 clear hg0
 go_loopw [7,8] (fun s7 s8 wr=>∃ (n:Nat) (A:Option Addr) (cc:Nat),n≤mi∧s7=.slice A n cc∧s8=.int .i64 n∧Hid (Mem wr (riO g0 A cc (fromTo 1 t 0 n)::.bel g0 w::.obj g0 (.cells #[sz,.int .i64 sh,.int .i64 ra,.int .i64 mo,.int .i64 k,.int .i64 ba,.int .i64 mi,.int .i64 st,.int .i64 bu,.int .i64 s,.int .i64 wi,.int .i64 ca,.int .i64 p] 82 (0,0))::[]))) (fun _ s8 _=>mi-(intOf s8).toNat)
 case atStart=>exact ⟨0,none,0,Nat.zero_le _,rfl,rfl,HM0⟩
 case round =>
  clear HM0
  obtain ⟨n,A,cc,hn,rfl,rfl,HM⟩:=hrel
  have c1:=HM.out.cells 2 rfl
  by_cases hlt:n<mi
  · go_wp2_with (at_builtin;refine rit_app rfl _ _ rfl (fromTo_len 1 t 0 n) HM.out ⟨1,t,n,Ac.zero⟩ rfl rfl rfl (by omega) ?_;intro A' c' W' hM')
    have HM':=K1 hM'
    clear hM' c1
    go_wp2_with fail
    go_roundw
    case rel=>exact ⟨n+1,A',c',by omega,rfl,by go_num,K1 (by rw [fromTo_succ,Nat.zero_add];exact HM'.out)⟩
    case measure=>simp [intOf];omega
  · have hnm:n=mi:=by omega
    subst hnm
    go_wp2_with fail
    clear c1
    refine name_wp fun W0 hW=>?_
    replace HM:=K1 (hW.out.symm ▸ HM.out)
    clear hW
    refine wp_region_stage (.reads [0,3,4,5] (.eff 1 (.reads [2] (.eff 6 (.reads [7] (.fin)))))) 8 (fun W'=>∀ i,W'.cell? ⟨g0,i,none⟩=([sz,.int .i64 sh,.int .i64 ra,.int .i64 mo,.int .i64 k,.int .i64 ba,.int .i64 n,.int .i64 st,.int .i64 bu,.int .i64 s,.int .i64 wi,.int .i64 ca,.int .i64 p]:List Value)[i]?)
     (by kernel_rfl) (by kernel_rfl) (by intro d v c a w h;cases d <;> exact h) ?_
    replace HM:=K1 HM.out.drew
    generalize W0.drew=V at *
    refine PlS.reads_ (HM.out.cells 2 rfl) (by kernel_rfl) ?_
    simp only [pickO,p1,p2,p3,p4]
    apply Exists.intro
    apply And.intro
    · intro W' hS
      repeat still_step
      exact wpStill_nil rfl
    refine PlS.eff_ ?_
    simp only [pickO,p1,p2,p3,p4]
    go_wp2_with fail
    refine (CB.out _).mono ?_
    rintro e w1 ⟨A1,c1,rfl,hc1,hm⟩
    replace HM:=K1 (HM.out.below (hm.bel 0 rfl))
    clear hm CB
    go_wp2_with fail
    refine After.go (HM.out.cells 2 rfl) ?_
    refine PlS.reads_ (HM.out.cells 2 rfl) (by kernel_rfl) ?_
    simp only [pickO,p1,p2,p3,p4]
    apply Exists.intro
    apply And.intro
    · intro W' hS
      clear hS
      repeat still_step
      exact wpStill_nil rfl
    refine PlS.eff_ ?_
    simp only [pickO,p1,p2,p3,p4]
    go_wp2_with fail
    refine (CR.out _).mono ?_
    rintro e w2 ⟨A2,c2,rfl,hc2,hm⟩
    have hrd:=rd_of_own (hm.own 1 rfl)
    have hA1:=own_from_base (hm.own 1 rfl)
    replace HM:=K1 (HM.out.push_rd (hm.bel 0 rfl) hrd hA1)
    clear hm hrd hA1 CR
    go_wp2_with fail
    refine After.go (HM.out.cells 2 rfl) ?_
    refine PlS.reads_ (HM.out.cells 2 rfl) (by kernel_rfl) ?_
    simp only [pickO,p1,p2,p3,p4]
    apply Exists.intro
    apply And.intro
    · intro W' hS
      clear hS
      repeat still_step
      exact wpStill_nil rfl
    refine PlS.fin_ ?_
    go_wp2_with fail
    have HLN:=K1 (fun m (hm:m≤ng)=>show (fromTo 1 t 0 n++groupsTo bs gs k s t u m).length≤200000000 by rw [List.length_append,fromTo_len];have:=HGL.out m (by have:=HNG.out;omega);omega)
    replace HM:=K1 (show (fromTo 1 t 0 n++groupsTo bs gs k s t u 0).length=n∧Mem _ (riO g0 A cc (fromTo 1 t 0 n++groupsTo bs gs k s t u 0)::.bel g0 w::.obj g0 (.cells #[sz,.int .i64 sh,.int .i64 ra,.int .i64 mo,.int .i64 k,.int .i64 ba,.int .i64 n,.int .i64 st,.int .i64 bu,.int .i64 s,.int .i64 wi,.int .i64 ca,.int .i64 p] 82 (0,0))::.rd A2 (rcells gs)::[]) by rw [groupsTo_zero,List.append_nil];exact ⟨fromTo_len _ _ _ _,HM.out⟩)
    obtain ⟨its0,hI0⟩:∃ its0,its0=fromTo 1 t 0 n:=⟨_,rfl⟩
    rw [← hI0] at HM HLN HE
    clear hI0
    go_loopw [7,10] (fun s7 s10 wr=>∃ (m:Nat) (A:Option Addr) (cc N:Nat),m≤ng∧N≤200000000∧s7=.slice A N cc∧s10=.int .i64 m∧Hid ((its0++groupsTo bs gs k s t u m).length=N∧Mem wr (riO g0 A cc (its0++groupsTo bs gs k s t u m)::.bel g0 w::.obj g0 (.cells #[sz,.int .i64 sh,.int .i64 ra,.int .i64 mo,.int .i64 k,.int .i64 ba,.int .i64 n,.int .i64 st,.int .i64 bu,.int .i64 s,.int .i64 wi,.int .i64 ca,.int .i64 p] 82 (0,0))::.rd A2 (rcells gs)::[]))) (fun _ s10 _=>ng-(intOf s10).toNat)
    case atStart=>exact ⟨0,A,cc,n,Nat.zero_le _,by omega,rfl,rfl,HM⟩
    case round =>
     clear HM
     obtain ⟨m,A,cc,N,hm,hN,rfl,rfl,HM⟩:=hrel
     by_cases hltm:m<ng
     · obtain ⟨⟨lo,hi⟩,hp⟩:=get_some gs m (by have:=HNG.out;omega)
       have HPP:=K1 (HGO.out _ (List.mem_of_getElem? hp))
       obtain ⟨bg,og,rfl,_⟩:=HM.out.2.ranges 3 rfl (by have:=HNG.out;omega)
       have HP:=K1 hp
       have HSN:=K1 (groupsTo_succ (bs:=bs) (k:=k) (s:=s) (t:=t) (w:=u) hp)
       clear hp
       have HL:=K1 HM.out.1
       replace HM:=K1 HM.out.2
       go_wp2_with fail
       refine name_wp fun W0 hW=>?_
       replace HM:=K1 (hW.out.symm ▸ HM.out)
       clear hW
       refine wp_region_stage (.reads [0,1,2,3,4,5,6,7] (.eff 8 (.reads [9] (.fin)))) 10 (fun W'=>(∀ i,W'.cell? ⟨g0,i,none⟩=([sz,.int .i64 sh,.int .i64 ra,.int .i64 mo,.int .i64 k,.int .i64 ba,.int .i64 n,.int .i64 st,.int .i64 bu,.int .i64 s,.int .i64 wi,.int .i64 ca,.int .i64 p]:List Value)[i]?)∧W'.cell? ⟨bg,og+m*2,none⟩=some (.int .i64 lo)∧W'.cell? ⟨bg,og+m*2+1,none⟩=some (.int .i64 hi))
        (by kernel_rfl) (by kernel_rfl) (by intro d v c a w h;cases d <;> exact h) ?_
       replace HM:=K1 HM.out.drew
       generalize W0.drew=V at *
       refine PlS.reads_ ⟨HM.out.cells 2 rfl,HM.out.range2 3 rfl HP.out⟩ (by kernel_rfl) ?_
       simp only [pickO,p1,p2,p3,p4]
       apply Exists.intro
       apply And.intro
       · intro W' hS
         obtain ⟨s0,s1,s2⟩:=hS
         repeat still_step
         exact wpStill_nil rfl
       refine PlS.eff_ ?_
       simp only [pickO,p1,p2,p3,p4]
       go_wp2_with fail
       have CG2:=CG.out V _ (its0++groupsTo bs gs k s t u m) A cc g0 lo hi HM.out HPP.out.1 (by have:=HPP.out.2;have:=HNB.out;omega) (by rw [HL.out];exact hN)
       rw [HL.out] at CG2
       refine CG2.mono ?_
       rintro e w4 ⟨A5,c5,rfl,hm5⟩
       clear CG2
       rw [List.append_assoc,← HSN.out] at hm5 ⊢
       replace HM:=K1 hm5
       clear hm5
       obtain ⟨N5,hN5⟩:∃ N5,N5=(its0++groupsTo bs gs k s t u (m+1)).length:=⟨_,rfl⟩
       rw [← hN5]
       have HN5:=K1 hN5.symm
       clear hN5
       go_wp2_with fail
       refine After.go ⟨HM.out.cells 2 rfl,HM.out.range2 3 rfl HP.out⟩ ?_
       refine PlS.reads_ ⟨HM.out.cells 2 rfl,HM.out.range2 3 rfl HP.out⟩ (by kernel_rfl) ?_
       simp only [pickO,p1,p2,p3,p4]
       apply Exists.intro
       apply And.intro
       · intro W' hS
         clear hS
         repeat still_step
         exact wpStill_nil rfl
       refine PlS.fin_ ?_
       go_wp2_with fail
       go_roundw
       case rel=>exact ⟨m+1,A5,c5,N5,by omega,by rw [← HN5.out];exact HLN.out (m+1) (by omega),rfl,by go_num,K1 ⟨HN5.out,HM.out⟩⟩
       case measure=>simp [intOf];omega
     · have hmn:m=ng:=by omega
       subst hmn
       go_wp2_with (at_builtin;refine rit_app rfl _ _ rfl HM.out.1 HM.out.2 ⟨6,t,0,Ac.zero⟩ rfl rfl rfl (by omega) ?_;intro A' c' W' hM')
       have HM':=K1 hM'
       clear hM'
       go_wp2_with fail
       go_ret
       rw [HG0.out]
       have hE:RES=its0++groupsTo bs gs k s t u m++[plainIt 6 t 0]:=HE.out
       exact ⟨A',c',by rw [hE,List.length_append,HM.out.1];rfl,by rw [hE];exact HM'.out.front 2⟩
set_option maxRecDepth 100000 in
theorem rtotal_any (w:World) (c:Kf) (p:Nat) (sz:Value) (hc:c.Ok) (hp:p≤60) :
  Calls Tryz.prog 23 #[.agg (rpC c p sz).toArray] w fun e w'=>e=.returned (.int .i64 ((c.st*sumR (fun u=>(plIts c p 0 u).length) c.k:Nat):Int))∧Below w.heap.size w w':=by
 have CI:=K1 (fun W u (hu:u<c.k)=>ritems_any W c p u 0 sz hc hp hu)
 have hbs:=plBs_ok hc hp
 have HLN:=K1 (show ∀ u,(plIts c p 0 u).length≤200000000 by
  intro u
  rw [plIts,itemsL,List.length_append,List.length_append,fromTo_len]
  have h1:=groupsTo_len (s:=c.s) (t:=0) (w:=u) hbs.1 hbs.2.1 hc.k hbs.2.2.1 (plGs c p).length (Nat.le_refl _)
  rw [groupsTo,List.take_length] at h1
  have h2:=hbs.2.2.2
  have h3:=hc.mi.2
  simp only [List.length_singleton]
  omega)
 obtain ⟨F,hF⟩:∃ F:Nat→Nat,F=fun u=>(plIts c p 0 u).length:=⟨_,rfl⟩
 rw [← hF]
 have CI2:=K1 (show ∀ W u,u<c.k→Calls Tryz.prog 57 #[.agg (rpC c p sz).toArray,.int .i64 u,.int .i64 0] W fun e w'=>∃ A cc,e=.returned (.slice A (F u) cc)∧Below W.heap.size W w' by
  intro W u hu
  refine (CI.out W u hu).mono ?_
  rintro e w' ⟨A,cc,rfl,hm⟩
  exact ⟨A,cc,by rw [hF],hm.bel 1 rfl⟩)
 have HSB:=K1 (show ∀ n,sumR F n≤200000000*n by
  intro n
  induction n with
  | zero=>simp [sumR]
  | succ n ih =>
    have h1:=HLN.out n
    have h2:sumR F (n+1)=sumR F n+F n:=rfl
    rw [h2,hF] at *
    simp only [] at *
    omega)
 clear CI HLN hF hbs
 have HM0:=K1 ((Mem.start w).alloc (.cells (rpC c p sz).toArray 82))
 have hk8:=hc.k.2
 have hst:=hc.st
 clear hc hp
 obtain ⟨sh,ra,mo,k,ba,mi,st,bu,s,wi,ca⟩:=c
 dsimp only [rpC] at *
 obtain ⟨TT,hTT⟩:∃ TT,TT=st*sumR F k:=⟨_,rfl⟩
 rw [← hTT]
 have HTT:=K1 hTT
 clear hTT
 go_enter Tryz.func23,Tryz.ntmps23
 go_wp2_with fail
 generalize hg0:w.heap.size=g0 at *
 have HG0:=K1 hg0
 clear hg0
 go_loopw [3,4] (fun s3 s4 wr=>∃ (u S:Nat),u≤k∧S≤1600000000∧s3=.int .i64 S∧s4=.int .i64 u∧Hid (sumR F u=S∧Mem wr (.bel g0 w::.obj g0 (.cells #[sz,.int .i64 sh,.int .i64 ra,.int .i64 mo,.int .i64 k,.int .i64 ba,.int .i64 mi,.int .i64 st,.int .i64 bu,.int .i64 s,.int .i64 wi,.int .i64 ca,.int .i64 p] 82 (0,0))::[]))) (fun _ s4 _=>k-(intOf s4).toNat)
 case atStart=>exact ⟨0,0,Nat.zero_le _,by omega,rfl,rfl,K1 ⟨rfl,HM0.out⟩⟩
 case round =>
  clear HM0
  obtain ⟨u,S,hu,hS,rfl,rfl,HM⟩:=hrel
  have c1:=HM.out.2.cells 1 rfl
  by_cases hlt:u<k
  · go_wp2_with fail
    refine (CI2.out _ u hlt).mono ?_
    rintro e w1 ⟨A,cc,rfl,hb⟩
    replace HM:=K1 (And.intro HM.out.1 (HM.out.2.below hb))
    have h2:sumR F (u+1)=S+F u:=by rw [← HM.out.1];rfl
    have h3:S+F u≤1600000000:=by
     have h4:=HSB.out (u+1)
     have h5:200000000*(u+1)≤200000000*8:=Nat.mul_le_mul_left _ (by omega)
     omega
    have H2:=K1 h2
    clear hb c1 h2
    generalize F u=f at *
    go_wp2_with fail
    go_roundw
    case rel=>exact ⟨u+1,S+f,by omega,h3,by go_num,by go_num,K1 ⟨H2.out,HM.out.2⟩⟩
    case measure=>simp [intOf];omega
  · have huk:u=k:=by omega
    subst huk
    have hmul:st*S≤1000*1600000000:=Nat.mul_le_mul hst hS
    have e1:(S:Int)*(st:Int)=((st*S:Nat):Int):=by rw [Int.natCast_mul,Int.mul_comm]
    obtain ⟨T,hT⟩:∃ T,T=st*S:=⟨_,rfl⟩
    rw [← hT] at e1 hmul
    have HT:=K1 hT
    clear hT
    go_wp2_with fail
    go_ret
    rw [HG0.out]
    exact ⟨by rw [HTT.out,HM.out.1,← HT.out];rfl,HM.out.2.bel 0 rfl⟩
theorem infoIf:(Tryz.prog.info? 127).map (fun i=>(i.zero,i.size,i.bytes))=some (some .nilIface,1,16):=by kernel_rfl
theorem rowIf:RowT Tryz.prog 91 127 1 16:=by
 obtain ⟨i0,hi,hz0,hz1,hz2⟩:=info_parts infoIf
 exact ⟨i0,_,Tryz.underlying91,hi,hz0,hz1,hz2,rfl,by decide,by decide⟩
theorem infoPL:(Tryz.prog.info? 98).map (fun i=>(i.zero,i.size,i.bytes))=some (some (.pointer none),1,8):=by kernel_rfl
theorem rowPL:RowT Tryz.prog 92 98 1 8:=by
 obtain ⟨i0,hi,hz0,hz1,hz2⟩:=info_parts infoPL
 exact ⟨i0,_,Tryz.underlying92,hi,hz0,hz1,hz2,rfl,by decide,by decide⟩
def swP (w:World) (gx:Nat) (i:Inp) (Aw:Option Addr) (k cw:Nat) (Al:Option Addr) (q cl:Nat) (ms:List Mc) (ls:List Ln):List Ch :=
 [.bel w.heap.size w,.obj w.heap.size (.cells #[.slice i.A i.r.ns.length i.cap,.int .i64 i.r.c.sh,.int .i64 i.r.c.ra,.int .i64 i.r.c.mo,.int .i64 i.r.c.k,.int .i64 i.r.c.ba,.int .i64 i.r.c.mi,.int .i64 i.r.c.st,.int .i64 i.r.c.bu,.int .i64 i.r.c.s,.int .i64 i.r.c.wi,.int .i64 i.r.c.ca,.slice i.DA i.r.n i.dcap,.slice i.SA i.r.p i.scap,.slice i.RA i.r.ds.length i.rcap] 29 (0,0)),.obj gx (.cells #[.slice Aw k cw,.slice Al q cl,.int .i64 0] 94 (0,0)),.own w.heap.size 127 1 (.slice Aw k cw) k (ms.map fun m=>ifV m.f.g),.own w.heap.size 98 1 (.slice Al q cl) q (ls.map fun l=>ptV l.g)]
def SwOk (i:Inp) (k:Nat) (ms:List Mc) (ls:List Ln):Prop:=ms.length=k∧ls.length=k∧(∀ (u:Nat) (m:Mc),ms[u]?=some m→m.Ok∧m.f.u=u∧m.f.Of i.r∧m.abs=iniA i)∧∀ l∈ls,l.Ok∧l.cap=i.r.c.ca∧l.se=0∧l.q=[]
theorem SwOk.snoc {i:Inp} {k:Nat} {ms:List Mc} {ls:List Ln} (h:SwOk i k ms ls) {m:Mc} {l:Ln} (hm:m.Ok∧m.f.u=k∧m.f.Of i.r∧m.abs=iniA i) (hl:l.Ok∧l.cap=i.r.c.ca∧l.se=0∧l.q=[]):SwOk i (k+1) (ms++[m]) (ls++[l]):=by
 obtain ⟨h1,h2,h3,h4⟩:=h
 refine ⟨by rw [List.length_append,h1];rfl,by rw [List.length_append,h2];rfl,fun u n hn=>?_,fun x hx=>?_⟩
 · rcases Nat.lt_trichotomy u k with h5 | h5 | h5
   · rw [List.getElem?_append_left (by omega)] at hn
     exact h3 u n hn
   · subst h5
     rw [← h1,List.getElem?_concat_length] at hn
     injection hn with hn
     subst hn
     exact hm
   · rw [List.getElem?_eq_none (by rw [List.length_append,h1];simp;omega)] at hn
     cases hn
 · rcases List.mem_append.1 hx with hx | hx
   · exact h4 x hx
   · rw [List.mem_singleton.1 hx];exact hl
theorem sw_perm (X A B M L:List Ch):(X++(L++((A++B)++M))).Perm (X++((A++M)++(B++L))) :=
 List.Perm.append_left X (List.perm_append_comm.trans (by
  simp only [List.append_assoc]
  exact List.Perm.append_left A (perm_swap_mid B M L)))
def newLn (g base cap:Nat):Ln:=⟨g,base,cap,none,0,0,0,0,0,[]⟩
theorem newLn_ok {g base cap:Nat} (h:1≤cap∧cap≤1048576):(newLn g base cap).Ok∧(newLn g base cap).q=[] :=
 ⟨⟨⟨rfl,by show 0=min 0 cap;omega,Nat.le_refl _,Nat.zero_le _,h,fun m hm=>by cases hm⟩,Nat.zero_le _⟩,qL_nil _ _ _⟩
set_option maxRecDepth 100000 in
theorem snew_any (w:World) (i:Inp) (hi:i.Ok) (ha:i.At w) :
  Calls Tryz.prog 9 #[.agg i.cells.toArray] w fun e w'=>∃ x:Wv,e=.returned (.tuple #[.pointer (some ⟨x.g,0,none⟩),.int .i64 0])∧x.Ok i.r∧x.count=0∧(∀ m∈x.ms,m.abs=iniA i)∧(∀ l∈x.ls,l.q=[])∧Mem w' (x.ps++[.bel w.heap.size w]):=by
 have CI:Hid (∀ W,Below w.heap.size w W→Calls Tryz.prog 28 #[.agg i.cells.toArray] W fun e w'=>e=.returned (.int .i64 0)∧Below W.heap.size W w'):=K1 (fun W hb=>by
  have h0:=ha.below hb
  have hl:=hi.l.1
  have h2:=input_good i.A i.DA i.SA i.RA i.cap i.dcap i.r.p i.scap i.r.ds.length i.rcap (castL i.r.ns) i.l i.r.c.sh i.r.c.ra i.r.c.mo i.r.c.k i.r.c.ba i.r.c.mi i.r.c.st i.r.c.bu i.r.c.s i.r.c.wi i.r.c.ca W h0.ns (by simpa using hi.cap) (by have:=hi.ns.len;simp;omega) h0.l (by have:=hi.n.1;omega) hi.conf
  rw [show confCode (castL i.r.ns) ⟨i.r.c.sh,0,0,i.r.c.k,i.r.c.ba,i.r.c.mi,i.r.c.st,i.r.c.bu,i.r.c.s,i.r.c.wi,i.r.c.ca⟩=0 from hi.conf,hi.input] at h2
  simp only [List.length_map] at h2
  rw [hl] at h2
  exact h2)
 have CM:=K1 (fun W (hb:Below w.heap.size w W) u hu=>mnew_any W i hi (ha.below hb) u hu)
 have CL:=K1 (fun W=>linkNew_any W i.r.c.ca hi.c.ca)
 have HI:=K1 hi
 have HM:=K1 ((Mem.start w).alloc (.cells i.cells.toArray 29))
 have hk8:=hi.c.k
 dsimp only [Inp.cells] at *
 clear ha hi
 go_enter Tryz.func9,Tryz.ntmps9
 have c1:=HM.out.cells 1 rfl
 go_wp2_with fail
 refine (CI.out _ (HM.out.bel 0 rfl)).mono ?_
 rintro e w1 ⟨rfl,hb⟩
 replace HM:=K1 ((HM.out.below hb).alloc (.cells #[.slice none 0 0,.slice none 0 0,.int .i64 0] 94))
 clear hb CI c1
 have c1:=HM.out.cells 1 rfl
 generalize hgx:w1.heap.size=gx at *
 go_wp2_with fail
 have HM0:=K1 (show Mem _ (swP w gx i none 0 0 none 0 0 [] []++(([]:List Mc).flatMap Mc.ps++([]:List Ln).flatMap Ln.ps)) from (HM.out.add (c:=.own w.heap.size 127 1 (.slice none 0 0) 0 []) ⟨own_nil _ _ _ _,(HM.out.bel 0 rfl).size⟩ (fun _ _ _ _ g hg=>by cases hg)).add (c:=.own w.heap.size 98 1 (.slice none 0 0) 0 []) ⟨own_nil _ _ _ _,(HM.out.bel 0 rfl).size⟩ (fun _ _ _ _ g hg=>by cases hg))
 clear HM c1 hgx
 go_loopw [19] (fun s19 wr=>∃ (k:Nat) (Aw:Option Addr) (cw:Nat) (Al:Option Addr) (cl:Nat) (ms:List Mc) (ls:List Ln),k≤i.r.c.k∧s19=.int .i64 k∧Hid (SwOk i k ms ls)∧Hid (Mem wr (swP w gx i Aw k cw Al k cl ms ls++(ms.flatMap Mc.ps++ls.flatMap Ln.ps)))) (fun s19 _=>i.r.c.k-(intOf s19).toNat)
 case atStart=>exact ⟨0,none,0,none,0,[],[],Nat.zero_le _,rfl,K1 ⟨rfl,rfl,fun u m h=>by simp at h,fun l h=>by cases h⟩,HM0⟩
 case round =>
  clear HM0
  obtain ⟨k,Aw,cw,Al,cl,ms,ls,hk,rfl,HS,HM⟩:=hrel
  by_cases hlt:k<i.r.c.k
  · have c1:=HM.out.cells 1 rfl
    go_wp2_with fail
    refine (CM.out _ (HM.out.bel 0 rfl) k hlt).mono ?_
    rintro e w2 ⟨m,rfl,hm1,hm2,hm3,hm4,hm5,hm6⟩
    have hj:=HM.out.join hm6 (fun c hc hm g hg=>hm5 c hc hm g hg)
    rw [List.append_assoc] at hj
    have HMM:=K1 (And.intro hm1 (And.intro hm2 (And.intro hm3 hm4)))
    have c2:=(blk_cells (hj.obj 2 rfl) 0).trans (show _=some (.slice Aw k cw) from rfl)
    have f2:=fun j=>hj.frozen 2 j rfl
    have HM3:=K1 (hj.alloc (.cells #[ifV m.f.g] 127)).fA
    dsimp only [ifV] at HM3
    clear hm1 hm2 hm3 hm4 hm5 hm6 hj HM c1
    go_wp2_with (at_builtin;refine wpList_append_mem (n:=k) rfl _ _ 91 rfl HM3.out 3 rowIf rfl rfl _ 1 _ [.iface 95 (.pointer (some ⟨m.f.g,0,none⟩))] rfl (HM3.out.box 5 rfl) rfl (by intro u hu;simp at hu;subst hu;rfl) (by omega) ?_;intro A' c' W4 hM4;have c2:=(blk_cells (hM4.obj 2 rfl) 0).trans (show _=some (.slice Aw k cw) from rfl);have f2:=fun j=>hM4.frozen 2 j rfl;have HM5:=K1 (((hM4.fS rfl).set (i:=2) (j:=0) rfl (.slice A' (k+1) c')).fS rfl))
    clear HM3
    refine name_wp fun W5 hW=>?_
    replace HM5:=K1 (show Mem W5 ([.bel w.heap.size w,.obj w.heap.size (.cells #[.slice i.A i.r.ns.length i.cap,.int .i64 i.r.c.sh,.int .i64 i.r.c.ra,.int .i64 i.r.c.mo,.int .i64 i.r.c.k,.int .i64 i.r.c.ba,.int .i64 i.r.c.mi,.int .i64 i.r.c.st,.int .i64 i.r.c.bu,.int .i64 i.r.c.s,.int .i64 i.r.c.wi,.int .i64 i.r.c.ca,.slice i.DA i.r.n i.dcap,.slice i.SA i.r.p i.scap,.slice i.RA i.r.ds.length i.rcap] 29 (0,0)),.obj gx (.cells #[.slice A' (k+1) c',.slice Al k cl,.int .i64 0] 94 (0,0)),.own w.heap.size 127 1 (.slice A' (k+1) c') (k+1) (ms.map (fun m=>ifV m.f.g)++[ifV m.f.g]),.own w.heap.size 98 1 (.slice Al k cl) k (ls.map fun l=>ptV l.g),.obj w2.heap.size (.cells #[ifV m.f.g] 127 (0,0))]++((ms.flatMap Mc.ps++ls.flatMap Ln.ps)++m.ps)) from HM5.out.inW hW.out)
    clear hW
    refine wp_region_stage (.reads [0,1,2,3,4,5,6,7] (.eff 8 (.eff 9 (.eff 10 (.eff 11 (.reads [12] (.eff 13 .fin))))))) 13 (fun W'=>(∀ j,W'.cell? ⟨w.heap.size,j,none⟩=([.slice i.A i.r.ns.length i.cap,.int .i64 i.r.c.sh,.int .i64 i.r.c.ra,.int .i64 i.r.c.mo,.int .i64 i.r.c.k,.int .i64 i.r.c.ba,.int .i64 i.r.c.mi,.int .i64 i.r.c.st,.int .i64 i.r.c.bu,.int .i64 i.r.c.s,.int .i64 i.r.c.wi,.int .i64 i.r.c.ca,.slice i.DA i.r.n i.dcap,.slice i.SA i.r.p i.scap,.slice i.RA i.r.ds.length i.rcap]:List Value)[j]?)∧W'.cell? ⟨gx,1,none⟩=some (.slice Al k cl))
     (by kernel_rfl) (by kernel_rfl) (by intro d v c a w h;cases d <;> exact h) ?_
    replace HM5:=K1 HM5.out.drew
    generalize W5.drew=V5 at *
    refine PlS.reads_ ⟨HM5.out.cells 1 rfl,HM5.out.cells 2 rfl 1⟩ (by kernel_rfl) ?_
    simp only [pickO,p1,p2,p3,p4]
    apply Exists.intro
    apply And.intro
    · intro W' hS
      obtain ⟨s1,s2⟩:=hS
      repeat still_step
      exact wpStill_nil rfl
    refine PlS.eff_ ?_
    simp only [pickO,p1,p2,p3,p4]
    go_wp2_with fail
    refine (CL.out _).mono ?_
    rintro e w6 ⟨rfl,hw6⟩
    replace HM5:=K1 ((((((HM5.out.alloc_ hw6).fA).add (c:=.own 0 78 6 (.slice none 0 0) 0 (mcells [])) ⟨own_nil _ _ _ _,Nat.zero_le _⟩ (fun _ _ _ _ g hg=>by cases hg)).fA).add (c:=famCh (lfam [])) (fam_local (fun a ha=>by cases ha)) (fun _ _ _ _ g hg=>by obtain ⟨a,ha,_⟩:=hg;cases ha)).fA)
    clear hw6
    generalize V5.heap.size=gl at *
    go_wp2_with fail
    refine After.go ⟨HM5.out.cells 1 rfl,HM5.out.cells 2 rfl 1⟩ ?_
    refine PlS.eff_ ?_
    simp only [pickO,p1,p2,p3,p4]
    go_wp2_with fail
    refine name_after fun W7 hW=>?_
    replace HM5:=K1 ((HM5.out.alloc_ hW.out).fA)
    clear hW
    refine After.go ⟨HM5.out.cells 1 rfl,HM5.out.cells 2 rfl 1⟩ ?_
    refine PlS.eff_ ?_
    simp only [pickO,p1,p2,p3,p4]
    refine wpList_append_mem (n:=k) rfl _ _ 92 rfl HM5.out 4 rowPL rfl rfl _ 1 _ [.pointer (some ⟨gl,0,none⟩)] rfl (HM5.out.box 9 rfl) rfl (by intro u hu;simp at hu;subst hu;rfl) (by omega) ?_
    intro A2 c2' W8 hM8
    replace HM5:=K1 (hM8.fS rfl)
    clear hM8
    go_wp2_with fail
    refine After.go ⟨HM5.out.cells 1 rfl,HM5.out.cells 2 rfl 1⟩ ?_
    refine PlS.eff_ ?_
    simp only [pickO,p1,p2,p3,p4]
    go_wp2_with fail
    refine After.go ⟨HM5.out.cells 1 rfl,HM5.out.cells 2 rfl 1⟩ ?_
    refine PlS.reads_ ⟨HM5.out.cells 1 rfl,HM5.out.cells 2 rfl 1⟩ (by kernel_rfl) ?_
    simp only [pickO,p1,p2,p3,p4]
    apply Exists.intro
    apply And.intro
    · intro W' hS
      obtain ⟨s1,s2⟩:=hS
      repeat still_step
      exact wpStill_nil rfl
    refine PlS.eff_ ?_
    simp only [pickO,p1,p2,p3,p4]
    have d2:=HM5.out.cells 2 rfl
    have g2:=fun j=>HM5.out.frozen 2 j rfl
    replace HM5:=K1 ((HM5.out.set (i:=2) (j:=1) rfl (.slice A2 (k+1) c2')).fS rfl)
    go_wp2_with fail
    refine After.last (by decide) (PlS.fin_ ?_)
    clear d2 g2
    go_wp2_with fail
    go_roundw
    case rel =>
     refine ⟨k+1,A',c',A2,c2',ms++[m],ls++[newLn gl 0 i.r.c.ca],by omega,by go_num,K1 (HS.out.snoc HMM.out ⟨(newLn_ok HI.out.c.ca).1,rfl,rfl,(newLn_ok HI.out.c.ca).2⟩),K1 ?_⟩
     have h8:Mem _ ((([.bel w.heap.size w,.obj w.heap.size (.cells #[.slice i.A i.r.ns.length i.cap,.int .i64 i.r.c.sh,.int .i64 i.r.c.ra,.int .i64 i.r.c.mo,.int .i64 i.r.c.k,.int .i64 i.r.c.ba,.int .i64 i.r.c.mi,.int .i64 i.r.c.st,.int .i64 i.r.c.bu,.int .i64 i.r.c.s,.int .i64 i.r.c.wi,.int .i64 i.r.c.ca,.slice i.DA i.r.n i.dcap,.slice i.SA i.r.p i.scap,.slice i.RA i.r.ds.length i.rcap] 29 (0,0)),.obj gx (.cells #[.slice A' (k+1) c',.slice A2 (k+1) c2',.int .i64 0] 94 (0,0)),.own w.heap.size 127 1 (.slice A' (k+1) c') (k+1) (ms.map (fun m=>ifV m.f.g)++[ifV m.f.g]),.own w.heap.size 98 1 (.slice A2 (k+1) c2') (k+1) (ls.map (fun l=>ptV l.g)++[ptV gl])]++[_])++((newLn gl 0 i.r.c.ca).ps++[_]))++((ms.flatMap Mc.ps++ls.flatMap Ln.ps)++m.ps)):=HM5.out
     have h9:=h8.sub_ (L':=[.bel w.heap.size w,.obj w.heap.size (.cells #[.slice i.A i.r.ns.length i.cap,.int .i64 i.r.c.sh,.int .i64 i.r.c.ra,.int .i64 i.r.c.mo,.int .i64 i.r.c.k,.int .i64 i.r.c.ba,.int .i64 i.r.c.mi,.int .i64 i.r.c.st,.int .i64 i.r.c.bu,.int .i64 i.r.c.s,.int .i64 i.r.c.wi,.int .i64 i.r.c.ca,.slice i.DA i.r.n i.dcap,.slice i.SA i.r.p i.scap,.slice i.RA i.r.ds.length i.rcap] 29 (0,0)),.obj gx (.cells #[.slice A' (k+1) c',.slice A2 (k+1) c2',.int .i64 0] 94 (0,0)),.own w.heap.size 127 1 (.slice A' (k+1) c') (k+1) (ms.map (fun m=>ifV m.f.g)++[ifV m.f.g]),.own w.heap.size 98 1 (.slice A2 (k+1) c2') (k+1) (ls.map (fun l=>ptV l.g)++[ptV gl])]++((newLn gl 0 i.r.c.ca).ps++((ms.flatMap Mc.ps++ls.flatMap Ln.ps)++m.ps))) (by
      simp only [List.append_assoc]
      refine List.Sublist.append_left ((List.Sublist.append_left (List.sublist_append_right _ _) _).trans (List.sublist_append_right _ _)) _)
     have h10:=h9.perm (sw_perm _ _ _ _ _)
     refine Mem.cast h10 ?_
     simp only [swP,List.flatMap_append,List.flatMap_cons,List.flatMap_nil,List.append_nil,List.map_append,List.map_cons,List.map_nil]
     rfl
    case measure=>simp [intOf];omega
  · have hkn:k=i.r.c.k:=by omega
    have HF:=K1 HM.out
    clear HM
    go_wp2_with fail
    go_ret2
    obtain ⟨h1,h2,h3,h4⟩:=HS.out
    refine ⟨⟨gx,Aw,cw,Al,cl,ms,ls,0⟩,rfl,⟨HI.out.c,h1.trans hkn,h2.trans hkn,fun u m hm=>?_,fun u l hl=>?_⟩,rfl,fun m hm=>?_,fun l hl=>(h4 l hl).2.2.2,?_⟩
    · obtain ⟨k1,k2,k3,k4⟩:=h3 u m hm
      exact ⟨k1,k2,k3,Nat.le_of_eq (congrArg Am.cnt k4)⟩
    · obtain ⟨k1,k2,k3,k4⟩:=h4 l (List.mem_of_getElem? hl)
      exact ⟨k1,k2,Nat.le_of_eq k3,fun t v htv=>by rw [k4] at htv;cases htv⟩
    · obtain ⟨u,hu⟩:=List.getElem?_of_mem hm
      exact (h3 u m hu).2.2.2
    · have h5:=((HF.out.freeze (i:=3) rfl).fS rfl).freeze (i:=4) rfl |>.fS rfl
      have h6:Mem _ ([.bel w.heap.size w]++(_::((⟨gx,Aw,cw,Al,cl,ms,ls,0⟩:Wv).hd++(ms.flatMap Mc.ps++ls.flatMap Ln.ps)))):=Mem.cast h5 (show _=[.bel w.heap.size w]++(.obj w.heap.size (.cells #[.slice i.A i.r.ns.length i.cap,.int .i64 i.r.c.sh,.int .i64 i.r.c.ra,.int .i64 i.r.c.mo,.int .i64 i.r.c.k,.int .i64 i.r.c.ba,.int .i64 i.r.c.mi,.int .i64 i.r.c.st,.int .i64 i.r.c.bu,.int .i64 i.r.c.s,.int .i64 i.r.c.wi,.int .i64 i.r.c.ca,.slice i.DA i.r.n i.dcap,.slice i.SA i.r.p i.scap,.slice i.RA i.r.ds.length i.rcap] 29 (0,0))::((⟨gx,Aw,cw,Al,cl,ms,ls,0⟩:Wv).hd++(ms.flatMap Mc.ps++ls.flatMap Ln.ps))) by simp only [Wv.hd,Wv.cells,h1,h2];rfl)
      have h7:=h6.sub_ (L':=[.bel w.heap.size w]++(⟨gx,Aw,cw,Al,cl,ms,ls,0⟩:Wv).ps) (List.Sublist.append_left (List.Sublist.cons _ (List.Sublist.refl _)) _)
      exact h7.perm List.perm_append_comm
end Go.Proofs.YtdpojpcoghcieaaGreat
