/- A part of the proof of TopBound: PlanNew, Sampler. Conditions: none. -/
import Derived.Test.YtdpojpcoghcieaaGreatBdAW
set_option maxHeartbeats 8000000
namespace Go.Proofs.YtdpojpcoghcieaaGreat
open Lib renaming hid → K1
open List renaming filterMap_cons → p1, filterMap_nil → p2, getElem?_cons_zero → p3, getElem?_cons_succ → p4
open Go.RowKit
structure Kf where
 sh:Nat
 ra:Int
 mo:Int
 k:Nat
 ba:Nat
 mi:Nat
 st:Nat
 bu:Nat
 s:Nat
 wi:Nat
 ca:Nat
def Kf.cf (c:Kf):Cf:=⟨c.sh,c.ra,c.mo,c.k,c.ba,c.mi,c.st,c.bu,c.s,c.wi,c.ca⟩
structure Kf.Ok (c:Kf):Prop where
 k:1≤c.k∧c.k≤8
 sh:1≤c.sh∧c.sh≤62
 ba:c.k≤c.ba∧c.ba≤1048576
 mi:1≤c.mi∧c.mi≤1000
 st:c.st≤1000
 bu:1≤c.bu∧c.bu≤1048576
 s:1≤c.s∧c.s≤1048576
 wi:1≤c.wi∧c.wi≤1048576
 ca:1≤c.ca∧c.ca≤1048576
def plBs (c:Kf) (p:Nat):List (Nat × Nat):=bucketsL p c.bu
def plGs (c:Kf) (p:Nat):List (Nat × Nat):=blocksL (plBs c p).length c.wi
def plIts (c:Kf) (p t w:Nat):List It:=itemsL (plBs c p) (plGs c p) c.k c.s c.mi t w
def plLens (c:Kf) (p n:Nat):List Int:=(List.range n).map fun w=>((plIts c p 0 w).length:Int)
def sgOf (c:Kf) (p:Nat) (As:Option Addr) (ns cs:Nat) (Ab:Option Addr) (cb:Nat) (Ag:Option Addr) (cg:Nat):Sg :=
 ⟨As,ns,cs,c.sh,c.ra,c.mo,c.k,c.ba,c.mi,c.st,c.bu,c.s,c.wi,c.ca,Ab,plBs c p,cb,Ag,plGs c p,cg⟩
def RdIn (W:World) (lo hi:Nat) (A:Option Addr) (vs:List Value):Prop:=Rd W hi A vs∧∀ p,A=some p→lo≤p.block
theorem RdIn.keep {W1 W2:World} {lo hi:Nat} {A:Option Addr} {vs:List Value} (h:RdIn W1 lo hi A vs) (hk:∀ g,lo≤g→g<hi→W2.heap[g]?=W1.heap[g]?):RdIn W2 lo hi A vs:=⟨fun h0=>by
 obtain ⟨b,off,e,hb,hc⟩:=h.1 h0
 have hlo:=h.2 _ e
 exact ⟨b,off,e,hb,fun j u hu=>(World.cell?_of_block (w:=W1) (w':=W2) (a:=⟨b,off+j,none⟩) (hk b hlo hb)).trans (hc j u hu)⟩,h.2⟩
theorem RdIn.rd {W:World} {lo hi:Nat} {A:Option Addr} {vs:List Value} (h:RdIn W lo hi A vs) (hh:hi≤W.heap.size):Rd W W.heap.size A vs:=h.1.more hh
structure PlanAt (W:World) (lo hi gp:Nat) (c:Kf) (p:Nat):Prop where
 in_:lo≤gp∧gp<hi
 ex:∃ As ns cs Ab cb Ag cg Al cl,W.heap[gp]?=some (.cells ((sgOf c p As ns cs Ab cb Ag cg).cells++[Value.slice Al c.k cl]).toArray 212 (0,0))∧RdIn W lo hi Ab (rcells (plBs c p))∧RdIn W lo hi Ag (rcells (plGs c p)) ∧
  RdIn W lo hi Al ((plLens c p c.k).map (Value.int .i64))∧(plBs c p).length≤cb∧(plGs c p).length≤cg∧c.k≤cl
theorem PlanAt.keep {W1 W2:World} {lo hi gp:Nat} {c:Kf} {p:Nat} (h:PlanAt W1 lo hi gp c p) (hk:∀ g,lo≤g→g<hi→W2.heap[g]?=W1.heap[g]?):PlanAt W2 lo hi gp c p:=by
 obtain ⟨h0,As,ns,cs,Ab,cb,Ag,cg,Al,cl,h1,h2,h3,h4,h5⟩:=h
 exact ⟨h0,As,ns,cs,Ab,cb,Ag,cg,Al,cl,(hk gp h0.1 h0.2).trans h1,h2.keep hk,h3.keep hk,h4.keep hk,h5⟩
theorem blocks_ord (n s:Nat):∀ p∈blocksL n s,p.1≤p.2:=by
 intro p hp
 obtain ⟨i,hi,rfl⟩:=List.mem_map.1 hp
 exact Nat.le_add_right _ _
theorem plBs_ok {c:Kf} {p:Nat} (h:c.Ok) (hp:p≤60):BsOk (plBs c p)∧(plBs c p).length≤60∧GsOk (plBs c p).length (plGs c p)∧(plGs c p).length≤60:=by
 have h1:=pcnt_le p c.bu
 have h2:=buckets_len p c.bu
 refine ⟨fun q hq=>?_,by rw [plBs];omega,fun q hq=>?_,?_⟩
 · have hq':=List.mem_reverse.1 hq
   have:=blocks_le p c.bu h.bu.1 q hq'
   exact ⟨blocks_ord p c.bu q hq',by omega⟩
 · have:=blocks_le (plBs c p).length c.wi h.wi.1 q hq
   exact ⟨blocks_ord _ _ q hq,this.2⟩
 · have h3:=pcnt_le (plBs c p).length c.wi
   have h4:=blocks_len (plBs c p).length c.wi
   rw [plGs,h4]
   unfold plBs at *
   omega
theorem plLens_succ (c:Kf) (p n:Nat):plLens c p (n+1)=plLens c p n++[((plIts c p 0 n).length:Int)]:=by simp [plLens,List.range_succ]
theorem plLens_len (c:Kf) (p n:Nat):(plLens c p n).length=n:=by simp [plLens]
set_option maxRecDepth 100000 in
theorem planNew_any (c:Kf) (hc:c.Ok) (zs:List Int) (As:Option Addr) (cap p:Nat) (hp:1≤p∧p≤60) (w:World) (hr:RdI w w.heap.size As zs) (hcap:zs.length≤cap) (hz:zs.length≤9223372036854775807) (h0:confCode zs c.cf=0) :
  Calls Tryz.prog 64 #[cfVal As zs.length cap c.cf,.int .i64 p] w fun e w'=>∃ gp,e=.returned (.tuple #[.pointer (some ⟨gp,0,none⟩),.bool true])∧PlanAt w' w.heap.size w'.heap.size gp c p∧Below w.heap.size w w':=by
 have CC:=K1 (fun W (hb:Below w.heap.size w W)=>confCheck_any As cap zs c.cf W ((RdI.below hr hb).more hb.size) hcap hz)
 rw [h0] at CC
 have CB:Hid (∀ W:World,Calls Tryz.prog 14 #[.int .i64 p,.int .i64 c.bu] W fun e w'=>∃ A cc,e=.returned (.slice A (plBs c p).length cc)∧OwnR w' W.heap.size (.slice A (plBs c p).length cc) (plBs c p)∧(plBs c p).length≤cc∧Below W.heap.size W w'):=K1 (fun W=>buckets_any p c.bu W (by omega) hc.bu)
 have hok:=plBs_ok hc hp.2
 have CG:Hid (∀ W:World,Calls Tryz.prog 107 #[.int .i64 (plBs c p).length,.int .i64 c.wi] W fun e w'=>∃ A cc,e=.returned (.slice A (plGs c p).length cc)∧OwnR w' W.heap.size (.slice A (plGs c p).length cc) (plGs c p)∧(plGs c p).length≤cc∧Below W.heap.size W w'):=K1 (fun W=>groups_any (plBs c p).length c.wi W (by have:=hok.2.1;omega) hc.wi)
 have CI:=K1 (fun (u:Nat) (hu:u<c.k) (ns cs:Nat) (Ab:Option Addr) (cb:Nat) (Ag:Option Addr) (cg:Nat) (W:World) (h1:RdR W W.heap.size Ab (plBs c p)) (h2:RdR W W.heap.size Ag (plGs c p)) (h3:(plBs c p).length≤cb) (h4:(plGs c p).length≤cg) =>
  items_any W (sgOf c p As ns cs Ab cb Ag cg) u 0 h1 h2 hc.k hu hc.s hok.1 hok.2.1 h3 hok.2.2.1 hok.2.2.2 h4 hc.mi.2)
 have hm:=(Mem.start w).alloc (.cells #[.slice As zs.length cap,.int .i64 c.sh,.int .i64 c.ra,.int .i64 c.mo,.int .i64 c.k,.int .i64 c.ba,.int .i64 c.mi,.int .i64 c.st,.int .i64 c.bu,.int .i64 c.s,.int .i64 c.wi,.int .i64 c.ca] 24)
 have HM:=K1 hm
 have HOK:=K1 hok
 have HLS:=K1 (plLens_succ c p)
 have HLL:=K1 (plLens_len c p)
 have HI:=K1 (show ∀ u,plIts c p 0 u=itemsL (plBs c p) (plGs c p) c.k c.s c.mi 0 u from fun _=>rfl)
 have HK:=K1 hc.k
 clear hm hok h0 hr
 obtain ⟨sh,ra,mo,k,ba,mi,st,bu,s,wi,ca⟩:=c
 dsimp only [Kf.cf,cfVal,sgOf,Sg.cells] at *
 go_enter Tryz.func64,Tryz.ntmps64
 go_wp2_with fail
 (with_reducible refine (CC.out _ (HM.out.bel 0 rfl)).mono ?_)
 rintro e w1 ⟨rfl,hb⟩
 replace HM:=K1 (HM.out.below hb)
 clear hb
 have c0:=HM.out.cells 1 rfl
 go_wp2_with fail
 (with_reducible refine (CB.out _).mono ?_)
 rintro e w2 ⟨Ab,cb,rfl,hv,hcb,hb⟩
 have hlo:=(HM.out.bel 0 rfl).size
 have HAb:=K1 (fun q hq=>Nat.le_trans hlo (own_from_base hv q hq))
 replace HM:=K1 (HM.out.push_rd hb (rd_of_own hv) (own_from_base hv))
 clear hb hv c0 hlo
 have HBS:=K1 (Eq.refl (plBs ⟨sh,ra,mo,k,ba,mi,st,bu,s,wi,ca⟩ p))
 have HGS:=K1 (Eq.refl (plGs ⟨sh,ra,mo,k,ba,mi,st,bu,s,wi,ca⟩ p))
 generalize hbs:plBs ⟨sh,ra,mo,k,ba,mi,st,bu,s,wi,ca⟩ p=bs at *
 generalize hgs:plGs ⟨sh,ra,mo,k,ba,mi,st,bu,s,wi,ca⟩ p=gs at *
 have HBG:=K1 (And.intro hbs hgs)
 clear hbs hgs HBS HGS
 have hbl:=HOK.out.2.1
 go_wp2_with fail
 refine wp_region_reads [0,1,2,3,4,5] [6,7,8,9,10] (fun W'=>∀ i,W'.cell? ⟨w.heap.size,i,none⟩=([.slice As zs.length cap,.int .i64 sh,.int .i64 ra,.int .i64 mo,.int .i64 k,.int .i64 ba,.int .i64 mi,.int .i64 st,.int .i64 bu,.int .i64 s,.int .i64 wi,.int .i64 ca]:List Value)[i]?)
  (by kernel_rfl) (by kernel_rfl) (by kernel_rfl) (by kernel_rfl) (by intro d v c a w h;cases d <;> exact h) (HM.out.drew.cells 1 rfl) ?_
 simp only [pickO,p1,p2,p3,p4]
 apply Exists.intro
 apply And.intro
 · intro W' hS
   repeat still_step
   exact wpStill_nil rfl
 replace HM:=K1 HM.out.drew
 refine Spine.step ?_
 go_wp2_with fail
 (with_reducible refine (CG.out _).mono ?_)
 rintro e w4 ⟨Ag,cg,rfl,hv,hcg,hb⟩
 have hlo:=(HM.out.bel 0 rfl).size
 have HAg:=K1 (fun q hq=>Nat.le_trans hlo (own_from_base hv q hq))
 replace HM:=K1 (HM.out.push_rd hb (rd_of_own hv) (own_from_base hv))
 clear hb hv hlo
 go_wp2_with fail
 refine Behind.go (HM.out.cells 1 rfl) (Spine.step ?_)
 go_wp2_with fail
 refine Behind.go (HM.out.cells 1 rfl) (Spine.step ?_)
 go_wp2_with fail
 refine Behind.go (HM.out.cells 1 rfl) (Spine.step ?_)
 go_wp2_with fail
 refine name_behind fun W5 hW=>?_
 have hlo:=(HM.out.bel 0 rfl).size
 replace HM:=K1 (HM.out.alloc_ hW.out)
 have HGP:=K1 hlo
 clear hW hlo
 generalize hgp:w4.heap.size=gp at *
 clear hgp
 refine Behind.go (HM.out.cells 1 rfl) (Spine.step ?_)
 go_wp2_with fail
 refine Behind.go (HM.out.cells 1 rfl) (Spine.nil_ ?_)
 have c0:=HM.out.cells 1 rfl
 go_wp2_with fail
 have HM0:=K1 ((HM.out.pick [0,2,3,4] [.bel w.heap.size w,.rd Ab (rcells bs),.rd Ag (rcells gs),.obj gp _] rfl (by decide)).add (c:=.own w.heap.size 3 1 (.slice none 0 0) 0 ((plLens ⟨sh,ra,mo,k,ba,mi,st,bu,s,wi,ca⟩ p 0).map (Value.int .i64))) ⟨own_nil _ _ _ _,(HM.out.bel 0 rfl).size⟩ (fun _ _ _ _ g hg=>by cases hg))
 clear HM c0
 go_loopw [36] (fun i wr=>∃ (n:Nat) (Al:Option Addr) (cl:Nat),n≤k∧i=.int .i64 n∧Hid (Mem wr [.bel w.heap.size w,.rd Ab (rcells bs),.rd Ag (rcells gs),.obj gp (.cells #[.slice As zs.length cap,.int .i64 sh,.int .i64 ra,.int .i64 mo,.int .i64 k,.int .i64 ba,.int .i64 mi,.int .i64 st,.int .i64 bu,.int .i64 s,.int .i64 wi,.int .i64 ca,.slice Ab bs.length cb,.slice Ag gs.length cg,.slice Al n cl] 212 (0,0)),.own w.heap.size 3 1 (.slice Al n cl) n ((plLens ⟨sh,ra,mo,k,ba,mi,st,bu,s,wi,ca⟩ p n).map (Value.int .i64))])) (fun i _=>k-(intOf i).toNat)
 case atStart=>exact ⟨0,none,0,Nat.zero_le _,rfl,HM0⟩
 case round =>
  clear HM0
  obtain ⟨n,Al,cl,hn,rfl,HM⟩:=hrel
  have hk8:=HK.out.2
  by_cases hlt:n<k
  · go_wp2_with fail
    refine wp_region_spine 10 4 (fun W'=>∀ i,W'.cell? ⟨gp,i,none⟩=([.slice As zs.length cap,.int .i64 sh,.int .i64 ra,.int .i64 mo,.int .i64 k,.int .i64 ba,.int .i64 mi,.int .i64 st,.int .i64 bu,.int .i64 s,.int .i64 wi,.int .i64 ca,.slice Ab bs.length cb,.slice Ag gs.length cg,.slice Al n cl]:List Value)[i]?)
     (by kernel_rfl) (by kernel_rfl) (by kernel_rfl) (by intro d v c a w h;cases d <;> exact h) (HM.out.drew.cells 3 rfl) ?_
    apply Exists.intro
    apply And.intro
    · intro W' hS
      simp only [List.take_succ_cons,List.take_zero]
      repeat still_step
      exact wpStill_nil rfl
    simp only [List.drop_succ_cons,List.drop_zero,List.take_succ_cons,List.take_zero]
    replace HM:=K1 HM.out.drew
    refine Spine.step ?_
    go_wp2_with fail
    have r1:RdR wr.drew wr.drew.heap.size Ab bs:=HM.out.rd 1 rfl
    have r2:RdR wr.drew wr.drew.heap.size Ag gs:=HM.out.rd 2 rfl
    refine (CI.out n hlt zs.length cap Ab cb Ag cg _ r1 r2 hcb hcg).mono ?_
    rintro e w6 ⟨A6,c6,rfl,_,hb⟩
    replace HM:=K1 (HM.out.below hb)
    clear hb
    rw [← HI.out n]
    generalize hpl:(plIts ⟨sh,ra,mo,k,ba,mi,st,bu,s,wi,ca⟩ p 0 n).length=ln at *
    have HPL:=K1 hpl
    clear hpl
    go_wp2_with fail
    refine Behind.go (HM.out.cells 3 rfl) (Spine.step ?_)
    go_wp2_with fail
    refine Behind.go (HM.out.cells 3 rfl) (Spine.step ?_)
    go_wp2_with fail
    refine name_behind fun W7 hW=>?_
    have HM7:=K1 (HM.out.alloc_ hW.out)
    clear hW
    refine Behind.go (HM7.out.cells 3 rfl) (Spine.step ?_)
    go_wp2_with (at_builtin;refine wpList_append_mem rfl _ _ 22 rfl HM7.out 4 rowCI rfl rfl _ 1 _ [.int .i64 ln] rfl (HM7.out.box 5 rfl) rfl (by intro u hu;simp at hu;subst hu;rfl) (by omega) ?_;intro A' c' W8 hM8)
    have HM8:=K1 hM8
    clear hM8 HM7
    refine Behind.go (HM8.out.cells 3 rfl) (Spine.nil_ ?_)
    have c1:W8.cell? ⟨gp,14,none⟩=some (.slice Al n cl):=HM8.out.cell 3 14 rfl rfl
    have f1:W8.frozen? ⟨gp,14,none⟩=false:=HM8.out.frozen 3 14 rfl
    have HF:=K1 ((HM8.out.set (i:=3) (j:=14) rfl (.slice A' (n+1) c')).front 5)
    clear HM8 HM
    go_wp2_with fail
    go_roundw
    case rel =>
     refine ⟨n+1,A',c',by omega,by go_num,?_⟩
     have e1:(plLens ⟨sh,ra,mo,k,ba,mi,st,bu,s,wi,ca⟩ p (n+1)).map (Value.int .i64)=(plLens ⟨sh,ra,mo,k,ba,mi,st,bu,s,wi,ca⟩ p n).map (Value.int .i64)++[.int .i64 ln]:=by
      rw [HLS.out,List.map_append,HPL.out];rfl
     rw [e1]
     exact HF
    case measure=>simp [intOf];omega
  · have hnk:n=k:=by omega
    subst hnk
    have HF:=K1 (show PlanAt wr w.heap.size wr.heap.size gp ⟨sh,ra,mo,n,ba,mi,st,bu,s,wi,ca⟩ p∧Below w.heap.size w wr from by
     have ho:=HM.out.own 4 rfl
     refine ⟨⟨⟨HGP.out,HM.out.lt 3 rfl⟩,As,zs.length,cap,Ab,cb,Ag,cg,Al,cl,?_,?_,?_,?_,?_,?_,own_cap ho⟩,HM.out.bel 0 rfl⟩
     · unfold sgOf
       dsimp only
       rw [HBG.out.1,HBG.out.2]
       exact HM.out.obj 3 rfl
     · rw [HBG.out.1];exact ⟨HM.out.rd 1 rfl,HAb.out⟩
     · rw [HBG.out.2];exact ⟨HM.out.rd 2 rfl,HAg.out⟩
     · exact ⟨rd_of_own ho,own_from_base ho⟩
     · rw [HBG.out.1];exact hcb
     · rw [HBG.out.2];exact hcg)
    clear HM
    go_wp2_with fail
    go_ret2
    exact ⟨gp,rfl,HF.out.1,HF.out.2⟩
def famCh (l:List (Option Addr × List Value)):Ch:=.st (fun g=>∃ a∈l,0<a.2.length∧∃ p:Addr,a.1=some p∧p.block=g) (fun W=>∀ a∈l,Rd W W.heap.size a.1 a.2)
theorem fam_local {W:World} {l:List (Option Addr × List Value)} (h:∀ a∈l,Rd W W.heap.size a.1 a.2):(famCh l).Holds W:=by
 refine ⟨h,?_,?_⟩
 · rintro g ⟨a,ha,h0,p,hp,rfl⟩
   obtain ⟨b,off,e,hb,_⟩:=h a ha h0
   rw [hp] at e
   injection e with e
   subst e
   exact hb
 · intro W1 W2 hs hk h1 a ha h0
   obtain ⟨b,off,e,hb,hc⟩:=h1 a ha h0
   exact ⟨b,off,e,Nat.lt_of_lt_of_le hb hs,fun j u hu=>(World.cell?_of_block (w:=W1) (w':=W2) (a:=⟨b,off+j,none⟩) (hk b ⟨a,ha,h0,_,e,rfl⟩)).trans (hc j u hu)⟩
theorem Mem.reset {W:World} {L:List Ch} {c c':Ch} {i:Nat} (h:Mem W L) (hi:L[i]?=some c) (hc':c'.Holds W) (hm':¬ c'.mut) (hf:∀ g,c'.fp g→∃ (j:Nat) (d:Ch),L[j]?=some d∧¬ d.mut∧d.fp g):Mem W (L.set i c'):=by
 have old:∀ j d,j≠i→(L.set i c')[j]?=some d→L[j]?=some d:=fun j d hne hj=>by
  rw [List.getElem?_set_ne (Ne.symm hne)] at hj;exact hj
 have new:∀ d,(L.set i c')[i]?=some d→d=c':=fun d hd=>by
  rw [at_set hi] at hd;injection hd with hd;exact hd.symm
 constructor
 · intro j d hj
   by_cases hji:j=i
   · subst hji;rw [new d hj];exact hc'
   · exact h.holds j d (old j d hji hj)
 · intro j k a b hne hj hk hm g ha hb
   by_cases hji:j=i
   · subst hji
     rw [new a hj] at hm
     exact hm' hm
   · by_cases hki:k=i
     · subst hki
       rw [new b hk] at hb
       obtain ⟨l,d,hl,hd,hg⟩:=hf g hb
       have hj':=old j a hji hj
       refine h.sep j l a d (fun e=>?_) hj' hl hm g ha hg
       subst e
       rw [hj'] at hl
       injection hl with hl
       subst hl
       exact hd hm
     · exact h.sep j k a b hne (old j a hji hj) (old k b hki hk) hm g ha hb
theorem Mem.famSnoc {W:World} {L:List Ch} {l:List (Option Addr × List Value)} {A:Option Addr} {vs:List Value} {i j:Nat} (h:Mem W L) (hi:L[i]?=some (famCh l)) (hj:L[j]?=some (.rd A vs)):Mem W (L.set i (famCh (l++[(A,vs)]))):=by
 refine h.reset hi (fam_local fun a ha=>?_) (fun h=>h) ?_
 · rcases List.mem_append.1 ha with h1 | h1
   · exact h.st i hi a h1
   · simp at h1;subst h1;exact h.rd j hj
 · rintro g ⟨a,ha,h0,p,hp,rfl⟩
   rcases List.mem_append.1 ha with h1 | h1
   · exact ⟨i,_,hi,fun h=>h,a,h1,h0,p,hp,rfl⟩
   · simp at h1;subst h1;exact ⟨j,_,hj,fun h=>h,h0,p,hp,rfl⟩
abbrev Ords:=List (Option Addr × Nat × List Nat)
def ordersL (ds:List Nat) (n k:Nat):List (List Nat):=(List.range k).map fun i=>shufL ds (i*(n-1)) n
theorem ordersL_succ (ds:List Nat) (n k:Nat):ordersL ds n (k+1)=ordersL ds n k++[shufL ds (k*(n-1)) n]:=by simp [ordersL,List.range_succ]
def ordFam (os:Ords):List (Option Addr × List Value):=os.map fun o=>(o.1,iCells o.2.2)
def ordVals (n:Nat) (os:Ords):List Value:=os.map fun o=>.slice o.1 n o.2.1
theorem infoSI:(Tryz.prog.info? 22).map (fun i=>(i.zero,i.size,i.bytes))=some (some (.slice none 0 0),1,24):=by kernel_rfl
theorem rowSI:RowT Tryz.prog 101 22 1 24:=by
 obtain ⟨i0,hi,hz0,hz1,hz2⟩:=info_parts infoSI
 exact ⟨i0,_,Tryz.underlying101,hi,hz0,hz1,hz2,rfl,by decide,by decide⟩
def sampB (gs batch steps:Nat) (Ab:Option Addr) (nb cb:Nat) (Ao:Option Addr) (e co:Nat):Ch:=.obj gs (.cells #[.int .i64 batch,.int .i64 steps,.slice Ab nb cb,.slice Ao e co] 204 (0,0))
set_option maxRecDepth 100000 in
theorem epoch_any (w w0:World) (B0 bn bsp bsx bs gs cd n batch steps nb cb e co:Nat) (Ad Ab Ao:Option Addr) (ds:List Nat) (rs:List (Nat × Nat)) (os:Ords)
  (h:Mem w [.bel B0 w0,.rd Ab (rcells rs),.rd Ad (uCells ds),.obj bn (.cells #[.int .i64 n] 3 (0,0)),.obj bsp (.cells #[.pointer (some ⟨bs,0,none⟩)] 205 (0,0)),.obj bsx (.cells #[.pointer (some ⟨gs,0,none⟩)] 153 (0,0)),
   strB bs Ad ds.length cd (e*(n-1)),sampB gs batch steps Ab nb cb Ao e co,.own B0 22 1 (.slice Ao e co) e (ordVals n os),famCh (ordFam os)])
  (ho:os.map (fun o=>o.2.2)=ordersL ds n e) (hc:∀ o∈os,n≤o.2.1∧∀ q:Addr,o.1=some q→B0≤q.block) (hn:1≤n∧n≤1000) (hat:(e+1)*(n-1)≤ds.length) (hl:ds.length≤1000000000) (he:e≤1000000) :
  Calls Tryz.prog 105 #[.pointer (some ⟨bn,0,none⟩),.pointer (some ⟨bsp,0,none⟩),.pointer (some ⟨bsx,0,none⟩)] w fun r w'=>r=.returned (.bool true)∧∃ (Ao':Option Addr) (co':Nat) (os':Ords),
   Mem w' [.bel B0 w0,.rd Ab (rcells rs),.rd Ad (uCells ds),.obj bn (.cells #[.int .i64 n] 3 (0,0)),.obj bsp (.cells #[.pointer (some ⟨bs,0,none⟩)] 205 (0,0)),.obj bsx (.cells #[.pointer (some ⟨gs,0,none⟩)] 153 (0,0)),
    strB bs Ad ds.length cd ((e+1)*(n-1)),sampB gs batch steps Ab nb cb Ao' (e+1) co',.own B0 22 1 (.slice Ao' (e+1) co') (e+1) (ordVals n os'),famCh (ordFam os')] ∧
   os'.map (fun o=>o.2.2)=ordersL ds n (e+1)∧(∀ o∈os',n≤o.2.1∧∀ q:Addr,o.1=some q→B0≤q.block):=by
 have CS:=K1 (shuffle_any w _ h bs cd (e*(n-1)) n 6 2 Ad ds rfl rfl hn (by rw [Nat.succ_mul] at hat;exact hat) hl)
 have HO:=K1 (And.intro ho hc)
 have HBW:=K1 (show B0≤w.heap.size from (Nat.le_trans (h.holds 0 _ rfl).2 (h.bel 0 rfl).size))
 have c0:=h.cells 3 rfl
 have c1:=h.cells 4 rfl
 have HS:=K1 (show e*(n-1)+(n-1)=(e+1)*(n-1) by rw [Nat.succ_mul])
 clear h ho hc hat hl
 go_enter Tryz.func105,Tryz.ntmps105
 go_wp2_with fail
 (with_reducible refine CS.out.mono ?_)
 rintro r w1 ⟨A1,c1',rfl,hc1,hm1⟩
 have hlo1:∀ q:Addr,A1=some q→B0≤q.block:=fun q hq=>Nat.le_trans HBW.out (own_from_base (hm1.own _ at_last) q hq)
 have h2:=hm1.freeze at_last
 rw [set_last,HS.out] at h2
 have h3:=h2.famSnoc (i:=9) (j:=10) rfl rfl
 obtain ⟨os2,hos2⟩:∃ os2,os2=os++[(A1,c1',shufL ds (e*(n-1)) n)]:=⟨_,rfl⟩
 have e1:ordFam os++[(A1,iCells (shufL ds (e*(n-1)) n))]=ordFam os2:=by rw [hos2];simp [ordFam]
 have e2:ordVals n os2=ordVals n os++[.slice A1 n c1']:=by rw [hos2];simp [ordVals]
 have e3:os2.map (fun o=>o.2.2)=ordersL ds n (e+1)∧(∀ o∈os2,n≤o.2.1∧∀ q:Addr,o.1=some q→B0≤q.block):=by
  rw [hos2]
  refine ⟨by rw [ordersL_succ,List.map_append,HO.out.1];rfl,fun o ho=>?_⟩
  rcases List.mem_append.1 ho with h1 | h1
  · exact HO.out.2 o h1
  · simp at h1;subst h1;exact ⟨hc1,hlo1⟩
 rw [e1] at h3
 have HM:=K1 (show Mem w1 [.bel B0 w0,.rd Ab (rcells rs),.rd Ad (uCells ds),.obj bn (.cells #[.int .i64 n] 3 (0,0)),.obj bsp (.cells #[.pointer (some ⟨bs,0,none⟩)] 205 (0,0)),.obj bsx (.cells #[.pointer (some ⟨gs,0,none⟩)] 153 (0,0)),strB bs Ad ds.length cd ((e+1)*(n-1)),sampB gs batch steps Ab nb cb Ao e co,.own B0 22 1 (.slice Ao e co) e (ordVals n os),famCh (ordFam os2)] from h3.front 10)
 have HE:=K1 (And.intro e2 e3)
 clear hm1 h2 h3 c0 c1 CS e1 e2 e3 hos2
 go_wp2_with fail
 refine wp_region_spine 6 2 (fun W'=>W'.cell? ⟨bsx,0,none⟩=some (.pointer (some ⟨gs,0,none⟩))∧(∀ i,W'.cell? ⟨gs,i,none⟩=([.int .i64 batch,.int .i64 steps,.slice Ab nb cb,.slice Ao e co]:List Value)[i]?))
  (by kernel_rfl) (by kernel_rfl) (by kernel_rfl) (by intro d v c a w h;cases d <;> exact h) ⟨HM.out.drew.cell 5 0 rfl rfl,HM.out.drew.cells 7 rfl⟩ ?_
 apply Exists.intro
 apply And.intro
 · intro W' hS
   obtain ⟨s1,s2⟩:=hS
   simp only [List.take_succ_cons,List.take_zero]
   repeat still_step
   exact wpStill_nil rfl
 simp only [List.drop_succ_cons,List.drop_zero,List.take_succ_cons,List.take_zero]
 refine Spine.step ?_
 go_wp2_with fail
 refine name_behind fun W2 hW=>?_
 have HM2:=K1 (HM.out.drew.alloc_ hW.out)
 clear hW HM
 refine Behind.go ⟨HM2.out.cell 5 0 rfl rfl,HM2.out.cells 7 rfl⟩ (Spine.step ?_)
 go_wp2_with (at_builtin;refine wpList_append_mem rfl _ _ 101 rfl HM2.out 8 rowSI rfl rfl _ 1 _ [.slice A1 n c1'] rfl (HM2.out.box 10 rfl) rfl (by intro u hu;simp at hu;subst hu;rfl) (by omega) ?_;intro A' c' W3 hM3)
 have HM3:=K1 hM3
 clear hM3 HM2
 refine Behind.go ⟨HM3.out.cell 5 0 rfl rfl,HM3.out.cells 7 rfl⟩ (Spine.nil_ ?_)
 have k1:W3.cell? ⟨gs,3,none⟩=some (.slice Ao e co):=HM3.out.cell 7 3 rfl rfl
 have f1:W3.frozen? ⟨gs,3,none⟩=false:=HM3.out.frozen 7 3 rfl
 have HF:=K1 ((HM3.out.set (i:=7) (j:=3) rfl (.slice A' (e+1) c')).front 10)
 clear HM3
 go_wp2_with fail
 go_ret
 refine ⟨rfl,A',c',os2,?_,HE.out.2.1,HE.out.2.2⟩
 rw [HE.out.1]
 exact HF.out
end Go.Proofs.YtdpojpcoghcieaaGreat
