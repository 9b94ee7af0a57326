/- A part of the proof of TopTags: ConfFlat, PlanNew, Sampler, SampNew, CopyMem, HoleA, PlanStep. Conditions: none. -/
import Derived.Deep.DeepCutAuto
import Derived.Laws.CopyOwn
import Derived.Test.YtdpojpcoghcieaaGreatSxAF
import Derived.Test.YtdpojpcoghcieaaGreatSxAK
set_option maxHeartbeats 8000000
set_option linter.all false
namespace Go.Proofs.YtdpojpcoghcieaaGreat
open Lib renaming hid → K1
open List renaming filterMap_cons → p1, filterMap_nil → p2, getElem?_cons_zero → p3, getElem?_cons_succ → p4
open Go.RowKit
set_option maxRecDepth 100000
open Value renaming int → U, slice → Us
open IntKind renaming i64 → O
open And renaming intro → X7
open Nat renaming le_trans → X8, eq_zero_or_pos → XG
open List renaming take_succ_cons → X9, take_zero → XA, getElem?_set_ne → XB, range_succ → XD, drop_succ_cons → XE, map_append → XF, length_take → XJ, take_append → XK
open World renaming cell?_of_block → XC, size_alloc → XI
open IntWalk renaming i64_in → XH
section
theorem D0 {A:Option Addr} {n cap g:Nat} {sh ra mo wo ba mi st bu ch wi ca:Int} {W:World} (hn:W.heap[g]?=some (.cells #[Us A n cap,U O sh,U O ra,U O mo,U O wo,U O ba,U O mi,U O st,U O bu,U O ch,U O wi,U O ca] 24 (0,0))) :
  W.cell? ⟨g,0,none⟩=some (Us A n cap)/\W.cell? ⟨g,1,none⟩=some (U O sh)/\W.cell? ⟨g,2,none⟩=some (U O ra)/\W.cell? ⟨g,3,none⟩=some (U O mo)/\W.cell? ⟨g,4,none⟩=some (U O wo)/\W.cell? ⟨g,5,none⟩=some (U O ba)/\W.cell? ⟨g,6,none⟩=some (U O mi)/\W.cell? ⟨g,7,none⟩=some (U O st)/\W.cell? ⟨g,8,none⟩=some (U O bu)/\W.cell? ⟨g,9,none⟩=some (U O ch)/\W.cell? ⟨g,10,none⟩=some (U O wi)/\W.cell? ⟨g,11,none⟩=some (U O ca):=by
 refine ⟨Ay hn 0,Ay hn 1,Ay hn 2,Ay hn 3,Ay hn 4,Ay hn 5,Ay hn 6,Ay hn 7,Ay hn 8,Ay hn 9,Ay hn 10,Ay hn 11⟩
theorem IW (A:Option Addr) (cap:Nat) (zs:List Int) (sh ra mo wo ba mi st bu ch wi ca:Int) (w:World) (hr:RdI w w.heap.size A zs) (hcap:zs.length<=cap) (hm:zs.length<=9223372036854775807) :
  Calls Tryz.prog 58 #[.agg #[Us A zs.length cap,U O sh,U O ra,U O mo,U O wo,U O ba,U O mi,U O st,U O bu,U O ch,U O wi,U O ca]] w (Coded w (AT zs ⟨sh,0,0,wo,ba,mi,st,bu,ch,wi,ca⟩)) :=
 K4 A cap zs ⟨sh,ra,mo,wo,ba,mi,st,bu,ch,wi,ca⟩ w hr hcap hm
theorem Ha (A:Option Addr) (cap:Nat) (zs:List Int) (sh ra mo wo ba mi st bu ch wi ca:Int) (w:World) (hr:RdI w w.heap.size A zs) (hm:zs.length<=9223372036854775807) :
  Calls Tryz.prog 52 #[.agg #[Us A zs.length cap,U O sh,U O ra,U O mo,U O wo,U O ba,U O mi,U O st,U O bu,U O ch,U O wi,U O ca]] w (Et w (AT zs ⟨sh,0,0,wo,ba,mi,st,bu,ch,wi,ca⟩)) :=
 OJ A cap zs ⟨sh,ra,mo,wo,ba,mi,st,bu,ch,wi,ca⟩ w hr hm
structure Kf where
 sh:Nat
 ra:Int
 mo:Int
 k:Nat
 ba:Nat
 mi:Nat
 st:Nat
 bu:Nat
 s:Nat
 wi:Nat
 ca:Nat
def Kf.cf (c:Kf):Cf:=⟨c.sh,c.ra,c.mo,c.k,c.ba,c.mi,c.st,c.bu,c.s,c.wi,c.ca⟩
structure Kf.Ok (c:Kf):Prop where
 k:1<=c.k/\c.k<=8
 sh:1<=c.sh/\c.sh<=62
 ba:c.k<=c.ba/\c.ba<=1048576
 mi:1<=c.mi/\c.mi<=1000
 st:c.st<=1000
 bu:1<=c.bu/\c.bu<=1048576
 s:1<=c.s/\c.s<=1048576
 wi:1<=c.wi/\c.wi<=1048576
 ca:1<=c.ca/\c.ca<=1048576
def plBs (c:Kf) (p:Nat):List (Nat × Nat):=Cw p c.bu
def plGs (c:Kf) (p:Nat):List (Nat × Nat):=Bd (plBs c p).length c.wi
def AS (c:Kf) (p t w:Nat):List It:=Cv (plBs c p) (plGs c p) c.k c.s c.mi t w
def D3 (c:Kf) (p n:Nat):List Int:=(List.range n).map fun w=>((AS c p 0 w).length:Int)
def sgOf (c:Kf) (p:Nat) (As:Option Addr) (ns cs:Nat) (Ab:Option Addr) (cb:Nat) (Ag:Option Addr) (cg:Nat):Sg :=
 ⟨As,ns,cs,c.sh,c.ra,c.mo,c.k,c.ba,c.mi,c.st,c.bu,c.s,c.wi,c.ca,Ab,plBs c p,cb,Ag,plGs c p,cg⟩
def RdIn (W:World) (lo hi:Nat) (A:Option Addr) (vs:List Value):Prop:=Rd W hi A vs/\∀ p,A=some p->lo<=p.block
theorem RdIn.keep {W1 W2:World} {lo hi:Nat} {A:Option Addr} {vs:List Value} (h:RdIn W1 lo hi A vs) (hk:∀ g,lo<=g->g<hi->W2.heap[g]?=W1.heap[g]?):RdIn W2 lo hi A vs:=⟨fun h0=>by
 obtain ⟨b,off,e,hb,hc⟩:=h.1 h0;have hlo:=h.2 _ e
 exact ⟨b,off,e,hb,fun j u hu=>(XC (w:=W1) (w':=W2) (a:=⟨b,off+j,none⟩) (hk b hlo hb)).trans (hc j u hu)⟩,h.2⟩
theorem RdIn.more {W:World} {lo hi lo' hi':Nat} {A:Option Addr} {vs:List Value} (h:RdIn W lo hi A vs) (h1:lo'<=lo) (h2:hi<=hi'):RdIn W lo' hi' A vs:=⟨h.1.more h2,fun p hp=>X8 h1 (h.2 p hp)⟩
theorem RdIn.rd {W:World} {lo hi:Nat} {A:Option Addr} {vs:List Value} (h:RdIn W lo hi A vs) (hh:hi<=W.heap.size):Rd W W.heap.size A vs:=h.1.more hh
structure Cx (W:World) (lo hi gp:Nat) (c:Kf) (p:Nat):Prop where
 in_:lo<=gp/\gp<hi
 ex:∃ As ns cs Ab cb Ag cg Al cl,W.heap[gp]?=some (.cells ((sgOf c p As ns cs Ab cb Ag cg).cells++[Value.slice Al c.k cl]).toArray 212 (0,0))/\RdIn W lo hi Ab (rcells (plBs c p))/\RdIn W lo hi Ag (rcells (plGs c p)) /\
  RdIn W lo hi Al ((D3 c p c.k).map (Value.int .i64))/\(plBs c p).length<=cb/\(plGs c p).length<=cg/\c.k<=cl
theorem Cx.keep {W1 W2:World} {lo hi gp:Nat} {c:Kf} {p:Nat} (h:Cx W1 lo hi gp c p) (hk:∀ g,lo<=g->g<hi->W2.heap[g]?=W1.heap[g]?):Cx W2 lo hi gp c p:=by
 obtain ⟨h0,As,ns,cs,Ab,cb,Ag,cg,Al,cl,h1,h2,h3,h4,h5⟩:=h;exact ⟨h0,As,ns,cs,Ab,cb,Ag,cg,Al,cl,(hk gp h0.1 h0.2).trans h1,h2.keep hk,h3.keep hk,h4.keep hk,h5⟩
theorem Hb (n s:Nat):∀ p∈Bd n s,p.1<=p.2:=by
 intro p hp;obtain ⟨i,hi,rfl⟩:=List.mem_map.1 hp;exact Nat.le_add_right _ _
theorem DU {c:Kf} {p:Nat} (h:c.Ok) (hp:p<=60):BsOk (plBs c p)/\(plBs c p).length<=60/\GsOk (plBs c p).length (plGs c p)/\(plGs c p).length<=60:=by
 have h1:=Cm p c.bu;have h2:=Pq p c.bu;refine ⟨fun q hq=>?_,by rw [plBs];omega,fun q hq=>?_,?_⟩
 . have hq':=List.mem_reverse.1 hq;have:=EE p c.bu h.bu.1 q hq';exact ⟨Hb p c.bu q hq',by omega⟩
 . have:=EE (plBs c p).length c.wi h.wi.1 q hq;exact ⟨Hb _ _ q hq,this.2⟩
 . have h3:=Cm (plBs c p).length c.wi;have h4:=DN (plBs c p).length c.wi;rw [plGs,h4];unfold plBs at *;omega
theorem Pt (c:Kf) (p n:Nat):D3 c p (n+1)=D3 c p n++[((AS c p 0 n).length:Int)]:=by simp [D3,XD]
theorem KK (c:Kf) (p n:Nat):(D3 c p n).length=n:=by simp [D3]
theorem Pu (c:Kf) (hc:c.Ok) (zs:List Int) (As:Option Addr) (cap p:Nat) (hp:1<=p/\p<=60) (w:World) (hr:RdI w w.heap.size As zs) (hcap:zs.length<=cap) (hz:zs.length<=9223372036854775807) (h0:AT zs c.cf=0) :
  Calls Tryz.prog 64 #[B7 As zs.length cap c.cf,U O p] w fun e w'=>∃ gp,e=.returned (.tuple #[.pointer (some ⟨gp,0,none⟩),.bool true])/\Cx w' w.heap.size w'.heap.size gp c p/\Below w.heap.size w w':=by
 have CC:=K1 (fun W (hb:Below w.heap.size w W)=>K4 As cap zs c.cf W ((RdI.below hr hb).more hb.size) hcap hz);rw [h0] at CC;have CB:Hid (∀ W:World,Calls Tryz.prog 14 #[U O p,U O c.bu] W fun e w'=>∃ A cc,e=.returned (Us A (plBs c p).length cc)/\OwnR w' W.heap.size (Us A (plBs c p).length cc) (plBs c p)/\(plBs c p).length<=cc/\Below W.heap.size W w'):=K1 (fun W=>Pr p c.bu W (by omega) hc.bu);have hok:=DU hc hp.2
 have CG:Hid (∀ W:World,Calls Tryz.prog 107 #[U O (plBs c p).length,U O c.wi] W fun e w'=>∃ A cc,e=.returned (Us A (plGs c p).length cc)/\OwnR w' W.heap.size (Us A (plGs c p).length cc) (plGs c p)/\(plGs c p).length<=cc/\Below W.heap.size W w'):=K1 (fun W=>Ps (plBs c p).length c.wi W (by have:=hok.2.1;omega) hc.wi)
 have CI:=K1 (fun (u:Nat) (hu:u<c.k) (ns cs:Nat) (Ab:Option Addr) (cb:Nat) (Ag:Option Addr) (cg:Nat) (W:World) (h1:RdR W W.heap.size Ab (plBs c p)) (h2:RdR W W.heap.size Ag (plGs c p)) (h3:(plBs c p).length<=cb) (h4:(plGs c p).length<=cg) =>
  KF W (sgOf c p As ns cs Ab cb Ag cg) u 0 h1 h2 hc.k hu hc.s hok.1 hok.2.1 h3 hok.2.2.1 hok.2.2.2 h4 hc.mi.2)
 have hm:=(Mem.start w).alloc (.cells #[Us As zs.length cap,U O c.sh,U O c.ra,U O c.mo,U O c.k,U O c.ba,U O c.mi,U O c.st,U O c.bu,U O c.s,U O c.wi,U O c.ca] 24);have HM:=K1 hm;have HOK:=K1 hok;have HLS:=K1 (Pt c p);have HLL:=K1 (KK c p);have HI:=K1 (show ∀ u,AS c p 0 u=Cv (plBs c p) (plGs c p) c.k c.s c.mi 0 u from fun _=>rfl);have HK:=K1 hc.k;clear hm hok h0 hr;obtain ⟨sh,ra,mo,k,ba,mi,st,bu,s,wi,ca⟩:=c;dsimp only [Kf.cf,B7,sgOf,Sg.cells] at *;go_enter Tryz.func64,Tryz.ntmps64;go_wp2_with fail
 (with_reducible refine (CC.out _ (HM.out.bel 0 rfl)).mono ?_)
 rintro e w1 ⟨rfl,hb⟩;replace HM:=K1 (HM.out.below hb);clear hb;have c0:=HM.out.cells 1 rfl;go_wp2_with fail
 (with_reducible refine (CB.out _).mono ?_)
 rintro e w2 ⟨Ab,cb,rfl,hv,hcb,hb⟩;have hlo:=(HM.out.bel 0 rfl).size;have HAb:=K1 (fun q hq=>X8 hlo (AF hv q hq));replace HM:=K1 (HM.out.push_rd hb (AJ hv) (AF hv));clear hb hv c0 hlo;have HBS:=K1 (Eq.refl (plBs ⟨sh,ra,mo,k,ba,mi,st,bu,s,wi,ca⟩ p));have HGS:=K1 (Eq.refl (plGs ⟨sh,ra,mo,k,ba,mi,st,bu,s,wi,ca⟩ p));generalize hbs:plBs ⟨sh,ra,mo,k,ba,mi,st,bu,s,wi,ca⟩ p=bs at *;generalize hgs:plGs ⟨sh,ra,mo,k,ba,mi,st,bu,s,wi,ca⟩ p=gs at *;have HBG:=K1 (X7 hbs hgs);clear hbs hgs HBS HGS;have hbl:=HOK.out.2.1;go_wp2_with fail
 refine K7 [0,1,2,3,4,5] [6,7,8,9,10] (fun W'=>∀ i,W'.cell? ⟨w.heap.size,i,none⟩=([Us As zs.length cap,U O sh,U O ra,U O mo,U O k,U O ba,U O mi,U O st,U O bu,U O s,U O wi,U O ca]:List Value)[i]?)
  (by kernel_rfl) (by kernel_rfl) (by kernel_rfl) (by kernel_rfl) (by intro d v c a w h;cases d <;> exact h) (HM.out.drew.cells 1 rfl) ?_
 simp only [AW,p1,p2,p3,p4];apply Exists.intro;apply X7
 . intro W' hS
   repeat still_step
   exact wpStill_nil rfl
 replace HM:=K1 HM.out.drew;refine Spine.step ?_;go_wp2_with fail
 (with_reducible refine (CG.out _).mono ?_)
 rintro e w4 ⟨Ag,cg,rfl,hv,hcg,hb⟩;have hlo:=(HM.out.bel 0 rfl).size;have HAg:=K1 (fun q hq=>X8 hlo (AF hv q hq));replace HM:=K1 (HM.out.push_rd hb (AJ hv) (AF hv));clear hb hv hlo;go_wp2_with fail;refine Behind.go (HM.out.cells 1 rfl) (Spine.step ?_);go_wp2_with fail;refine Behind.go (HM.out.cells 1 rfl) (Spine.step ?_);go_wp2_with fail;refine Behind.go (HM.out.cells 1 rfl) (Spine.step ?_);go_wp2_with fail;refine FI fun W5 hW=>?_;have hlo:=(HM.out.bel 0 rfl).size;replace HM:=K1 (HM.out.alloc_ hW.out);have HGP:=K1 hlo;clear hW hlo;generalize hgp:w4.heap.size=gp at *;clear hgp
 refine Behind.go (HM.out.cells 1 rfl) (Spine.step ?_);go_wp2_with fail;refine Behind.go (HM.out.cells 1 rfl) (Spine.nil_ ?_);have c0:=HM.out.cells 1 rfl;go_wp2_with fail;have HM0:=K1 ((HM.out.pick [0,2,3,4] [.bel w.heap.size w,.rd Ab (rcells bs),.rd Ag (rcells gs),.obj gp _] rfl (by decide)).add (c:=.own w.heap.size 3 1 (Us none 0 0) 0 ((D3 ⟨sh,ra,mo,k,ba,mi,st,bu,s,wi,ca⟩ p 0).map (Value.int .i64))) ⟨Bh _ _ _ _,(HM.out.bel 0 rfl).size⟩ (fun _ _ _ _ g hg=>by cases hg));clear HM c0
 go_loopw [36] (fun i wr=>∃ (n:Nat) (Al:Option Addr) (cl:Nat),n<=k/\i=U O n/\Hid (Mem wr [.bel w.heap.size w,.rd Ab (rcells bs),.rd Ag (rcells gs),.obj gp (.cells #[Us As zs.length cap,U O sh,U O ra,U O mo,U O k,U O ba,U O mi,U O st,U O bu,U O s,U O wi,U O ca,Us Ab bs.length cb,Us Ag gs.length cg,Us Al n cl] 212 (0,0)),.own w.heap.size 3 1 (Us Al n cl) n ((D3 ⟨sh,ra,mo,k,ba,mi,st,bu,s,wi,ca⟩ p n).map (Value.int .i64))])) (fun i _=>k-(intOf i).toNat)
 case atStart=>exact ⟨0,none,0,Nat.zero_le _,rfl,HM0⟩
 case round =>
  clear HM0;obtain ⟨n,Al,cl,hn,rfl,HM⟩:=hrel;have hk8:=HK.out.2
  by_cases hlt:n<k
  . go_wp2_with fail
    refine FJ 10 4 (fun W'=>∀ i,W'.cell? ⟨gp,i,none⟩=([Us As zs.length cap,U O sh,U O ra,U O mo,U O k,U O ba,U O mi,U O st,U O bu,U O s,U O wi,U O ca,Us Ab bs.length cb,Us Ag gs.length cg,Us Al n cl]:List Value)[i]?)
     (by kernel_rfl) (by kernel_rfl) (by kernel_rfl) (by intro d v c a w h;cases d <;> exact h) (HM.out.drew.cells 3 rfl) ?_
    apply Exists.intro;apply X7
    . intro W' hS;simp only [X9,XA]
      repeat still_step
      exact wpStill_nil rfl
    simp only [XE,List.drop_zero,X9,XA];replace HM:=K1 HM.out.drew;refine Spine.step ?_;go_wp2_with fail;have r1:RdR wr.drew wr.drew.heap.size Ab bs:=HM.out.rd 1 rfl;have r2:RdR wr.drew wr.drew.heap.size Ag gs:=HM.out.rd 2 rfl;refine (CI.out n hlt zs.length cap Ab cb Ag cg _ r1 r2 hcb hcg).mono ?_;rintro e w6 ⟨A6,c6,rfl,_,hb⟩;replace HM:=K1 (HM.out.below hb);clear hb;rw [<- HI.out n];generalize hpl:(AS ⟨sh,ra,mo,k,ba,mi,st,bu,s,wi,ca⟩ p 0 n).length=ln at *;have HPL:=K1 hpl;clear hpl;go_wp2_with fail;refine Behind.go (HM.out.cells 3 rfl) (Spine.step ?_);go_wp2_with fail
    refine Behind.go (HM.out.cells 3 rfl) (Spine.step ?_);go_wp2_with fail;refine FI fun W7 hW=>?_;have HM7:=K1 (HM.out.alloc_ hW.out);clear hW;refine Behind.go (HM7.out.cells 3 rfl) (Spine.step ?_)
    go_wp2_with (at_builtin;refine AQ rfl _ _ 22 rfl HM7.out 4 EC rfl rfl _ 1 _ [U O ln] rfl (HM7.out.box 5 rfl) rfl (by intro u hu;simp at hu;subst hu;rfl) (by omega) ?_;intro A' c' W8 hM8)
    have HM8:=K1 hM8;clear hM8 HM7;refine Behind.go (HM8.out.cells 3 rfl) (Spine.nil_ ?_);have c1:W8.cell? ⟨gp,14,none⟩=some (Us Al n cl):=HM8.out.cell 3 14 rfl rfl;have f1:W8.frozen? ⟨gp,14,none⟩=false:=HM8.out.frozen 3 14 rfl;have HF:=K1 ((HM8.out.set (i:=3) (j:=14) rfl (Us A' (n+1) c')).front 5);clear HM8 HM;go_wp2_with fail;go_roundw
    case rel =>
     refine ⟨n+1,A',c',by omega,by go_num,?_⟩
     have e1:(D3 ⟨sh,ra,mo,k,ba,mi,st,bu,s,wi,ca⟩ p (n+1)).map (Value.int .i64)=(D3 ⟨sh,ra,mo,k,ba,mi,st,bu,s,wi,ca⟩ p n).map (Value.int .i64)++[U O ln]:=by
      rw [HLS.out,XF,HPL.out];rfl
     rw [e1];exact HF
    case measure=>simp [intOf];omega
  . have hnk:n=k:=by omega
    subst hnk
    have HF:=K1 (show Cx wr w.heap.size wr.heap.size gp ⟨sh,ra,mo,n,ba,mi,st,bu,s,wi,ca⟩ p/\Below w.heap.size w wr from by
     have ho:=HM.out.own 4 rfl;refine ⟨⟨⟨HGP.out,HM.out.lt 3 rfl⟩,As,zs.length,cap,Ab,cb,Ag,cg,Al,cl,?_,?_,?_,?_,?_,?_,Be ho⟩,HM.out.bel 0 rfl⟩
     . unfold sgOf;dsimp only;rw [HBG.out.1,HBG.out.2];exact HM.out.obj 3 rfl
     . rw [HBG.out.1];exact ⟨HM.out.rd 1 rfl,HAb.out⟩
     . rw [HBG.out.2];exact ⟨HM.out.rd 2 rfl,HAg.out⟩
     . exact ⟨AJ ho,AF ho⟩
     . rw [HBG.out.1];exact hcb
     . rw [HBG.out.2];exact hcg)
    clear HM;go_wp2_with fail
    go_ret2
    exact ⟨gp,rfl,HF.out.1,HF.out.2⟩
def AD (l:List (Option Addr × List Value)):Ch:=.st (fun g=>∃ a∈l,0<a.2.length/\∃ p:Addr,a.1=some p/\p.block=g) (fun W=>∀ a∈l,Rd W W.heap.size a.1 a.2)
theorem Da {W:World} {l:List (Option Addr × List Value)} (h:∀ a∈l,Rd W W.heap.size a.1 a.2):(AD l).Holds W:=by
 refine ⟨h,?_,?_⟩
 . rintro g ⟨a,ha,h0,p,hp,rfl⟩;obtain ⟨b,off,e,hb,_⟩:=h a ha h0;rw [hp] at e;injection e with e
   subst e;exact hb
 . intro W1 W2 hs hk h1 a ha h0;obtain ⟨b,off,e,hb,hc⟩:=h1 a ha h0;exact ⟨b,off,e,Nat.lt_of_lt_of_le hb hs,fun j u hu=>(XC (w:=W1) (w':=W2) (a:=⟨b,off+j,none⟩) (hk b ⟨a,ha,h0,_,e,rfl⟩)).trans (hc j u hu)⟩
theorem Mem.reset {W:World} {L:List Ch} {c c':Ch} {i:Nat} (h:Mem W L) (hi:L[i]?=some c) (hc':c'.Holds W) (hm':¬ c'.mut) (hf:∀ g,c'.fp g->∃ (j:Nat) (d:Ch),L[j]?=some d/\¬ d.mut/\d.fp g):Mem W (L.set i c'):=by
 have old:∀ j d,j≠i->(L.set i c')[j]?=some d->L[j]?=some d:=fun j d hne hj=>by
  rw [XB (Ne.symm hne)] at hj;exact hj
 have new:∀ d,(L.set i c')[i]?=some d->d=c':=fun d hd=>by
  rw [AU hi] at hd;injection hd with hd;exact hd.symm
 constructor
 . intro j d hj
   by_cases hji:j=i
   . subst hji;rw [new d hj];exact hc'
   . exact h.holds j d (old j d hji hj)
 . intro j k a b hne hj hk hm g ha hb
   by_cases hji:j=i
   . subst hji;rw [new a hj] at hm;exact hm' hm
   . by_cases hki:k=i
     . subst hki;rw [new b hk] at hb;obtain ⟨l,d,hl,hd,hg⟩:=hf g hb;have hj':=old j a hji hj;refine h.sep j l a d (fun e=>?_) hj' hl hm g ha hg;subst e;rw [hj'] at hl;injection hl with hl
       subst hl;exact hd hm
     . exact h.sep j k a b hne (old j a hji hj) (old k b hki hk) hm g ha hb
theorem Mem.famSnoc {W:World} {L:List Ch} {l:List (Option Addr × List Value)} {A:Option Addr} {vs:List Value} {i j:Nat} (h:Mem W L) (hi:L[i]?=some (AD l)) (hj:L[j]?=some (.rd A vs)):Mem W (L.set i (AD (l++[(A,vs)]))):=by
 refine h.reset hi (Da fun a ha=>?_) (fun h=>h) ?_
 . rcases List.mem_append.1 ha with h1 | h1
   . exact h.st i hi a h1
   . simp at h1;subst h1;exact h.rd j hj
 . rintro g ⟨a,ha,h0,p,hp,rfl⟩
   rcases List.mem_append.1 ha with h1 | h1
   . exact ⟨i,_,hi,fun h=>h,a,h1,h0,p,hp,rfl⟩
   . simp at h1;subst h1;exact ⟨j,_,hj,fun h=>h,h0,p,hp,rfl⟩
abbrev Ords:=List (Option Addr × Nat × List Nat)
def C6 (ds:List Nat) (n k:Nat):List (List Nat):=(List.range k).map fun i=>Cd ds (i*(n-1)) n
theorem KL (ds:List Nat) (n k:Nat):C6 ds n (k+1)=C6 ds n k++[Cd ds (k*(n-1)) n]:=by simp [C6,XD]
def Db (os:Ords):List (Option Addr × List Value):=os.map fun o=>(o.1,Ah o.2.2)
def BC (n:Nat) (os:Ords):List Value:=os.map fun o=>Us o.1 n o.2.1
theorem Pv:(Tryz.prog.info? 22).map (fun i=>(i.zero,i.size,i.bytes))=some (some (Us none 0 0),1,24):=by kernel_rfl
theorem KN:RowT Tryz.prog 101 22 1 24:=by
 obtain ⟨i0,hi,hz0,hz1,hz2⟩:=info_parts Pv;exact ⟨i0,_,Tryz.underlying101,hi,hz0,hz1,hz2,rfl,by decide,by decide⟩
def Fi (gs batch steps:Nat) (Ab:Option Addr) (nb cb:Nat) (Ao:Option Addr) (e co:Nat):Ch:=.obj gs (.cells #[U O batch,U O steps,Us Ab nb cb,Us Ao e co] 204 (0,0))
theorem Pw (w w0:World) (B0 bn bsp bsx bs gs cd n batch steps nb cb e co:Nat) (Ad Ab Ao:Option Addr) (ds:List Nat) (rs:List (Nat × Nat)) (os:Ords)
  (h:Mem w [.bel B0 w0,.rd Ab (rcells rs),.rd Ad (Bq ds),.obj bn (.cells #[U O n] 3 (0,0)),.obj bsp (.cells #[.pointer (some ⟨bs,0,none⟩)] 205 (0,0)),.obj bsx (.cells #[.pointer (some ⟨gs,0,none⟩)] 153 (0,0)),
   strB bs Ad ds.length cd (e*(n-1)),Fi gs batch steps Ab nb cb Ao e co,.own B0 22 1 (Us Ao e co) e (BC n os),AD (Db os)])
  (ho:os.map (fun o=>o.2.2)=C6 ds n e) (hc:∀ o∈os,n<=o.2.1/\∀ q:Addr,o.1=some q->B0<=q.block) (hn:1<=n/\n<=1000) (hat:(e+1)*(n-1)<=ds.length) (hl:ds.length<=1000000000) (he:e<=1000000) :
  Calls Tryz.prog 105 #[.pointer (some ⟨bn,0,none⟩),.pointer (some ⟨bsp,0,none⟩),.pointer (some ⟨bsx,0,none⟩)] w fun r w'=>r=.returned (.bool true)/\∃ (Ao':Option Addr) (co':Nat) (os':Ords),
   Mem w' [.bel B0 w0,.rd Ab (rcells rs),.rd Ad (Bq ds),.obj bn (.cells #[U O n] 3 (0,0)),.obj bsp (.cells #[.pointer (some ⟨bs,0,none⟩)] 205 (0,0)),.obj bsx (.cells #[.pointer (some ⟨gs,0,none⟩)] 153 (0,0)),
    strB bs Ad ds.length cd ((e+1)*(n-1)),Fi gs batch steps Ab nb cb Ao' (e+1) co',.own B0 22 1 (Us Ao' (e+1) co') (e+1) (BC n os'),AD (Db os')] /\
   os'.map (fun o=>o.2.2)=C6 ds n (e+1)/\(∀ o∈os',n<=o.2.1/\∀ q:Addr,o.1=some q->B0<=q.block):=by
 have CS:=K1 (Pp w _ h bs cd (e*(n-1)) n 6 2 Ad ds rfl rfl hn (by rw [Nat.succ_mul] at hat;exact hat) hl);have HO:=K1 (X7 ho hc);have HBW:=K1 (show B0<=w.heap.size from (X8 (h.holds 0 _ rfl).2 (h.bel 0 rfl).size));have c0:=h.cells 3 rfl;have c1:=h.cells 4 rfl;have HS:=K1 (show e*(n-1)+(n-1)=(e+1)*(n-1) by rw [Nat.succ_mul]);clear h ho hc hat hl;go_enter Tryz.func105,Tryz.ntmps105;go_wp2_with fail
 (with_reducible refine CS.out.mono ?_)
 rintro r w1 ⟨A1,c1',rfl,hc1,hm1⟩;have hlo1:∀ q:Addr,A1=some q->B0<=q.block:=fun q hq=>X8 HBW.out (AF (hm1.own _ Bc) q hq)
 have h2:=hm1.freeze Bc;rw [Ff,HS.out] at h2;have h3:=h2.famSnoc (i:=9) (j:=10) rfl rfl
 obtain ⟨os2,hos2⟩:∃ os2,os2=os++[(A1,c1',Cd ds (e*(n-1)) n)]:=⟨_,rfl⟩
 have e1:Db os++[(A1,Ah (Cd ds (e*(n-1)) n))]=Db os2:=by rw [hos2];simp [Db]
 have e2:BC n os2=BC n os++[Us A1 n c1']:=by rw [hos2];simp [BC]
 have e3:os2.map (fun o=>o.2.2)=C6 ds n (e+1)/\(∀ o∈os2,n<=o.2.1/\∀ q:Addr,o.1=some q->B0<=q.block):=by
  rw [hos2];refine ⟨by rw [KL,XF,HO.out.1];rfl,fun o ho=>?_⟩
  rcases List.mem_append.1 ho with h1 | h1
  . exact HO.out.2 o h1
  . simp at h1;subst h1;exact ⟨hc1,hlo1⟩
 rw [e1] at h3;have HM:=K1 (show Mem w1 [.bel B0 w0,.rd Ab (rcells rs),.rd Ad (Bq ds),.obj bn (.cells #[U O n] 3 (0,0)),.obj bsp (.cells #[.pointer (some ⟨bs,0,none⟩)] 205 (0,0)),.obj bsx (.cells #[.pointer (some ⟨gs,0,none⟩)] 153 (0,0)),strB bs Ad ds.length cd ((e+1)*(n-1)),Fi gs batch steps Ab nb cb Ao e co,.own B0 22 1 (Us Ao e co) e (BC n os),AD (Db os2)] from h3.front 10);have HE:=K1 (X7 e2 e3);clear hm1 h2 h3 c0 c1 CS e1 e2 e3 hos2;go_wp2_with fail
 refine FJ 6 2 (fun W'=>W'.cell? ⟨bsx,0,none⟩=some (.pointer (some ⟨gs,0,none⟩))/\(∀ i,W'.cell? ⟨gs,i,none⟩=([U O batch,U O steps,Us Ab nb cb,Us Ao e co]:List Value)[i]?))
  (by kernel_rfl) (by kernel_rfl) (by kernel_rfl) (by intro d v c a w h;cases d <;> exact h) ⟨HM.out.drew.cell 5 0 rfl rfl,HM.out.drew.cells 7 rfl⟩ ?_
 apply Exists.intro;apply X7
 . intro W' hS;obtain ⟨s1,s2⟩:=hS;simp only [X9,XA]
   repeat still_step
   exact wpStill_nil rfl
 simp only [XE,List.drop_zero,X9,XA];refine Spine.step ?_;go_wp2_with fail;refine FI fun W2 hW=>?_;have HM2:=K1 (HM.out.drew.alloc_ hW.out);clear hW HM;refine Behind.go ⟨HM2.out.cell 5 0 rfl rfl,HM2.out.cells 7 rfl⟩ (Spine.step ?_)
 go_wp2_with (at_builtin;refine AQ rfl _ _ 101 rfl HM2.out 8 KN rfl rfl _ 1 _ [Us A1 n c1'] rfl (HM2.out.box 10 rfl) rfl (by intro u hu;simp at hu;subst hu;rfl) (by omega) ?_;intro A' c' W3 hM3)
 have HM3:=K1 hM3;clear hM3 HM2;refine Behind.go ⟨HM3.out.cell 5 0 rfl rfl,HM3.out.cells 7 rfl⟩ (Spine.nil_ ?_);have k1:W3.cell? ⟨gs,3,none⟩=some (Us Ao e co):=HM3.out.cell 7 3 rfl rfl;have f1:W3.frozen? ⟨gs,3,none⟩=false:=HM3.out.frozen 7 3 rfl;have HF:=K1 ((HM3.out.set (i:=7) (j:=3) rfl (Us A' (e+1) c')).front 10);clear HM3;go_wp2_with fail;go_ret;refine ⟨rfl,A',c',os2,?_,HE.out.2.1,HE.out.2.2⟩;rw [HE.out.1];exact HF.out
theorem Mem.join {W W':World} {L M:List Ch} (h1:Mem W L) (h2:Mem W' (.bel W.heap.size W::M)) (hf:∀ c∈M,¬ c.mut->∀ g,c.fp g->W.heap.size<=g):Mem W' (L++M):=by
 have hb:=h2.bel 0 rfl;have h1':=h1.below hb
 have hfr:∀ (j:Nat) (d:Ch),M[j]?=some d->∀ g,d.fp g->W.heap.size<=g:=fun j d hd g hg=>by
  by_cases hm:d.mut
  . rcases Nat.lt_or_ge g W.heap.size with h | h
    . exact absurd h (h2.sep (j+1) 0 d _ (by omega) (by simpa using hd) rfl hm g hg)
    . exact h
  . exact hf d (List.mem_of_getElem? hd) hm g hg
 have at_:∀ (i:Nat) (c:Ch),(L++M)[i]?=some c->(L[i]?=some c)\/(L.length<=i/\M[i-L.length]?=some c):=fun i c hc=>by
  rcases Nat.lt_or_ge i L.length with h | h
  . rw [List.getElem?_append_left h] at hc;exact .inl hc
  . rw [List.getElem?_append_right h] at hc;exact .inr ⟨h,hc⟩
 constructor
 . intro i c hc
   rcases at_ i c hc with h | ⟨_,h⟩
   . exact h1'.holds i c h
   . exact h2.holds (i-L.length+1) c (by simpa using h)
 . intro i j c d hne hc hd hm g hg1 hg2
   rcases at_ i c hc with h | ⟨hi,h⟩ <;> rcases at_ j d hd with k | ⟨hj,k⟩
   . exact h1'.sep i j c d hne h k hm g hg1 hg2
   . have:=hfr _ d k g hg2;have:=Ch.lt (h1.holds i c h) hg1;omega
   . have:=hfr _ c h g hg1;have:=Ch.lt (h1.holds j d k) hg2;omega
   . exact h2.sep (i-L.length+1) (j-L.length+1) c d (by omega) (by simpa using h) (by simpa using k) hm g hg1 hg2
def epBs (n batch:Nat):List (Nat × Nat):=Bd (n-n % batch) batch
theorem Hd {n batch:Nat} (hb:1<=batch):(epBs n batch).length=n / batch:=by
 have h1:=Nat.div_add_mod n batch;have h2:=Nat.mod_lt n hb;rw [epBs,DN];unfold pcnt;have e:n-n % batch=batch*(n / batch):=by omega
 rw [e];generalize n / batch=q
 split
 . rename_i h
   rcases XG q with h3 | h3
   . exact h3.symm
   . have:=Nat.mul_pos hb h3;omega
 . rename_i h
   have h3:1<=q:=by
    rcases XG q with h3 | h3
    . subst h3;simp at h
    . exact h3
   obtain ⟨r,rfl⟩:∃ r,q=r+1:=⟨q-1,by omega⟩
   rw [Nat.mul_succ,show batch*r+batch-1=(batch-1)+batch*r by omega,Nat.add_mul_div_left _ _ hb,Nat.div_eq_of_lt (by omega)];omega
def Px (w:World) (n batch steps:Nat) (s10:Value) (W:World):Prop:=∃ bsx gs cb Ab,s10=.pointer (some ⟨bsx,0,none⟩) /\
 Mem W [.bel w.heap.size w,.rd Ab (rcells (epBs n batch)),.obj w.heap.size (.cells #[U O n] 3 (0,0)),.obj bsx (.cells #[.pointer (some ⟨gs,0,none⟩)] 153 (0,0)),Fi gs batch steps Ab (epBs n batch).length cb none 0 0] /\
 (epBs n batch).length<=cb/\w.heap.size<=gs/\(∀ q,Ab=some q->w.heap.size<=q.block)
structure Dk (W:World) (lo hi gs n batch steps:Nat) (ds:List Nat):Prop where
 in_:lo<=gs/\gs<hi
 ex:∃ (Ab:Option Addr) (cb:Nat) (Ao:Option Addr) (co:Nat) (os:Ords),W.heap[gs]?=some (.cells #[U O batch,U O steps,Us Ab (epBs n batch).length cb,Us Ao (pcnt steps (n / batch)) co] 204 (0,0)) /\
  RdIn W lo hi Ab (rcells (epBs n batch))/\RdIn W lo hi Ao (BC n os)/\(∀ o∈os,n<=o.2.1/\RdIn W lo hi o.1 (Ah o.2.2))/\os.map (fun o=>o.2.2)=C6 ds n (pcnt steps (n / batch))/\(epBs n batch).length<=cb/\pcnt steps (n / batch)<=co
theorem Dk.keep {W1 W2:World} {lo hi gs n batch steps:Nat} {ds:List Nat} (h:Dk W1 lo hi gs n batch steps ds) (hk:∀ g,lo<=g->g<hi->W2.heap[g]?=W1.heap[g]?):Dk W2 lo hi gs n batch steps ds:=by
 obtain ⟨h0,Ab,cb,Ao,co,os,h1,h2,h3,h4,h5⟩:=h;exact ⟨h0,Ab,cb,Ao,co,os,(hk gs h0.1 h0.2).trans h1,h2.keep hk,h3.keep hk,fun o ho=>⟨(h4 o ho).1,(h4 o ho).2.keep hk⟩,h5⟩
theorem Py (n batch steps dl cap:Nat) (A:Option Addr) (ds:List Nat) (w:World) (hr:Rd w w.heap.size A (Bq ds)) (hdl:dl=ds.length) (hl:dl<=1000000000) (hn:1<=n/\n<=1000) (hb:1<=batch/\batch<=n) (hst:steps<=1000) (hd:pcnt steps (n / batch)*(n-1)<=dl) :
  Calls Tryz.prog 63 #[U O n,U O batch,U O steps,Us A dl cap] w fun e w'=>∃ gs,e=.returned (.tuple #[.pointer (some ⟨gs,0,none⟩),U O 0])/\Dk w' w.heap.size w'.heap.size gs n batch steps ds/\Below w.heap.size w w':=by
 have CB:Hid (∀ W:World,Calls Tryz.prog 39 #[U O (n-n % batch:Nat),U O batch] W fun e w'=>∃ v,e=.returned v/\OwnR w' W.heap.size v (epBs n batch)/\Below W.heap.size W w'):=K1 (fun W=>GJ (n-n % batch) batch W (by omega) ⟨hb.1,by omega⟩);have HM:=K1 ((Mem.start w).alloc (.cells #[U O n] 3));have HDL:=K1 hdl;have HRD:=K1 hr;clear hdl hr
 obtain ⟨r,hr1⟩:∃ r,r=n % batch:=⟨_,rfl⟩
 have hr2:r<batch:=by rw [hr1];exact Nat.mod_lt _ hb.1
 obtain ⟨z,hz⟩:∃ z,z=n-r:=⟨_,rfl⟩
 rw [<- hr1,<- hz] at CB;have e1:(n:Int).tmod (batch:Int)=(r:Int):=by rw [hr1];exact (Int.ofNat_tmod _ _).symm
 have e2:(n:Int)-(r:Int)=(z:Int):=by omega
 have w1:IntKind.i64.wrap (r:Int)=(r:Int):=XH _ (by omega);have w2:IntKind.i64.wrap (z:Int)=(z:Int):=XH _ (by omega);have hb0:¬ batch=0:=by omega
 have HZ:=K1 (X7 hr1 hz);clear hr1 hz;go_enter Tryz.func63,Tryz.ntmps63;go_upto_region 5 with fail
 go_cut [10] from 13 (fun s10 W=>Px w n batch steps s10 W)
 case rest =>
  obtain ⟨bsx,gs,cb,Ab,rfl,hm,hcb,hgs,hlo⟩:=hcut;have CD:=K1 (fun W (hW:Below w.heap.size w W)=>OM A dl cap ds W ((HRD.out.below hW).more hW.size) HDL.out hl);have CP:=K1 (fun W=>Kk steps (n / batch) W (by omega) ⟨Nat.div_pos hb.2 hb.1,by have:=Nat.div_le_self n batch;omega⟩);replace HM:=K1 hm;have HEP:=K1 (Hd (n:=n) hb.1);have HGS:=K1 (X7 hgs hlo);have HD:=K1 hd;rw [<- HEP.out] at CP;clear hm hgs hlo CB HZ hd e1 e2 w1 w2;go_wp2_with fail
  (with_reducible refine (CD.out _ (HM.out.bel 0 rfl)).mono ?_)
  rintro e w3 ⟨bs,Ad,cd,rfl,hm3,hbs,had⟩
  have hm4:=HM.out.join hm3 (fun c hc hm g hg=>by
   simp only [List.mem_cons,List.not_mem_nil,or_false] at hc
   rcases hc with rfl | rfl
   . obtain ⟨_,q,hq,rfl⟩:=hg;exact had q hq
   . exact absurd trivial hm)
  replace HM:=K1 (hm4.alloc (.cells #[.pointer (some ⟨bs,0,none⟩)] 205));have cx:=HM.out.cells 3 rfl;have cg:=HM.out.cells 4 rfl;clear hm3 hm4 CD;go_wp2_with fail
  (with_reducible refine (CP.out _).mono ?_)
  rintro e' w4 ⟨rfl,rfl⟩;have hE:pcnt steps (epBs n batch).length<=1000:=X8 (Cm _ _) hst;generalize hnb:(epBs n batch).length=nb at *;have HNB:=K1 hnb;generalize hee:pcnt steps nb=E at *;have HEE:=K1 hee;clear hnb hee cx cg CP;have hm5:Mem _ [.bel w.heap.size w,.rd Ab (rcells (epBs n batch)),.rd Ad (Bq ds),.obj w.heap.size (.cells #[U O n] 3 (0,0)),.obj w3.heap.size (.cells #[.pointer (some ⟨bs,0,none⟩)] 205 (0,0)),.obj bsx (.cells #[.pointer (some ⟨gs,0,none⟩)] 153 (0,0)),strB bs Ad dl cd 0,Fi gs batch steps Ab nb cb none 0 0]:=HM.out.pick [0,1,5,2,7,3,6,4] _ rfl (by decide)
  rw [HDL.out] at hm5;have hm6:=(hm5.add (c:=.own w.heap.size 22 1 (Us none 0 0) 0 (BC n [])) ⟨Bh _ _ _ _,(HM.out.bel 0 rfl).size⟩ (fun _ _ _ _ g hg=>by cases hg)).add (c:=AD (Db [])) (Da (fun a ha=>by cases ha)) (fun _ _ _ _ g hg=>by obtain ⟨a,ha,_⟩:=hg;cases ha);have HM0:=K1 hm6;clear hm5 hm6 HM;go_wp2_with fail;refine A9 fun W0 hW=>?_;replace HM0:=K1 (hW.out.symm ▸ HM0.out);clear hW;generalize hbsp:w3.heap.size=bsp at *;clear hbsp
  go_loopw [57] (fun i wr=>∃ (e:Nat) (Ao:Option Addr) (co:Nat) (os:Ords),e<=E/\i=U O e/\Hid (Mem wr [.bel w.heap.size w,.rd Ab (rcells (epBs n batch)),.rd Ad (Bq ds),.obj w.heap.size (.cells #[U O n] 3 (0,0)),.obj bsp (.cells #[.pointer (some ⟨bs,0,none⟩)] 205 (0,0)),.obj bsx (.cells #[.pointer (some ⟨gs,0,none⟩)] 153 (0,0)),strB bs Ad ds.length cd (e*(n-1)),Fi gs batch steps Ab nb cb Ao e co,.own w.heap.size 22 1 (Us Ao e co) e (BC n os),AD (Db os)])/\Hid (os.map (fun o=>o.2.2)=C6 ds n e/\∀ o∈os,n<=o.2.1/\∀ q:Addr,o.1=some q->w.heap.size<=q.block)) (fun i _=>E-(intOf i).toNat)
  case atStart=>exact ⟨0,none,0,[],Nat.zero_le _,rfl,K1 (by rw [Nat.zero_mul];exact HM0.out),K1 ⟨rfl,fun o ho=>by cases ho⟩⟩
  case round =>
   clear HM0;obtain ⟨e,Ao,co,os,he,rfl,HM,HOS⟩:=hrel
   by_cases hlt:e<E
   . have hat:(e+1)*(n-1)<=ds.length:=by
      have h1:=HD.out;have h2:(e+1)*(n-1)<=E*(n-1):=Nat.mul_le_mul_right _ (by omega);rw [<- HEP.out,HEE.out,HDL.out] at h1;omega
     have CE:=K1 (Pw wr w w.heap.size w.heap.size bsp bsx bs gs cd n batch steps nb cb e co Ad Ab Ao ds (epBs n batch) os HM.out HOS.out.1 HOS.out.2 hn hat (by rw [<- HDL.out];exact hl) (by omega));clear hat;go_wp2_with fail
     (with_reducible refine CE.out.mono ?_)
     rintro r' w5 ⟨rfl,Ao',co',os',hm',ho',hc'⟩;have HM':=K1 hm';have HO':=K1 (X7 ho' hc');clear hm' ho' hc' CE HM HOS;go_wp2_with fail;go_roundw
     case rel=>exact ⟨e+1,Ao',co',os',by omega,by go_num,HM',HO'⟩
     case measure=>simp [intOf];omega
   . have hE2:e=E:=by omega
     subst hE2;have cx:=HM.out.cells 5 rfl
     have HF:=K1 (show Dk wr w.heap.size wr.heap.size gs n batch steps ds/\Below w.heap.size w wr from by
      have ho:=HM.out.own 8 rfl;refine ⟨⟨⟨HGS.out.1,HM.out.lt 7 rfl⟩,Ab,cb,Ao,co,os,?_,⟨HM.out.rd 1 rfl,HGS.out.2⟩,⟨AJ ho,AF ho⟩,fun o hoo=>⟨(HOS.out.2 o hoo).1,?_,(HOS.out.2 o hoo).2⟩,?_,?_,?_⟩,HM.out.bel 0 rfl⟩
      . rw [<- HEP.out,HEE.out,HNB.out];exact HM.out.obj 7 rfl
      . exact HM.out.st 9 rfl (o.1,Ah o.2.2) (List.mem_map.2 ⟨o,hoo,rfl⟩)
      . rw [<- HEP.out,HEE.out];exact HOS.out.1
      . rw [HNB.out];exact hcb
      . rw [<- HEP.out,HEE.out];exact Be ho)
     clear HM HOS;go_wp2_with fail
     go_ret2
     exact ⟨gs,rfl,HF.out.1,HF.out.2⟩
 case first =>
  go_wp2_with fail;refine A9 fun W0 hW=>?_;replace HM:=K1 (show Mem W0.drew _ from (hW.out.symm ▸ HM.out:Mem W0 _).drew);clear hW
  go_region_held3 (fun w'=>w'.cell? ⟨w.heap.size,0,none⟩=some (U O n))
   (first
    | exact HM.out.cell 1 0 rfl rfl
    | exact (HM.out.alloc _).cell 1 0 rfl rfl
    | exact ((HM.out.alloc _).alloc _).cell 1 0 rfl rfl
    | exact ((HM.out.alloc _).set (i:=2) rfl _).cell 1 0 rfl rfl
    | exact (((HM.out.alloc _).alloc _).set (i:=3) rfl _).cell 1 0 rfl rfl
    | exact (((HM.out.alloc _).alloc _).set (i:=4) rfl _).cell 1 0 rfl rfl)
   ((go_at_call 39
     (with_reducible refine (CB.out _).mono ?_)
     rintro e w4 ⟨v,rfl,hv,hb⟩;obtain ⟨A4,c4,rfl⟩:=DF hv;have HC4:=K1 (Be hv)
     first
      | (have HLO:=K1 (fun q hq=>X8 (HM.out.bel 0 rfl).size (AF hv q hq))
         replace HM:=K1 (HM.out.push_rd hb (AJ hv) (AF hv));have cB:∀ o,((w4.alloc (.cells #[.pointer none] 153)).alloc o).cell? ⟨w4.heap.size,0,none⟩=some (.pointer none):=fun o=>((HM.out.alloc _).alloc o).cell 3 0 rfl rfl
         have fB:∀ o,((w4.alloc (.cells #[.pointer none] 153)).alloc o).frozen? ⟨w4.heap.size,0,none⟩=false:=fun o=>((HM.out.alloc _).alloc o).frozen 3 0 rfl)
      | (have HLO:=K1 (fun q hq=>X8 ((HM.out.alloc _).bel 0 rfl).size (AF hv q hq))
         replace HM:=K1 ((HM.out.alloc _).push_rd hb (AJ hv) (AF hv));have cB:∀ o,(w4.alloc o).cell? ⟨W0.heap.size,0,none⟩=some (.pointer none):=fun o=>(HM.out.alloc o).cell 2 0 rfl rfl
         have fB:∀ o,(w4.alloc o).frozen? ⟨W0.heap.size,0,none⟩=false:=fun o=>(HM.out.alloc o).frozen 2 0 rfl)
     clear hb hv CB))
  . have hsz:=(HM.out.bel 0 rfl).size;go_wp2_with fail;go_meet;refine ⟨w4.heap.size+1,w4.heap.size,c4,A4,rfl,?_,HC4.out,hsz,HLO.out⟩
    have h:=((HM.out.alloc (.cells #[U O batch,U O steps,Us A4 (epBs n batch).length c4,Us none 0 0] 204)).alloc (.cells #[.pointer (some ⟨w4.heap.size,0,none⟩)] 153))
    simp only [XI] at h;exact h.pick [0,2,1,4,3] _ rfl (by decide)
  . have hsz:=(HM.out.bel 0 rfl).size;go_wp2_with fail;go_meet;refine ⟨w4.heap.size,w4.heap.size+1,c4,A4,rfl,?_,HC4.out,by omega,HLO.out⟩
    have h:=((HM.out.alloc (.cells #[.pointer (some ⟨w4.heap.size+1,0,none⟩)] 153)).alloc (.cells #[U O batch,U O steps,Us A4 (epBs n batch).length c4,Us none 0 0] 204))
    simp only [XI] at h;exact h.pick [0,2,1,3,4] _ rfl (by decide)
  . have hsz:=(HM.out.bel 0 rfl).size;go_wp2_with fail;go_meet;refine ⟨W0.heap.size,w4.heap.size,c4,A4,rfl,?_,HC4.out,hsz,HLO.out⟩
    have h:=((HM.out.alloc (.cells #[U O batch,U O steps,Us A4 (epBs n batch).length c4,Us none 0 0] 204)).set (i:=2) (j:=0) rfl (.pointer (some ⟨w4.heap.size,0,none⟩)))
    exact h.pick [0,3,1,2,4] _ rfl (by decide)
theorem Pz {α:Type} (cur:List α) (N lo:Nat) (ys:List α) (hN:N<=cur.length) (hf:lo+ys.length<=N):(cur.take lo++(ys++cur.drop (lo+ys.length))).take N=splice (cur.take N) lo ys:=by
 have h1:(cur.take lo).length=lo:=by rw [XJ];omega
 have h2:ys.take (N-lo)=ys:=List.take_of_length_le (by omega);have h3:(cur.take lo).take N=cur.take lo:=by rw [List.take_take,Nat.min_eq_right (by omega)]
 have h4:(cur.take N).take lo=cur.take lo:=by rw [List.take_take,Nat.min_eq_left (by omega)]
 rw [XK,XK,h1,h2,h3,splice,h4,List.drop_take,Nat.sub_sub]
theorem Mem.spliceOwn {W:World} {L:List Ch} (h:Mem W L) {i base e N C g lo:Nat} {xs ys:List Value} (hi:L[i]?=some (.own base e 1 (Us (some ⟨g,0,none⟩) N C) N xs)) (hfit:lo+ys.length<=N) :
  ∃ cur,W.heap[g]?=some (.cells cur e (0,0))/\lo+ys.length<=cur.size/\Mem (W.setRow g (cur.toList.take lo++(ys++cur.toList.drop (lo+ys.length))).toArray) (L.set i (.own base e 1 (Us (some ⟨g,0,none⟩) N C) N (splice xs lo ys))):=by
 have ho:=h.own i hi;obtain ⟨hx,ho2⟩:=ho
 rcases ho2 with ⟨hv,_⟩ | ⟨g',cap,cur,hv,hb,hh,hnc,hml,hcs,ht⟩
 . cases hv
 . injection hv with hA _ hC
   injection hA with hA
   injection hA with hg
   subst hg;subst hC
   have hsz:lo+ys.length<=cur.size:=by rw [hcs];omega
   refine ⟨cur,hh,hsz,?_⟩;have hset:=setRow_heap W g cur (cur.toList.take lo++(ys++cur.toList.drop (lo+ys.length))).toArray e (0,0) hh;refine h.grow hi ⟨rfl,rfl,rfl,by simp [World.setRow],fun k _ hne=>setRow_other W g k _ (fun e=>hne (by subst e;rfl))⟩ ⟨?_,.inr ⟨g,C,_,rfl,hb,hset,hnc,hml,?_,?_⟩⟩ (.inl rfl)
   . rw [length_splice _ _ _ (by rw [hx];omega)];exact hx
   . simp;omega
   . rw [<- ht,Nat.mul_one] at hx ⊢;exact Pz _ _ _ _ (by rw [XJ] at hx;omega) hfit
theorem IX {P:Program} {w:World} (dT sT ty elem:TypeId) (hu:P.underlying dT=some (.slice elem)) (hsz:(P.info? elem).map (·.size)=some 1)
  {L:List Ch} (HM:Mem w L) (k:Nat) {base N C g lo:Nat} {xs ys:List Value} (hk:L[k]?=some (.own base elem 1 (Us (some ⟨g,0,none⟩) N C) N xs))
  (A:Option Addr) (m dC sC:Nat) (hr:Rd w w.heap.size A ys) (hl:ys.length=m) (hfit:lo+m<=N) (hm:0<m) (h1:∀ u∈ys,u.oneCell'=true) :
  ∃ w',(Builtin.copy_ #[dT,sT] ty #[Us (some ⟨g,lo,none⟩) m dC,Us A m sC]).run P w=.ok (goInt m) w'/\Mem w' (L.set k (.own base elem 1 (Us (some ⟨g,0,none⟩) N C) N (splice xs lo ys))):=by
 subst hl;obtain ⟨cur,hh,hsz2,hM⟩:=HM.spliceOwn hk hfit;obtain ⟨b,off,rfl,_,hc⟩:=hr hm;have hrun:=run_copy_row (P:=P) w dT sT ty elem g lo ys.length dC ⟨b,off,none⟩ ys.length sC cur elem ys hu hsz hh (by simp) (fun j v hv=>by rw [Cg];exact hc j v hv) hsz2 h1;rw [List.append_assoc] at hrun;exact ⟨_,hrun,hM⟩
theorem P1 {P:Program} {w:World} {ops:Array Oper} {rest:List Oper} {o:Oper} {a:Act} {Q:Exit->Act->World->Prop} (hgd:o.guard=none) (d s:Operand) (dT sT:TypeId)
  (ho:o.op=.call { callee:=.builtin .copy,args:=#[d,s],argTypes:=#[dT,sT] }) (elem:TypeId) (hu:P.underlying dT=some (.slice elem)) (hsz:(P.info? elem).map (·.size)=some 1)
  {L:List Ch} (HM:Mem w L) (k:Nat) {base N C g lo:Nat} {xs ys:List Value} (hk:L[k]?=some (.own base elem 1 (Us (some ⟨g,0,none⟩) N C) N xs))
  (A:Option Addr) (m dC sC:Nat) (hd:a.eval d=Us (some ⟨g,lo,none⟩) m dC) (hs:a.eval s=Us A m sC) (hr:Rd w w.heap.size A ys) (hl:ys.length=m) (hfit:lo+m<=N) (hm:0<m) (h1:∀ u∈ys,u.oneCell'=true)
  (h:∀ w',Mem w' (L.set k (.own base elem 1 (Us (some ⟨g,0,none⟩) N C) N (splice xs lo ys)))->wpList P ops Q rest (a.put o.dst (goInt m)) w'):wpList P ops Q (o::rest) a w:=by
 subst hl;obtain ⟨cur,hh,hsz2,hM⟩:=HM.spliceOwn hk hfit;obtain ⟨b,off,rfl,_,hc⟩:=hr hm;refine wpList_copy_own hgd d s dT sT ho elem hu hsz g lo ys.length dC ⟨b,off,none⟩ ys.length sC hd hs cur elem hh ys (by simp) (fun j v hv=>by rw [Cg];exact hc j v hv) hsz2 h1 (h _ hM)
def hole:Ch:=.st (fun _=>False) fun _=>True
theorem Mem.hole_ {W:World} {L:List Ch} (h:Mem W L):Mem W (L++[hole]) :=
 h.add ⟨trivial,fun _ h=>h.elim,fun _ _ _ _ _=>trivial⟩ fun _ _ _ _ _ h=>h.elim
theorem Mem.fit {W:World} {L:List Ch} {c d:Ch} (h:Mem W (L++[c])) (i:Nat) (hid:L[i]?=some d):Mem W (L.set i c):=by
 have hi:=(List.getElem?_eq_some_iff.1 hid).1
 have old:∀ j d,j≠i->(L.set i c)[j]?=some d->(L++[c])[j]?=some d:=fun j d hne hj=>by
  rw [XB (Ne.symm hne)] at hj;exact at_l hj
 have new:∀ d,(L.set i c)[i]?=some d->d=c:=fun d hd=>by
  rw [List.getElem?_set_self hi] at hd;injection hd with hd;exact hd.symm
 have lt:∀ j d,j≠i->(L.set i c)[j]?=some d->j<L.length:=fun j d hne hj=>by
  rw [XB (Ne.symm hne)] at hj;exact (List.getElem?_eq_some_iff.1 hj).1
 constructor
 . intro j d hj
   by_cases e:j=i
   . subst e;rw [new d hj];exact h.holds _ _ Bc
   . exact h.holds j d (old j d e hj)
 . intro j l a b hne hj hl
   by_cases e:j=i
   . subst e;rw [new a hj];have:=lt l b (Ne.symm hne) hl;exact h.sep L.length l c b (by omega) Bc (old l b (Ne.symm hne) hl)
   . by_cases e2:l=i
     . subst e2;rw [new b hl];have:=lt j a e hj;exact h.sep j L.length a c (by omega) (old j a e hj) Bc
     . exact h.sep j l a b hne (old j a e hj) (old l b e2 hl)
theorem Mem.allocFit {W:World} {L:List Ch} (h:Mem W L) {B:Nat} {w0:World} (h0:L[0]?=some (.bel B w0)) (o:Obj) (i:Nat) {d:Ch} (hi:L[i]?=some d):∃ g,g=W.heap.size/\B<=g/\Mem (W.alloc o) (L.set i (.obj g o)):=⟨_,rfl,X8 (h.holds 0 _ h0).2 (h.holds 0 _ h0).1.size,(h.alloc o).fit i hi⟩
theorem Cx.cells {W:World} {lo hi gp:Nat} {c:Kf} {p:Nat} (h:Cx W lo hi gp c p) (hh:hi<=W.heap.size):∃ As ns cs Ab cb Ag cg Al cl,
  (∀ i,W.cell? ⟨gp,i,none⟩=([Us As ns cs,U O c.sh,U O c.ra,U O c.mo,U O c.k,U O c.ba,U O c.mi,U O c.st,U O c.bu,U O c.s,U O c.wi,U O c.ca,Us Ab (plBs c p).length cb,Us Ag (plGs c p).length cg,Us Al c.k cl]:List Value)[i]?) /\
  Rd W W.heap.size Ab (rcells (plBs c p))/\Rd W W.heap.size Ag (rcells (plGs c p))/\RdI W W.heap.size Al (D3 c p c.k)/\(plBs c p).length<=cb/\(plGs c p).length<=cg/\c.k<=cl:=by
 obtain ⟨_,As,ns,cs,Ab,cb,Ag,cg,Al,cl,h1,h2,h3,h4,h5⟩:=h;refine ⟨As,ns,cs,Ab,cb,Ag,cg,Al,cl,fun i=>?_,h2.rd hh,h3.rd hh,h4.rd hh,h5⟩;rw [Ay h1 i];simp [sgOf,Sg.cells]
theorem P2 (w:World) (lo hi gp:Nat) (c:Kf) (p:Nat) (h:Cx w lo hi gp c p) (hh:hi<=w.heap.size) (hc:c.Ok) (hp:p<=60) :
  Calls Tryz.prog 67 #[.pointer (some ⟨gp,0,none⟩)] w fun e w'=>∃ A cc,e=.returned (Us A (plBs c p).length cc)/\OwnR w' w.heap.size (Us A (plBs c p).length cc) (plBs c p)/\(plBs c p).length<=cc/\Below w.heap.size w w':=by
 obtain ⟨As,ns,cs,Ab,cb,Ag,cg,Al,cl,h1,h2,h3,h4,h5,h6,h7⟩:=h.cells hh;have hl:=(DU hc hp).2.1;have C:=K1 (NN Ab (plBs c p).length cb (rcells (plBs c p)) w h2 (En _) (by intro u hu;obtain ⟨q,_,hq⟩:=List.mem_flatMap.1 hu;simp at hq;rcases hq with rfl | rfl <;> rfl) (by omega));have h12:=h1 12;clear h1 h h2 h3 h4;simp at h12;go_enter Tryz.func67,Tryz.ntmps67;go_wp2_with fail
 (with_reducible refine C.out.mono ?_)
 rintro e w1 ⟨A,cc,rfl,hv,hcc,hb⟩;have H:=K1 (X7 hv hb);clear hv hb;go_wp2_with fail;go_ret;exact ⟨A,cc,rfl,H.out.1,hcc,H.out.2⟩
theorem KO (w:World) (lo hi gp:Nat) (c:Kf) (p u:Nat) (h:Cx w lo hi gp c p) (hh:hi<=w.heap.size) (hu:u<c.k) :
  Calls Tryz.prog 114 #[.pointer (some ⟨gp,0,none⟩),U O u] w fun e w'=>e=.returned (U O (AS c p 0 u).length)/\w=w':=by
 obtain ⟨As,ns,cs,Ab,cb,Ag,cg,Al,cl,h1,h2,h3,h4,h5,h6,h7⟩:=h.cells hh;obtain ⟨b,off,rfl,_,hx⟩:=h4.at_ (by rw [KK];omega);have hxu:=hx u ((AS c p 0 u).length:Int) (by simp [D3,hu]);have h14:=h1 14;simp at h14;clear h1 h h2 h3 h4 hx;generalize (AS c p 0 u).length=ln at *;go_enter Tryz.func114,Tryz.ntmps114
 go_wp2
 go_ret;exact ⟨rfl,rfl⟩
theorem He (c:Kf) (p t u:Nat):0<(AS c p t u).length:=by simp [AS,Cv];omega
theorem KQ (w:World) (lo hi gp:Nat) (c:Kf) (p u t:Nat) (h:Cx w lo hi gp c p) (hh:hi<=w.heap.size) (hc:c.Ok) (hp:p<=60) (hu:u<c.k) (ht:t<c.st) :
  Calls Tryz.prog 69 #[.pointer (some ⟨gp,0,none⟩),U O u,U O t] w fun e w'=>∃ A cc,e=.returned (Us A (AS c p t u).length cc) /\
   w'.ownsRow w.heap.size 146 12 (Us A (AS c p t u).length cc) (AS c p t u).length (icells (AS c p t u))/\Below w.heap.size w w':=by
 obtain ⟨As,ns,cs,Ab,cb,Ag,cg,Al,cl,h1,h2,h3,h4,h5,h6,h7⟩:=h.cells hh;have hok:=DU hc hp;have CL:=K1 (KO w lo hi gp c p u h hh hu)
 have CI:Hid (Calls Tryz.prog 108 #[.agg (sgOf c p As ns cs Ab cb Ag cg).cells.toArray,U O u,U O t] w fun e w'=>∃ A cc,e=.returned (Us A (AS c p t u).length cc) /\
   w'.ownsRow w.heap.size 146 12 (Us A (AS c p t u).length cc) (AS c p t u).length (icells (AS c p t u))/\Below w.heap.size w w') :=
  K1 (KF w (sgOf c p As ns cs Ab cb Ag cg) u t h2 h3 hc.k hu hc.s hok.1 hok.2.1 h5 hok.2.2.1 hok.2.2.2 h6 hc.mi.2)
 have hps:=He c p 0 u;have hne:((AS c p 0 u).length:Int)≠0:=by omega
 have hne2:(((AS c p 0 u).length:Int) == 0)=false:=beq_eq_false_iff_ne.2 (by omega);have HP:=K1 hps;have hst:=hc.st;clear h h2 h3 h4 hok;dsimp only [sgOf,Sg.cells] at CI;generalize AS c p t u=its at *;generalize hln:(AS c p 0 u).length=ln at *;have HLN:=K1 hln;clear hln;have hlp:0<ln:=by omega
 generalize plBs c p=bs at *;generalize plGs c p=gs at *;obtain ⟨sh,ra,mo,k,ba,mi,st,bu,s,wi,ca⟩:=c;dsimp only at *;go_enter Tryz.func69,Tryz.ntmps69;go_wp2_with fail
 (with_reducible refine CL.out.mono ?_)
 rintro e w1 ⟨rfl,rfl⟩;go_wp2_with fail
 (with_reducible refine CI.out.mono ?_)
 rintro e w1 ⟨A,cc,rfl,hv,hb⟩;have H:=K1 (X7 hv hb);clear hv hb;go_wp2_with fail;go_ret;exact ⟨A,cc,rfl,H.out.1,H.out.2⟩
theorem KS (w:World) (lo hi gp:Nat) (c:Kf) (p u t:Nat) (h:Cx w lo hi gp c p) (hh:hi<=w.heap.size) (hu:u<c.k) (ht:c.st<=t) :
  Calls Tryz.prog 69 #[.pointer (some ⟨gp,0,none⟩),U O u,U O t] w fun e w'=>e=.returned (Us none 0 0)/\w=w':=by
 obtain ⟨As,ns,cs,Ab,cb,Ag,cg,Al,cl,h1,h2,h3,h4,h5,h6,h7⟩:=h.cells hh;have CL:=K1 (KO w lo hi gp c p u h hh hu);have hps:=He c p 0 u;have hne2:(((AS c p 0 u).length:Int) == 0)=false:=beq_eq_false_iff_ne.2 (by omega);have h77:=h1 7;simp at h77;clear h h2 h3 h4 h1;generalize (AS c p 0 u).length=ln at *;go_enter Tryz.func69,Tryz.ntmps69;go_wp2_with fail
 (with_reducible refine CL.out.mono ?_)
 rintro e w1 ⟨rfl,rfl⟩;go_wp2_with fail;go_ret;exact ⟨rfl,rfl⟩
end
end Go.Proofs.YtdpojpcoghcieaaGreat
