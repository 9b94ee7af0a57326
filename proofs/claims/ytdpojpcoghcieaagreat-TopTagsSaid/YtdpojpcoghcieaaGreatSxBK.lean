/- A part of the proof of TopTags: RefGroup, RefItems, RefStep, RefChg. Conditions: none. -/
import Derived.Test.YtdpojpcoghcieaaGreatSxBH
import Derived.Test.YtdpojpcoghcieaaGreatSxBC
set_option maxHeartbeats 8000000
set_option linter.all false
namespace Go.Proofs.YtdpojpcoghcieaaGreat
open Lib renaming hid → K1
open Go.RowKit
set_option maxRecDepth 100000
open Value renaming int → U, slice → Us
open IntKind renaming i64 → O
open List renaming length_append → Ago, append_assoc → Agq, mem_of_getElem? → Agr, length_map → Agt, length_set → Agw
open Nat renaming zero_le → Agp
open PlS renaming ef_ → Ags
open After renaming go → Agu
open World renaming size_alloc → Agv
section
def riO (base:Nat) (A:Option Addr) (c:Nat) (l:List It):Ch:=.own base 76 12 (Us A l.length c) l.length (icells l)
theorem F5 {Q:Exit->Act->World->Prop} {a:Act} {o:Oper} {ops:Array Oper} {rest:List Oper} (hgd:o.guard=none) (s x:Operand)
  (ho:o.op=.call { callee:=.builtin .append,args:=#[s,x],argTypes:=#[67,67] }) {W:World} {R:List Ch} {base:Nat} {A:Option Addr} {c n:Nat} {its:List It} (hn:its.length=n) (HM:Mem W (riO base A c its::R))
  (it:It) {cs:Array Value} (hcs:cs=it.cells.toArray) (hs:a.eval s=Us A n c) (hx:a.eval x=Us (some ⟨W.heap.size,0,none⟩) 1 1) (hl:n<=1000000000)
  (h:∀ A' c' w',Mem w' (riO base A' c' (its++[it])::R)->wpList Tryz.prog ops Q rest (a.put o.dst (Us A' (n+1) c')) w'):wpList Tryz.prog ops Q (o::rest) a (W.alloc (.cells cs 76)):=by
 subst hcs;subst hn;have HM2:=HM.alloc (.cells it.cells.toArray 76);refine AQ hgd s x 67 ho HM2 0 MT rfl hs _ 1 _ it.cells hx ?_ rfl (JZ _) (by omega) ?_
 . have:=HM2.box (R.length+1) (g:=W.heap.size) (cs:=it.cells.toArray) (t:=76) (by simp)
   simpa using this
 . intro A' c' w' hm;refine h A' c' w' ?_;have h2:=hm.front (R.length+1);refine Mem.cast h2 ?_;unfold riO;rw [JY,Ago,List.length_singleton];simp
theorem T0 (w:World) (R:List Ch) (c:Kf) (p u t:Nat) (sz:Value) (its:List It) (A:Option Addr) (cap base lo hi:Nat) (hM:Mem w (riO base A cap its::R)) (hc:c.Ok) (hp:p<=60) (hu:u<c.k) (hlo:lo<=hi) (hhi:hi<=(plBs c p).length) (hl:its.length<=200000000) :
  Calls Tryz.prog 94 #[Us A its.length cap,.agg (rpC c p sz).toArray,U O u,U O t,.agg #[U O lo,U O hi]] w fun e w'=>∃ A' c',e=.returned (Us A' (its++CJ (plBs c p) c.k c.s t u (lo,hi)).length c')/\Mem w' (riO base A' c' (its++CJ (plBs c p) c.k c.s t u (lo,hi))::R):=by
 have HJB:=K1 (fun W j x y (hj:(plBs c p)[j]?=some (x,y))=>Tm W c p t j sz x y hj hc.bu (by omega));have hbs:=DU hc hp;have hk8:=hc.k;have hs:=hc.s;have HR2:=K1 (fun W j x y ph r (hj:(plBs c p)[j]?=some (x,y)) (hr:r+1<c.k) (hph:ph<=1)=>Tl ⟨t,j,x,y,c.k,c.s⟩ u ph r W ⟨hk8.1,Nat.le_trans hk8.2 (by decide)⟩ hu hr hph (hbs.1 _ (Agr hj)).1 (hbs.1 _ (Agr hj)).2 hs);have HGL:=K1 (KE (s:=c.s) (t:=t) (w:=u) (g:=(lo,hi)) hbs.1 hbs.2.1 hk8 hlo hhi);generalize plBs c p=bs at *
 obtain ⟨d,hd⟩:∃ d,d=c.k-1:=⟨_,rfl⟩
 obtain ⟨n,hn⟩:∃ n,n=hi-lo:=⟨_,rfl⟩
 have hn60:n<=60:=by have:=hbs.2.1;omega
 have hh60:hi<=60:=by have:=hbs.2.1;omega
 have hl0:(Cn bs c.k c.s t u lo n (2*d)).length<=2000*n*(2*d):=Fe hbs.1 hk8.1 (by omega) _
 obtain ⟨i1,hi1⟩:∃ i1,i1=its++fromTo 2 t lo n:=⟨_,rfl⟩
 obtain ⟨PL,hPL⟩:∃ PL:Nat->List It,PL=fun q=>i1++Cn bs c.k c.s t u lo n q:=⟨_,rfl⟩
 obtain ⟨QL,hQL⟩:∃ QL:Nat->Nat->List It,QL=fun q b=>PL q++BV bs c.k c.s t u q lo b:=⟨_,rfl⟩
 obtain ⟨RD,hRD⟩:∃ RD:Nat->Nat->List Ac,RD=fun q b=>Ca (EH bs c.k c.s t (lo+b)) u (q / d) (q % d):=⟨_,rfl⟩
 have HI1:=K1 hi1;have P0:=K1 (show PL 0=i1 by rw [hPL];simp [Cn]);have Q0:=K1 (show ∀ q,QL q 0=PL q by intro q;rw [hQL];simp [BV]);have PS:=K1 (show ∀ q,PL (q+1)=QL q n by intro q;rw [hQL,hPL];simp only [];rw [IS,Agq]);have QS:=K1 (show ∀ q b,QL q (b+1)=QL q b++(RD q b).map (BJ t) by intro q b;rw [hQL,hRD];simp only [];rw [IR,Agq,rndB,hd])
 have RDE:=K1 (show ∀ q b ph r x y,q=ph*d+r->r<d->bs[lo+b]?=some (x,y)->RD q b=Ca ⟨t,lo+b,x,y,c.k,c.s⟩ u ph r by
  intro q b ph r x y hq hr hb;have h1:q / d=ph:=by rw [hq,Nat.add_comm,Nat.add_mul_div_right _ _ (by omega),Nat.div_eq_of_lt hr,Nat.zero_add]
  have h2:q % d=r:=by rw [hq,Nat.add_comm,Nat.add_mul_mod_self_right,Nat.mod_eq_of_lt hr]
  rw [hRD];simp only []
  rw [h1,h2,GT hb])
 have HPLL:=K1 (show ∀ q,q<=2*d->(PL q).length<=300000000 by
  intro q hq;rw [hPL];simp only [];rw [Ago,hi1,Ago,Co];have h1:=Fe (s:=c.s) (t:=t) (w:=u) (lo:=lo) (n:=n) hbs.1 hk8.1 (by omega) q;have h3:2000*n*q<=2000*60*14:=Nat.mul_le_mul (Nat.mul_le_mul_left _ hn60) (by omega)
  omega)
 have HQLL:=K1 (show ∀ q b,q<=2*d->b<=n->(QL q b).length<=400000000 by
  intro q b hq hb;have h1:=GU (s:=c.s) (t:=t) (w:=u) (q:=q) (lo:=lo) hbs.1 hk8.1 b (by omega);have h2:=HPLL.out q hq;rw [hQL];simp only [];rw [Ago]
  omega)
 have HFIN:=K1 (show its++CJ bs c.k c.s t u (lo,hi)=PL (2*d)++fromTo 5 t lo n by
  rw [hPL,CJ,DH];simp only [];rw [hi1,hd,hn]
  simp only [Agq])
 have HBO:=K1 (show ∀ b,b<n->∃ x y,bs[lo+b]?=some (x,y) by
  intro b hb;obtain ⟨⟨x,y⟩,h⟩:=Au bs (lo+b) (by omega)
  exact ⟨x,y,h⟩)
 have e0:(c.k:Int)-1=(d:Int):=by omega
 have hdk:∀ r,r<d->r+1<c.k:=by intro r hr;omega
 have HDK:=K1 hdk;have hd8:d<=7:=by omega
 have hNN:=K1 hn;rw [HFIN.out];clear HGL hl0 hPL hQL hRD hbs hdk hd hn;have hm:=(((show Mem w ([riO base A cap its]++R) from hM).alloc (.cells (rpC c p sz).toArray 82)).fA.alloc (.cells #[U O lo,U O hi] 72)).fA;simp only [Agv] at hm;have HM0:=K1 (show Mem _ (riO base A cap its::.obj w.heap.size (.cells (rpC c p sz).toArray 82 (0,0))::.obj (w.heap.size+1) (.cells #[U O lo,U O hi] 72 (0,0))::R) from hm);clear hm hM
 obtain ⟨N0,hN0⟩:∃ N0,N0=its.length:=⟨_,rfl⟩
 rw [<- hN0] at hl ⊢;have HN0:=K1 hN0.symm;clear hN0 hk8 hs hc;obtain ⟨sh,ra,mo,k,ba,mi,st,bu,s,wi,ca⟩:=c;dsimp only [rpC,Jb.cells] at *;go_enter Tryz.func94,Tryz.ntmps94;have c2:=HM0.out.cells 2 rfl;go_wp2_with fail;clear c2;generalize w.heap.size=g0 at *
 obtain ⟨CP,hCP⟩:∃ CP:Obj,CP=.cells #[sz,U O sh,U O ra,U O mo,U O k,U O ba,U O mi,U O st,U O bu,U O s,U O wi,U O ca,U O p] 82 (0,0):=⟨_,rfl⟩
 have HCP:=K1 hCP;replace HM0:=K1 (show Mem _ (riO base A cap its::.obj g0 CP::.obj (g0+1) (.cells #[U O lo,U O hi] 72 (0,0))::R) by rw [hCP];exact HM0.out);clear hCP
 go_loopw [0,11] (fun s0 s11 wr=>∃ (b:Nat) (A:Option Addr) (cc:Nat) (N:Nat),b<=n/\N<=200000060/\s0=Us A N cc/\s11=U O (lo+b:Nat)/\Hid ((its++fromTo 2 t lo b).length=N/\Mem wr (riO base A cc (its++fromTo 2 t lo b)::.obj g0 CP::.obj (g0+1) (.cells #[U O lo,U O hi] 72 (0,0))::R))) (fun _ s11 _=>hi-(intOf s11).toNat)
 case atStart=>exact ⟨0,A,cap,N0,Agp _,by omega,rfl,rfl,K1 (by rw [show its++fromTo 2 t lo 0=its by simp [fromTo]];exact ⟨HN0.out,HM0.out⟩)⟩
 case round =>
  clear HM0;obtain ⟨b,A,cc,N,hb,hN,rfl,rfl,HM⟩:=hrel
  obtain ⟨j,hj⟩:∃ j,j=lo+b:=⟨_,rfl⟩
  rw [<- hj];have hjb:j<=60:=by have:=hNN.out;omega
  have HJ:=K1 hj;clear hj;have c2:=HM.out.2.cells 2 rfl
  by_cases hlt:j<hi
  . have HLE:=K1 (show N<=200000059 by have h1:=HM.out.1;rw [Ago,Co] at h1;have:=HJ.out;have:=hNN.out;have:=HN0.out;omega)
    go_wp2_with (at_builtin;refine F5 rfl _ _ rfl HM.out.1 HM.out.2 ⟨2,t,j,Ac.zero⟩ rfl rfl rfl (by omega) ?_;intro A' c' W' hM')
    have HM':=K1 hM';clear hM';go_wp2_with fail;go_roundw
    case rel =>
     refine ⟨b+1,A',c',N+1,by have:=HJ.out;have:=hNN.out;omega,by have:=HLE.out;omega,rfl,congrArg (Value.int .i64) (by have:=HJ.out;omega),K1 ?_⟩;rw [Fd,<- Agq,B8,<- HJ.out];exact ⟨by rw [Ago,HM.out.1];rfl,HM'.out⟩
    case measure=>simp [intOf];omega
  . have hbn:n=b:=by have:=HJ.out;have:=hNN.out;omega
    subst hbn;have HM1:=K1 (show (PL 0).length=N/\Mem wr (riO base A cc (PL 0)::.obj g0 CP::.obj (g0+1) (.cells #[U O lo,U O hi] 72 (0,0))::R) by rw [P0.out,HI1.out];exact HM.out);clear HM HJ hjb;go_wp2_with fail;clear c2 hlt hb
    go_loopw [0,12] (fun s0 s12 wr=>∃ (ph:Nat) (A:Option Addr) (cc:Nat) (N:Nat),ph<=2/\N<=300000000/\s0=Us A N cc/\s12=U O ph/\Hid ((PL (ph*d)).length=N/\Mem wr (riO base A cc (PL (ph*d))::.obj g0 CP::.obj (g0+1) (.cells #[U O lo,U O hi] 72 (0,0))::R))) (fun _ s12 _=>2-(intOf s12).toNat)
    case atStart=>exact ⟨0,A,cc,N,Agp _,by omega,rfl,rfl,K1 (by rw [Nat.zero_mul];exact HM1.out)⟩
    case round =>
     clear HM1 hN;obtain ⟨ph,A,cc,N,hph,hN,rfl,rfl,HM⟩:=hrel
     by_cases hlp:ph<2
     . go_wp2_with fail
       go_loopw [0,13] (fun s0 s13 wr=>∃ (r:Nat) (A:Option Addr) (cc:Nat) (N:Nat),r<=d/\N<=300000000/\s0=Us A N cc/\s13=U O r/\Hid ((PL (ph*d+r)).length=N/\Mem wr (riO base A cc (PL (ph*d+r))::.obj g0 CP::.obj (g0+1) (.cells #[U O lo,U O hi] 72 (0,0))::R))) (fun _ s13 _=>d-(intOf s13).toNat)
       case atStart=>exact ⟨0,A,cc,N,Agp _,by omega,rfl,rfl,K1 (by rw [Nat.add_zero];exact HM.out)⟩
       case round =>
        clear HM hN;obtain ⟨r,A,cc,N,hr,hN,rfl,rfl,HM⟩:=hrel
        obtain ⟨q,hq⟩:∃ q,q=ph*d+r:=⟨_,rfl⟩
        rw [<- hq] at HM;have c1:=HM.out.2;rw [HCP.out] at c1;have c1:=c1.cells 1 rfl;have c2:=HM.out.2.cells 2 rfl
        by_cases hlr:r<d
        . have hq2:q+1<=2*d:=by
           have h1:ph*d<=1*d:=Nat.mul_le_mul_right d (by omega);omega
          have HQ:=K1 hq;have HQ2:=K1 hq2;clear hq hq2;replace HM:=K1 (show (QL q 0).length=N/\Mem wr (riO base A cc (QL q 0)::.obj g0 CP::.obj (g0+1) (.cells #[U O lo,U O hi] 72 (0,0))::R) by rw [Q0.out];exact HM.out);go_wp2_with fail;clear c1 c2
          go_loopw [0,14] (fun s0 s14 wr=>∃ (b:Nat) (A:Option Addr) (cc:Nat) (N:Nat),b<=n/\N<=400000000/\s0=Us A N cc/\s14=U O (lo+b:Nat)/\Hid ((QL q b).length=N/\Mem wr (riO base A cc (QL q b)::.obj g0 CP::.obj (g0+1) (.cells #[U O lo,U O hi] 72 (0,0))::R))) (fun _ s14 _=>hi-(intOf s14).toNat)
          case atStart=>exact ⟨0,A,cc,N,Agp _,by omega,rfl,rfl,HM⟩
          case round =>
           clear HM hN;obtain ⟨b,A,cc,N,hb,hN,rfl,rfl,HM⟩:=hrel
           obtain ⟨j,hj⟩:∃ j,j=lo+b:=⟨_,rfl⟩
           rw [<- hj];have hjb:j<=60:=by have:=hNN.out;omega
           have c1:=HM.out.2;rw [HCP.out] at c1;have c1:=c1.cells 1 rfl;have c2:=HM.out.2.cells 2 rfl
           by_cases hltb:j<hi
           . obtain ⟨x,y,hxy⟩:=HBO.out b (by have:=hNN.out;omega);have HRD:=K1 (RDE.out q b ph r x y HQ.out hlr hxy);rw [<- hj] at hxy HRD;have HXY:=K1 hxy;have HJ:=K1 hj;clear hxy hj;have HQS:=K1 (QS.out q b);have HQN:=K1 (HQLL.out q (b+1) (by have:=HQ2.out;omega) (by have:=HJ.out;have:=hNN.out;omega));go_wp2_with fail;refine (HJB.out _ j x y HXY.out).mono ?_;rintro e w1 ⟨rfl,hb1⟩;replace HM:=K1 (And.intro HM.out.1 (HM.out.2.below hb1));clear hb1 c1 c2;go_wp2_with fail;refine (HR2.out _ j x y ph r HXY.out (HDK.out r hlr) (by omega)).mono ?_;rintro e w2 ⟨A4,c4,rfl,hc4,hm⟩
             have hrd:=AJ (hm.own 1 rfl);have hA1:=AF (hm.own 1 rfl);have hm2:=(show Mem w2 (([riO base A cc (QL q b),.obj g0 CP,.obj (g0+1) (.cells #[U O lo,U O hi] 72 (0,0))]++R)++[_]) from HM.out.2.push_rd (hm.bel 0 rfl) hrd hA1).fA;have HM2:=K1 (And.intro HM.out.1 (show Mem w2 (riO base A cc (QL q b)::.obj g0 CP::.obj (g0+1) (.cells #[U O lo,U O hi] 72 (0,0))::.rd A4 (acells (Ca ⟨t,j,x,y,k,s⟩ u ph r))::R) from hm2));clear hm hrd hA1 hm2 HM;rw [<- HRD.out] at HM2 ⊢
             obtain ⟨acs,hacs⟩:∃ acs,acs=RD q b:=⟨_,rfl⟩
             rw [<- hacs] at HM2 HQS ⊢;clear hacs HRD
             obtain ⟨na,hna⟩:∃ na,na=acs.length:=⟨_,rfl⟩
             rw [<- hna]
             obtain ⟨SL,hSL⟩:∃ SL:Nat->List It,SL=fun e=>QL q b++(acs.take e).map (BJ t):=⟨_,rfl⟩
             have S0:=K1 (show SL 0=QL q b by rw [hSL];simp);have SN:=K1 (show SL na=QL q (b+1) by rw [hSL,hna,HQS.out];simp);have SS:=K1 (show ∀ e a,acs[e]?=some a->SL (e+1)=SL e++[BJ t a] by intro e a he;rw [hSL];simp only [];rw [List.take_add_one,he,List.map_append,Agq];rfl)
             have SB:=K1 (show ∀ e,e<=na->(SL e).length<=400000000 by
              intro e he;have h1:=HQN.out;rw [HQS.out,Ago,Agt] at h1;rw [hSL];simp only [];rw [Ago,Agt,List.length_take]
              omega)
             have hnab:na<=400000000:=by
              have h1:=HQN.out;rw [HQS.out,Ago,Agt] at h1;omega
             have HNA:=K1 hna;rw [<- S0.out] at HM2;clear hSL hna HQS HQN hN hb;go_wp2_with fail
             go_loopw [0,16] (fun s0 s16 wr=>∃ (e:Nat) (A:Option Addr) (cc:Nat) (N:Nat),e<=na/\N<=400000000/\s0=Us A N cc/\s16=U O e/\Hid ((SL e).length=N/\Mem wr (riO base A cc (SL e)::.obj g0 CP::.obj (g0+1) (.cells #[U O lo,U O hi] 72 (0,0))::.rd A4 (acells acs)::R))) (fun _ s16 _=>na-(intOf s16).toNat)
             case atStart=>exact ⟨0,A,cc,N,Agp _,by have h1:=SB.out 0 (Agp _);rw [HM2.out.1] at h1;exact h1,rfl,rfl,HM2⟩
             case round =>
              clear HM2;obtain ⟨e,A,cc,N,he,hN,rfl,rfl,HM⟩:=hrel
              by_cases hlte:e<na
              . obtain ⟨a,ha⟩:=Au acs e (by have:=HNA.out;omega);obtain ⟨b4,o4,rfl⟩:=HM.out.2.rdA 3 rfl (by rw [JX];have:=HNA.out;omega);have hact:=HM.out.2.action 3 rfl ha;have HSS:=K1 (SS.out e a ha);clear ha;obtain ⟨sd,ad,st',bk,ph',rd',ck,lo',hi'⟩:=a;dsimp only at hact;obtain ⟨q0,q1,q2,q3,q4,q5,q6,q7,q8⟩:=hact;have HSB:=K1 (SB.out (e+1) (by omega))
                cases sd
                . go_wp2_with (at_builtin;refine F5 rfl _ _ rfl HM.out.1 HM.out.2 ⟨4,t,0,⟨false,ad,st',bk,ph',rd',ck,lo',hi'⟩⟩ rfl rfl rfl (by omega) ?_;intro A' c' W' hM')
                  have HM':=K1 hM';clear hM' q0 q1 q2 q3 q4 q5 q6 q7 q8;go_wp2_with fail;go_roundw
                  case rel =>
                   have h1:=HSB.out;rw [HSS.out,Ago,HM.out.1] at h1;refine ⟨e+1,A',c',N+1,by omega,h1,rfl,by go_num,K1 ?_⟩;rw [HSS.out];exact ⟨by rw [Ago,HM.out.1];rfl,HM'.out⟩
                  case measure=>simp [intOf];omega
                . go_wp2_with (at_builtin;refine F5 rfl _ _ rfl HM.out.1 HM.out.2 ⟨3,t,0,⟨true,ad,st',bk,ph',rd',ck,lo',hi'⟩⟩ rfl rfl rfl (by omega) ?_;intro A' c' W' hM')
                  have HM':=K1 hM';clear hM' q0 q1 q2 q3 q4 q5 q6 q7 q8;go_wp2_with fail;go_roundw
                  case rel =>
                   have h1:=HSB.out;rw [HSS.out,Ago,HM.out.1] at h1;refine ⟨e+1,A',c',N+1,by omega,h1,rfl,by go_num,K1 ?_⟩;rw [HSS.out];exact ⟨by rw [Ago,HM.out.1];rfl,HM'.out⟩
                  case measure=>simp [intOf];omega
              . have hen:e=na:=by omega
                subst hen;have hm3:=(show Mem wr (([riO base A cc (SL e),.obj g0 CP,.obj (g0+1) (.cells #[U O lo,U O hi] 72 (0,0))]++[.rd A4 (acells acs)])++R) from HM.out.2).mid;have HM3:=K1 (show (QL q (b+1)).length=N/\Mem wr (riO base A cc (QL q (b+1))::.obj g0 CP::.obj (g0+1) (.cells #[U O lo,U O hi] 72 (0,0))::R) by rw [<- SN.out];exact ⟨HM.out.1,hm3⟩);clear hm3 HM;go_wp2_with fail;go_roundw
                case rel=>exact ⟨b+1,A,cc,N,by have:=HJ.out;have:=hNN.out;omega,hN,rfl,congrArg (Value.int .i64) (by have:=HJ.out;omega),HM3⟩
                case measure=>simp [intOf];omega
           . have hbn:b=n:=by have:=hNN.out;omega
             subst hbn;have HM3:=K1 (show (PL (q+1)).length=N/\Mem wr (riO base A cc (PL (q+1))::.obj g0 CP::.obj (g0+1) (.cells #[U O lo,U O hi] 72 (0,0))::R) by rw [PS.out];exact HM.out);have HN3:=K1 (show N<=300000000 by have h1:=HPLL.out (q+1) HQ2.out;rw [HM3.out.1] at h1;exact h1);clear HM hj;go_wp2_with fail;go_roundw
             case rel=>exact ⟨r+1,by omega,A,cc,N,HN3.out,⟨rfl,rfl,rfl⟩,by omega,K1 (by rw [show ph*d+(r+1)=q+1 by rw [HQ.out];omega];exact HM3.out)⟩
             case measure=>simp [intOf];omega
        . have hrd:r=d:=by omega
          subst hrd;have HM3:=K1 (show (PL ((ph+1)*r)).length=N/\Mem wr (riO base A cc (PL ((ph+1)*r))::.obj g0 CP::.obj (g0+1) (.cells #[U O lo,U O hi] 72 (0,0))::R) by rw [Nat.succ_mul,<- hq];exact HM.out);clear HM hq;go_wp2_with fail;go_roundw
          case rel=>exact ⟨ph+1,A,cc,N,by omega,hN,rfl,by go_num,HM3⟩
          case measure=>simp [intOf];omega
     . have hp2:ph=2:=by omega
       subst hp2;have c2:=HM.out.2.cells 2 rfl;go_wp2_with fail;clear c2
       go_loopw [0,18] (fun s0 s18 wr=>∃ (b:Nat) (A:Option Addr) (cc:Nat) (N:Nat),b<=n/\N<=300000060/\s0=Us A N cc/\s18=U O (lo+b:Nat)/\Hid ((PL (2*d)++fromTo 5 t lo b).length=N/\Mem wr (riO base A cc (PL (2*d)++fromTo 5 t lo b)::.obj g0 CP::.obj (g0+1) (.cells #[U O lo,U O hi] 72 (0,0))::R))) (fun _ s18 _=>hi-(intOf s18).toNat)
       case atStart=>exact ⟨0,A,cc,N,Agp _,by omega,rfl,rfl,K1 (by rw [show PL (2*d)++fromTo 5 t lo 0=PL (2*d) by simp [fromTo]];exact HM.out)⟩
       case round =>
        clear HM hN;obtain ⟨b,A,cc,N,hb,hN,rfl,rfl,HM⟩:=hrel
        obtain ⟨j,hj⟩:∃ j,j=lo+b:=⟨_,rfl⟩
        rw [<- hj];have hjb:j<=60:=by have:=hNN.out;omega
        have HJ:=K1 hj;clear hj;have c2:=HM.out.2.cells 2 rfl
        by_cases hlt:j<hi
        . have HLE:=K1 (show N<=300000059 by have h1:=HM.out.1;rw [Ago,Co] at h1;have:=HJ.out;have:=hNN.out;have:=HPLL.out (2*d) (Nat.le_refl _);omega)
          go_wp2_with (at_builtin;refine F5 rfl _ _ rfl HM.out.1 HM.out.2 ⟨5,t,j,Ac.zero⟩ rfl rfl rfl (by omega) ?_;intro A' c' W' hM')
          have HM':=K1 hM';clear hM';go_wp2_with fail;go_roundw
          case rel =>
           refine ⟨b+1,A',c',N+1,by have:=HJ.out;have:=hNN.out;omega,by have:=HLE.out;omega,rfl,congrArg (Value.int .i64) (by have:=HJ.out;omega),K1 ?_⟩;rw [Fd,<- Agq,B8,<- HJ.out];exact ⟨by rw [Ago,HM.out.1];rfl,HM'.out⟩
          case measure=>simp [intOf];omega
        . have hbn:b=n:=by have:=HJ.out;have:=hNN.out;omega
          subst hbn;go_wp2_with fail;go_ret;have hm3:=(show Mem wr (([riO base A cc (PL (2*d)++fromTo 5 t lo b)]++[.obj g0 CP,.obj (g0+1) (.cells #[U O lo,U O hi] 72 (0,0))])++R) from HM.out.2).mid;exact ⟨A,cc,by rw [<- Ago,HM.out.1];rfl,hm3⟩
theorem T3 (bs gs:List (Nat × Nat)) (k s t w:Nat):Bx bs gs k s t w 0=[]:=by simp [Bx]
theorem T4 (w:World) (c:Kf) (p u t:Nat) (sz:Value) (hc:c.Ok) (hp:p<=60) (hu:u<c.k) :
  Calls Tryz.prog 57 #[.agg (rpC c p sz).toArray,U O u,U O t] w fun e w'=>∃ A cc,e=.returned (Us A (AS c p t u).length cc)/\Mem w' (riO w.heap.size A cc (AS c p t u)::.bel w.heap.size w::[]):=by
 have CB:=K1 (fun W=>J9 W c p sz hc.bu (by omega));have CG:=K1 (fun W R its A cap base lo hi hM hlo hhi hl=>T0 W R c p u t sz its A cap base lo hi hM hc hp hu hlo hhi hl);have hbs:=DU hc hp;have hin:=Li (p:=p) hc;have CR:=K1 (fun W=>RU (plBs c p).length c.wi W (by have:=hbs.2.1;omega) hc.wi);have HE:=K1 (show AS c p t u=fromTo 1 t 0 c.mi++Bx (plBs c p) (plGs c p) c.k c.s t u (plGs c p).length++[B8 6 t 0] by rw [AS,Cv,Bx,List.take_length]);generalize AS c p t u=RES at *;rw [show Bd (plBs c p).length c.wi=plGs c p from rfl] at CR
 have HGL:=K1 (fun m=>FS (s:=c.s) (t:=t) (w:=u) hbs.1 hbs.2.1 hc.k hbs.2.2.1 m);have HGO:=K1 hbs.2.2.1;have hgl:=hbs.2.2.2;have hbl:=hbs.2.1;have hmi:=hc.mi.2;have huk:(u:Int)<(c.k:Int):=by omega
 have huk2:¬ (c.k:Int)<=(u:Int):=by omega
 clear hbs hin hu hp hc;generalize plBs c p=bs at *;generalize plGs c p=gs at *;have hm0:=(Mem.start w).alloc (.cells (rpC c p sz).toArray 82);have hm1:=hm0.add (c:=riO w.heap.size none 0 []) ⟨Bh _ _ _ _,by simp only [Agv];omega⟩ (fun _ _ _ _ g hg=>by cases hg);have HM0:=K1 (hm1.pick [2,0,1] [riO w.heap.size none 0 [],.bel w.heap.size w,.obj w.heap.size (.cells (rpC c p sz).toArray 82 (0,0))] rfl (by decide));clear hm0 hm1;obtain ⟨sh,ra,mo,k,ba,mi,st,bu,s,wi,ca⟩:=c;dsimp only [rpC] at *
 obtain ⟨ng,hng⟩:∃ ng,ng=gs.length:=⟨_,rfl⟩
 obtain ⟨nb,hnb⟩:∃ nb,nb=bs.length:=⟨_,rfl⟩
 rw [<- hng] at CR HE hgl;rw [<- hnb] at CB CR CG hbl;have HNG:=K1 hng;have HNB:=K1 hnb;clear hng hnb;go_enter Tryz.func57,Tryz.ntmps57;have c1:=HM0.out.cells 2 rfl;go_wp2_with fail;clear c1;generalize hg0:w.heap.size=g0 at *;have HG0:=K1 hg0;clear hg0
 go_loopw [7,8] (fun s7 s8 wr=>∃ (n:Nat) (A:Option Addr) (cc:Nat),n<=mi/\s7=Us A n cc/\s8=U O n/\Hid (Mem wr (riO g0 A cc (fromTo 1 t 0 n)::.bel g0 w::.obj g0 (.cells #[sz,U O sh,U O ra,U O mo,U O k,U O ba,U O mi,U O st,U O bu,U O s,U O wi,U O ca,U O p] 82 (0,0))::[]))) (fun _ s8 _=>mi-(intOf s8).toNat)
 case atStart=>exact ⟨0,none,0,Agp _,rfl,rfl,HM0⟩
 case round =>
  clear HM0;obtain ⟨n,A,cc,hn,rfl,rfl,HM⟩:=hrel;have c1:=HM.out.cells 2 rfl
  by_cases hlt:n<mi
  . go_wp2_with (at_builtin;refine F5 rfl _ _ rfl (Co 1 t 0 n) HM.out ⟨1,t,n,Ac.zero⟩ rfl rfl rfl (by omega) ?_;intro A' c' W' hM')
    have HM':=K1 hM';clear hM' c1;go_wp2_with fail;go_roundw
    case rel=>exact ⟨n+1,A',c',by omega,rfl,by go_num,K1 (by rw [Fd,Nat.zero_add];exact HM'.out)⟩
    case measure=>simp [intOf];omega
  . have hnm:n=mi:=by omega
    subst hnm;go_wp2_with fail;clear c1;refine A9 fun W0 hW=>?_;replace HM:=K1 (hW.out.symm ▸ HM.out);clear hW;refine AC (.reads [0,3,4,5] (.eff 1 (.reads [2] (.eff 6 (.reads [7] (.fin)))))) 8 (fun W'=>∀ i,W'.cell? ⟨g0,i,none⟩=([sz,U O sh,U O ra,U O mo,U O k,U O ba,U O n,U O st,U O bu,U O s,U O wi,U O ca,U O p]:List Value)[i]?) ?_;replace HM:=K1 HM.out.drew;generalize W0.drew=V at *;refine PlS.rd_ (HM.out.cells 2 rfl) ?_;refine Ags ?_;go_wp2_with fail;refine (CB.out _).mono ?_;rintro e w1 ⟨A1,c1,rfl,hc1,hm⟩;replace HM:=K1 (HM.out.below (hm.bel 0 rfl));clear hm CB;go_wp2_with fail
    refine Agu (HM.out.cells 2 rfl) ?_;refine PlS.rc_ (HM.out.cells 2 rfl) ?_;refine Ags ?_;go_wp2_with fail;refine (CR.out _).mono ?_;rintro e w2 ⟨A2,c2,rfl,hc2,hm⟩;have hrd:=AJ (hm.own 1 rfl);have hA1:=AF (hm.own 1 rfl);replace HM:=K1 (HM.out.push_rd (hm.bel 0 rfl) hrd hA1);clear hm hrd hA1 CR;go_wp2_with fail;refine Agu (HM.out.cells 2 rfl) ?_;refine PlS.rc_ (HM.out.cells 2 rfl) ?_;refine PlS.fin_ ?_;go_wp2_with fail;have HLN:=K1 (fun m (hm:m<=ng)=>show (fromTo 1 t 0 n++Bx bs gs k s t u m).length<=200000000 by rw [Ago,Co];have:=HGL.out m (by have:=HNG.out;omega);omega)
    replace HM:=K1 (show (fromTo 1 t 0 n++Bx bs gs k s t u 0).length=n/\Mem _ (riO g0 A cc (fromTo 1 t 0 n++Bx bs gs k s t u 0)::.bel g0 w::.obj g0 (.cells #[sz,U O sh,U O ra,U O mo,U O k,U O ba,U O n,U O st,U O bu,U O s,U O wi,U O ca,U O p] 82 (0,0))::.rd A2 (rcells gs)::[]) by rw [T3,List.append_nil];exact ⟨Co _ _ _ _,HM.out⟩)
    obtain ⟨its0,hI0⟩:∃ its0,its0=fromTo 1 t 0 n:=⟨_,rfl⟩
    rw [<- hI0] at HM HLN HE;clear hI0
    go_loopw [7,10] (fun s7 s10 wr=>∃ (m:Nat) (A:Option Addr) (cc N:Nat),m<=ng/\N<=200000000/\s7=Us A N cc/\s10=U O m/\Hid ((its0++Bx bs gs k s t u m).length=N/\Mem wr (riO g0 A cc (its0++Bx bs gs k s t u m)::.bel g0 w::.obj g0 (.cells #[sz,U O sh,U O ra,U O mo,U O k,U O ba,U O n,U O st,U O bu,U O s,U O wi,U O ca,U O p] 82 (0,0))::.rd A2 (rcells gs)::[]))) (fun _ s10 _=>ng-(intOf s10).toNat)
    case atStart=>exact ⟨0,A,cc,n,Agp _,by omega,rfl,rfl,HM⟩
    case round =>
     clear HM;obtain ⟨m,A,cc,N,hm,hN,rfl,rfl,HM⟩:=hrel
     by_cases hltm:m<ng
     . obtain ⟨⟨lo,hi⟩,hp⟩:=Au gs m (by have:=HNG.out;omega);have HPP:=K1 (HGO.out _ (Agr hp));obtain ⟨bg,og,rfl,_⟩:=HM.out.2.ranges 3 rfl (by have:=HNG.out;omega);have HP:=K1 hp;have HSN:=K1 (IT (bs:=bs) (k:=k) (s:=s) (t:=t) (w:=u) hp);clear hp;have HL:=K1 HM.out.1;replace HM:=K1 HM.out.2;go_wp2_with fail;refine A9 fun W0 hW=>?_;replace HM:=K1 (hW.out.symm ▸ HM.out);clear hW
       refine AC (.reads [0,1,2,3,4,5,6,7] (.eff 8 (.reads [9] (.fin)))) 10 (fun W'=>(∀ i,W'.cell? ⟨g0,i,none⟩=([sz,U O sh,U O ra,U O mo,U O k,U O ba,U O n,U O st,U O bu,U O s,U O wi,U O ca,U O p]:List Value)[i]?)/\W'.cell? ⟨bg,og+m*2,none⟩=some (U O lo)/\W'.cell? ⟨bg,og+m*2+1,none⟩=some (U O hi)) ?_;replace HM:=K1 HM.out.drew;generalize W0.drew=V at *;refine PlS.rd_ ⟨HM.out.cells 2 rfl,HM.out.range2 3 rfl HP.out⟩ ?_;refine Ags ?_;go_wp2_with fail;have CG2:=CG.out V _ (its0++Bx bs gs k s t u m) A cc g0 lo hi HM.out HPP.out.1 (by have:=HPP.out.2;have:=HNB.out;omega) (by rw [HL.out];exact hN)
       rw [HL.out] at CG2;refine CG2.mono ?_;rintro e w4 ⟨A5,c5,rfl,hm5⟩;clear CG2;rw [Agq,<- HSN.out] at hm5 ⊢;replace HM:=K1 hm5;clear hm5
       obtain ⟨N5,hN5⟩:∃ N5,N5=(its0++Bx bs gs k s t u (m+1)).length:=⟨_,rfl⟩
       rw [<- hN5];have HN5:=K1 hN5.symm;clear hN5;go_wp2_with fail;refine Agu ⟨HM.out.cells 2 rfl,HM.out.range2 3 rfl HP.out⟩ ?_;refine PlS.rc_ ⟨HM.out.cells 2 rfl,HM.out.range2 3 rfl HP.out⟩ ?_;refine PlS.fin_ ?_;go_wp2_with fail;go_roundw
       case rel=>exact ⟨m+1,A5,c5,N5,by omega,by rw [<- HN5.out];exact HLN.out (m+1) (by omega),rfl,by go_num,K1 ⟨HN5.out,HM.out⟩⟩
       case measure=>simp [intOf];omega
     . have hmn:m=ng:=by omega
       subst hmn
       go_wp2_with (at_builtin;refine F5 rfl _ _ rfl HM.out.1 HM.out.2 ⟨6,t,0,Ac.zero⟩ rfl rfl rfl (by omega) ?_;intro A' c' W' hM')
       have HM':=K1 hM';clear hM';go_wp2_with fail;go_ret;rw [HG0.out];have hE:RES=its0++Bx bs gs k s t u m++[B8 6 t 0]:=HE.out;exact ⟨A',c',by rw [hE,Ago,HM.out.1];rfl,by rw [hE];exact HM'.out.front 2⟩
theorem T5 (w:World) (c:Kf) (p u t:Nat) (sz:Value) (hc:c.Ok) (hp:p<=60) (hu:u<c.k) (ht:t<c.st) :
  Calls Tryz.prog 82 #[.agg (rpC c p sz).toArray,U O u,U O t] w fun e w'=>∃ A cc,e=.returned (Us A (AS c p t u).length cc)/\Mem w' (riO w.heap.size A cc (AS c p t u)::.bel w.heap.size w::[]):=by
 have CI:=K1 (fun W=>T4 W c p u t sz hc hp hu);have hst:=hc.st;have HM:=K1 ((Mem.start w).alloc (.cells (rpC c p sz).toArray 82));have hq:decide (c.st<=t)=false:=decide_eq_false (by omega)
 obtain ⟨K,hK⟩:∃ K,K=(AS c p t u).length:=⟨_,rfl⟩
 rw [<- hK] at CI ⊢;have HK:=K1 hK;dsimp only [rpC] at *;clear hK hc hp hu ht;go_enter Tryz.func82,Tryz.ntmps82;have c1:=HM.out.cells 1 rfl;go_wp2_with fail;refine (CI.out _).mono ?_;rintro e w1 ⟨A,cc,rfl,hm⟩;have hl:=(HM.out.bel 0 rfl).size;have HM2:=K1 (((HM.out.join (hm.pick [1,0] [.bel _ _,riO _ A cc (AS c p t u)] rfl (by decide)) (fun c hc hmu g hg=>by simp only [List.mem_cons,List.not_mem_nil,or_false] at hc;rcases hc with rfl;exact absurd trivial hmu)).lower (i:=2) (base':=w.heap.size) rfl hl));clear hm hl;go_wp2_with fail;go_ret
 exact ⟨A,cc,rfl,HM2.out.pick [2,0] [riO w.heap.size A cc (AS c p t u),.bel w.heap.size w] rfl (by decide)⟩
theorem Iq {zs:List Int} (h:In64 zs) {q:Nat} {v:Int} (hv:-9223372036854775808<=v/\v<=9223372036854775807):In64 (zs.set q v):=fun z hz=>by
 rcases List.mem_or_eq_of_mem_set hz with h1 | rfl
 . exact h z h1
 . exact hv
theorem MZ (w:World) (A Av:Option Addr) (p cp lo nv cv:Nat) (b:Bool) (gs vs:List Int) (hr:Rd w w.heap.size A (zC gs)) (hv:Rd w w.heap.size Av (zC vs)) (hg:gs.length=p/\In64 gs) (hvl:vs.length=nv/\In64 vs) (hlo:lo+nv<=p) (hp:p<=1000) :
  Calls Tryz.prog 125 #[Us A p cp,U O lo,Us Av nv cv,.bool b] w fun e w'=>∃ A' c' zs,e=.returned (Us A' p c')/\zs.length=p/\In64 zs/\Mem w' [.bel w.heap.size w,vOwn w.heap.size p c' A' zs]:=by
 have CC:=K1 (Jy w A p cp gs hr hg.1 (by omega));have HV:=K1 hv;have HG:=K1 hg;have HW:=K1 hvl;have hA:0<nv->∃ b o,Av=some ⟨b,o,none⟩:=fun h0=>by obtain ⟨b,o,e,_⟩:=hv (by rw [Br,hvl.1];exact h0);exact ⟨b,o,e⟩
 clear hr hv hg hvl;go_enter Tryz.func125,Tryz.ntmps125;go_wp2_with fail;refine CC.out.mono ?_;rintro e w1 ⟨A1,c1,rfl,_,hm⟩;have HM:=K1 (hm.add_rd (i:=0) rfl HV.out);clear hm CC HV;go_wp2_with fail
 go_loopw [10] (fun s10 wr=>∃ (k:Nat) (zs:List Int),k<=nv/\s10=U O k/\Hid (zs.length=p/\In64 zs)/\Hid (Mem wr [.bel w.heap.size w,vOwn w.heap.size p c1 A1 zs,.rd Av (zC vs)])) (fun s10 _=>nv-(intOf s10).toNat)
 case atStart=>exact ⟨0,gs,Agp _,rfl,HG,HM⟩
 case round =>
  clear HM HG;obtain ⟨k,zs,hk,rfl,HZ,HM⟩:=hrel
  by_cases hlt:k<nv
  . obtain ⟨b2,o2,rfl⟩:=hA (by omega);obtain ⟨g1,rfl⟩:=HM.out.ownA 1 rfl (by omega);obtain ⟨y,hy⟩:=Au vs k (by rw [HW.out.1];exact hlt)
    obtain ⟨q,hq⟩:∃ q,lo+k=q:=⟨_,rfl⟩
    have hqp:q<p:=by omega
    obtain ⟨x,hx⟩:=Au zs q (by rw [HZ.out.1];exact hqp);have hqi:(lo:Int)+(k:Int)=(q:Int):=by omega
    have hqw:IntKind.i64.wrap (q:Int)=(q:Int):=IntWalk.i64_in _ (by omega);have HX:=K1 (show ∀ (W:World) (M:List Ch),Mem W M->M[1]?=some (vOwn w.heap.size p c1 (some ⟨g1,0,none⟩) zs)->W.cell? ⟨g1,q,none⟩=some (U O x) from fun W M h hM=>((h.own 1 hM).cellAt q (by omega)).trans (Bk hx));have HY:=K1 (show ∀ (W:World) (M:List Ch),Mem W M->M[2]?=some (.rd (some ⟨b2,o2,none⟩) (zC vs))->W.cell? ⟨b2,o2+k,none⟩=some (U O y) from fun W M h hM=>h.rdAt 2 hM (Bk hy));have HXR:=K1 (HZ.out.2 x (Agr hx));have HYR:=K1 (HW.out.2 y (Agr hy));have hxr:=HXR.out;have hyr:=HYR.out;clear hx hy hq
    cases b with
    | true =>
      go_wp2_with fail;refine A9 fun W1 hW=>?_;replace HM:=K1 (hW.out.symm ▸ HM.out);clear hW;refine AC (.reads [0,1,2,3,4,5,6,7,8,9,10,11,12,13,14,15] (.eff 16 (.fin))) 16 (fun W'=>W'.cell? ⟨g1,q,none⟩=some (U O x)/\W'.cell? ⟨b2,o2+k,none⟩=some (U O y)) ?_;replace HM:=K1 HM.out.drew;generalize W1.drew=V1 at *;refine PlS.rd_ ⟨HX.out _ _ HM.out rfl,HY.out _ _ HM.out rfl⟩ ?_;refine Ags ?_;have c2:=HX.out _ _ HM.out rfl;have f2:=(HM.out.own 1 rfl).frozenAt q;have HF:=K1 (HM.out.setOwn (i:=1) (j:=q) rfl (U O (wrap64 (x+y))));go_wp2_with fail;refine After.last (by decide) (PlS.fin_ ?_)
      go_wp2_with fail;go_roundw
      case rel =>
       refine ⟨k+1,zs.set q (wrap64 (x+y)),by omega,by go_num,K1 ⟨(Agw ..).trans HZ.out.1,Iq HZ.out.2 (DJ _)⟩,K1 ?_⟩;rw [show vOwn w.heap.size p c1 (some ⟨g1,0,none⟩) (zs.set q (wrap64 (x+y)))=_ from by unfold vOwn;rw [Dn]];exact HF.out
      case measure=>simp [intOf];omega
    | false =>
      have c2:=HX.out _ _ HM.out rfl;have c3:=HY.out _ _ HM.out rfl;have f2:=(HM.out.own 1 rfl).frozenAt q;have HF:=K1 (HM.out.setOwn (i:=1) (j:=q) rfl (U O (y)));go_wp2_with fail;go_roundw
      case rel =>
       refine ⟨k+1,zs.set q (y),by omega,by go_num,K1 ⟨(Agw ..).trans HZ.out.1,Iq HZ.out.2 HYR.out⟩,K1 ?_⟩;rw [show vOwn w.heap.size p c1 (some ⟨g1,0,none⟩) (zs.set q (y))=_ from by unfold vOwn;rw [Dn]];exact HF.out
      case measure=>simp [intOf];omega
  . go_wp2_with fail;go_ret;exact ⟨A1,c1,zs,rfl,HZ.out.1,HZ.out.2,HM.out.pick [0,1] [.bel w.heap.size w,vOwn w.heap.size p c1 A1 zs] rfl (by decide)⟩
end
end Go.Proofs.YtdpojpcoghcieaaGreat
