/- A part of the proof of TopTags: RefMachP, RefMNew, RefDoP, RefPickP. Conditions: none. -/
import Derived.Test.YtdpojpcoghcieaaGreatSxBN
import Derived.Test.YtdpojpcoghcieaaGreatSxBL
set_option maxHeartbeats 8000000
set_option linter.all false
namespace Go.Proofs.YtdpojpcoghcieaaGreat
open Lib renaming hid → K1
open Go.RowKit
set_option maxRecDepth 100000
open Value renaming int → U, slice → Us
open IntKind renaming i64 → O
open List renaming length_append → Aiq, range → Aiu, getElem?_append_left → Aiw, getElem?_set_ne → Aix, getElem?_set_self → Aiy, range_succ → Aiz, getElem?_append_right → Ai6, length_map → Ai7, append_nil → Ai8, getElem?_eq_none → Ai9, flatMap_cons → Aja
open PlS renaming ef_ → Air
open Nat renaming le_refl → Ais, le_trans → Aiv, lt_or_ge → Ai1, mod_lt → Ai2, lt_of_lt_of_le → Ai3
open After renaming go → Ait
open Inp renaming cells → Ai0
open World renaming size_alloc → Ai4
open Region renaming wanted → Ai5
section
structure RdF (A:Option Addr) (vs:List Value) (F:Nat->Prop) (W:World):Prop where
 rd:Rd W W.heap.size A vs
 inF:0<vs.length->∀ q,A=some q->F q.block
structure Fro (P:(Nat->Prop)->World->Prop):Prop where
 mono:∀ (F F':Nat->Prop) (W:World),(∀ g,F g->F' g)->P F W->P F' W
 keep:∀ (F:Nat->Prop) (W1 W2:World),W1.heap.size<=W2.heap.size->(∀ g,F g->W2.heap[g]?=W1.heap[g]?)->P F W1->P F W2
 lt:∀ (F:Nat->Prop) (W:World),P F W->P (fun g=>F g/\g<W.heap.size) W
theorem C8 (A:Option Addr) (vs:List Value):Fro (RdF A vs) where
 mono:=fun _ _ _ h k=>⟨k.rd,fun h0 q e=>h _ (k.inF h0 q e)⟩
 keep:=fun F W1 W2 hs hk h=>⟨fun h0=>by
  obtain ⟨b,off,e,hb,hc⟩:=h.rd h0
  exact ⟨b,off,e,Ai3 hb hs,fun j u hu=>(World.cell?_of_block (w:=W1) (w':=W2) (a:=⟨b,off+j,none⟩) (hk b (h.inF h0 _ e))).trans (hc j u hu)⟩,h.inF⟩
 lt:=fun F W h=>⟨h.rd,fun h0 q e=>⟨h.inF h0 q e,by
  obtain ⟨b,off,e',hb,_⟩:=h.rd h0;rw [e] at e';injection e' with e'
  subst e'
  exact hb⟩⟩
theorem Fro.and {P Q:(Nat->Prop)->World->Prop} (hP:Fro P) (hQ:Fro Q):Fro fun F W=>P F W/\Q F W where
 mono:=fun F F' W h k=>⟨hP.mono F F' W h k.1,hQ.mono F F' W h k.2⟩
 keep:=fun F W1 W2 hs hk h=>⟨hP.keep F W1 W2 hs hk h.1,hQ.keep F W1 W2 hs hk h.2⟩
 lt:=fun F W h=>⟨hP.lt F W h.1,hQ.lt F W h.2⟩
theorem Fro.const (p:Prop):Fro fun _ _=>p:=⟨fun _ _ _ _ h=>h,fun _ _ _ _ _ h=>h,fun _ _ h=>h⟩
theorem Fro.all {α:Sort _} {P:α->(Nat->Prop)->World->Prop} (hP:∀ a,Fro (P a)):Fro fun F W=>∀ a,P a F W where
 mono:=fun F F' W h k a=>(hP a).mono F F' W h (k a)
 keep:=fun F W1 W2 hs hk h a=>(hP a).keep F W1 W2 hs hk (h a)
 lt:=fun F W h a=>(hP a).lt F W (h a)
theorem Fro.ex {α:Sort _} {P:α->(Nat->Prop)->World->Prop} (hP:∀ a,Fro (P a)):Fro fun F W=>∃ a,P a F W where
 mono:=fun F F' W h ⟨a,k⟩=>⟨a,(hP a).mono F F' W h k⟩
 keep:=fun F W1 W2 hs hk ⟨a,h⟩=>⟨a,(hP a).keep F W1 W2 hs hk h⟩
 lt:=fun F W ⟨a,h⟩=>⟨a,(hP a).lt F W h⟩
theorem Fro.below {P:(Nat->Prop)->World->Prop} (hP:Fro P) {F:Nat->Prop} {W W':World} (h:P F W) (hb:Below W.heap.size W W'):P F W' :=
 hP.mono _ _ _ (fun _ h=>h.1) (hP.keep _ W W' hb.size (fun g hg=>hb.block g hg.2) (hP.lt _ _ h))
def BI (P:(Nat->Prop)->World->Prop) (F:Nat->Prop):Ch:=.st F (P F)
theorem G4 {P:(Nat->Prop)->World->Prop} (hP:Fro P) {F:Nat->Prop} {W:World} (h:P F W) (hF:∀ g,F g->g<W.heap.size):(BI P F).Holds W:=⟨h,hF,fun W1 W2 hs hk h=>hP.keep F W1 W2 hs hk h⟩
theorem Mem.pushF {P:(Nat->Prop)->World->Prop} (hP:Fro P) {W W' w0:World} {L:List Ch} {i B:Nat} {F:Nat->Prop} (h:Mem W L) (hi:L[i]?=some (.bel B w0)) (hF:∀ g,F g->g<B) (hb:Below W.heap.size W W') (hp:P (fun g=>F g\/W.heap.size<=g) W') :
  Mem W' (L++[BI P fun g=>(F g\/W.heap.size<=g)/\g<W'.heap.size]):=by
 refine (h.below hb).add (G4 hP (hP.lt _ _ hp) fun g hg=>hg.2) fun j d hj hm g hg hd=>?_
 rcases hg.1 with h1 | h1
 . rcases hm with hm | hm
   . cases hm
   . have hne:j≠i:=by
      rintro rfl;rw [hi] at hj;injection hj with hj
      subst hj;exact hm
     exact h.sep j i d _ hne hj hi hm g hd (hF g h1)
 . have:=Ch.lt (h.holds j d hj) hd;omega
theorem Mem.resetF {P P':(Nat->Prop)->World->Prop} (hP:Fro P') {W W':World} {L:List Ch} {i:Nat} {F:Nat->Prop} (h:Mem W L) (hi:L[i]?=some (BI P F)) (hb:Below W.heap.size W W') (hp:P' (fun g=>F g\/W.heap.size<=g) W') :
  Mem W' (L.set i (BI P' fun g=>(F g\/W.heap.size<=g)/\g<W'.heap.size)):=by
 have hw:=h.below hb;have hlt:=(List.getElem?_eq_some_iff.1 hi).1
 have old:∀ j d,j≠i->(L.set i (BI P' fun g=>(F g\/W.heap.size<=g)/\g<W'.heap.size))[j]?=some d->L[j]?=some d:=fun j d hne hj=>by
  rw [Aix (Ne.symm hne)] at hj;exact hj
 have new:∀ d,(L.set i (BI P' fun g=>(F g\/W.heap.size<=g)/\g<W'.heap.size))[i]?=some d->d=BI P' fun g=>(F g\/W.heap.size<=g)/\g<W'.heap.size:=fun d hd=>by
  rw [Aiy hlt] at hd;injection hd with hd;exact hd.symm
 constructor
 . intro j d hj
   by_cases hji:j=i
   . subst hji;rw [new d hj];exact G4 hP (hP.lt _ _ hp) fun g hg=>hg.2
   . exact hw.holds j d (old j d hji hj)
 . intro j l a b hne hj hl ha g h1 h2
   by_cases hji:j=i
   . subst hji;rw [new a hj] at ha
     cases ha
   . by_cases hli:l=i
     . subst hli;rw [new b hl] at h2;have hj':=old j a hji hj
       rcases h2.1 with h3 | h3
       . exact h.sep j l a _ hji hj' hi ha g h1 h3
       . have:=Ch.lt (h.holds j a hj') h1;omega
     . exact hw.sep j l a b hne (old j a hji hj) (old l b hli hl) ha g h1 h2
def VecF (A:Option Addr) (p:Nat) (F:Nat->Prop) (W:World):Prop:=∃ ps:List Int,(ps.length=p/\In64 ps)/\RdF A (zC ps) F W
theorem DB (A:Option Addr) (p:Nat):Fro (VecF A p):=.ex fun _=>(Fro.const _).and (C8 _ _)
structure Rm where
 AP:Option Addr
 cP:Nat
 AM:Option Addr
 cM:Nat
 AG:Option Addr
 cG:Nat
 AR:Option Addr
 nR:Nat
 cR:Nat
 AI:Option Addr
 cI:Nat
 d:Nat
def Rm.cells (i:Inp) (u:Nat) (m:Rm):List Value:=i.cells++[U O u,Us m.AP i.r.p m.cP,Us m.AM i.r.p m.cM,Us m.AG i.r.p m.cG,Us m.AR m.nR m.cR,Us m.AI (Ak i.r.c i.r.p u).length m.cI,U O m.d]
def RowF (A:Option Addr) (n:Nat) (F:Nat->Prop) (W:World):Prop:=∃ rs:List Value,(rs.length=n/\∀ v∈rs,v.oneCell'=true)/\RdF A rs F W
theorem Iu (A:Option Addr) (n:Nat):Fro (RowF A n):=.ex fun _=>(Fro.const _).and (C8 _ _)
def Rm.In (i:Inp) (u:Nat) (m:Rm) (F:Nat->Prop) (W:World):Prop :=
 (i.r.p<=m.cP/\i.r.p<=m.cM/\i.r.p<=m.cG/\m.nR<=m.d+1)/\VecF m.AP i.r.p F W/\VecF m.AM i.r.p F W/\VecF m.AG i.r.p F W/\RowF m.AR (m.nR*2) F W/\RdF m.AI (icells (Ak i.r.c i.r.p u)) F W
theorem Dh (i:Inp) (u:Nat) (m:Rm):Fro (Rm.In i u m):=(Fro.const _).and ((DB _ _).and ((DB _ _).and ((DB _ _).and ((Iu _ _).and (C8 _ _)))))
structure Rl where
 A:Option Addr
 c:Nat
 re:Nat
 pk:Nat
 ms:List Ms
def Rl.cells (ca:Nat) (l:Rl):List Value:=[U O ca,Us l.A l.ms.length l.c,U O l.re,U O l.pk]
def Rl.In (i:Inp) (v:Nat) (l:Rl) (F:Nat->Prop) (W:World):Prop :=
 (l.re<=l.ms.length/\l.pk<=l.ms.length)/\RdF l.A (mcells l.ms) F W/\∀ (j:Nat) (m:Ms),l.ms[j]?=some m->(In64 m.v/\∃ a b,Gr (plBs i.r.c i.r.p) i.r.c.k i.r.c.s v m.t=some (a,b)/\m.v.length=b-a)/\RdF m.A (zC m.v) F W
theorem Ck (i:Inp) (v:Nat) (l:Rl):Fro (Rl.In i v l):=(Fro.const _).and ((C8 _ _).and (.all fun _=>.all fun _=>.all fun _=>(Fro.const _).and (C8 _ _)))
structure Rl.Tag (i:Inp) (d:Nat->Nat) (v:Nat) (l:Rl):Prop where
 ms:l.ms.map Ms.t=sndT ((Ak i.r.c i.r.p v).take (d v))
 re:l.re=rcvN (Ak i.r.c i.r.p) d ((v+1) % i.r.c.k)
structure Rw where
 AM:Option Addr
 cM:Nat
 AL:Option Addr
 cL:Nat
 count:Nat
 ms:Nat->Rm
 ls:Nat->Rl
def mrow (i:Inp) (ms:Nat->Rm) (n:Nat):List Value:=(Aiu n).flatMap fun u=>(ms u).cells i u
def lrow (i:Inp) (ls:Nat->Rl) (n:Nat):List Value:=(Aiu n).flatMap fun v=>(ls v).cells i.r.c.ca
def Rw.cells (i:Inp) (y:Rw):List Value:=[Us y.AM i.r.c.k y.cM,Us y.AL i.r.c.k y.cL,U O y.count]
def Rw.d (y:Rw) (u:Nat):Nat:=(y.ms u).d
def Rw.Parts (i:Inp) (ms:Nat->Rm) (ls:Nat->Rl) (F:Nat->Prop) (W:World):Prop:=∀ u,u<i.r.c.k->Rm.In i u (ms u) F W/\Rl.In i u (ls u) F W
def Rw.In (i:Inp) (y:Rw) (F:Nat->Prop) (W:World):Prop:=RdF y.AM (mrow i y.ms i.r.c.k) F W/\RdF y.AL (lrow i y.ls i.r.c.k) F W/\Rw.Parts i y.ms y.ls F W
theorem Np (i:Inp) (ms:Nat->Rm) (ls:Nat->Rl):Fro (Rw.Parts i ms ls):=.all fun _=>.all fun _=>(Dh _ _ _).and (Ck _ _ _)
theorem G5 (i:Inp) (y:Rw):Fro (Rw.In i y):=(C8 _ _).and ((C8 _ _).and (Np _ _ _))
theorem JH (i:Inp) (ms:Nat->Rm) (n:Nat):mrow i ms (n+1)=mrow i ms n++(ms n).cells i n:=by simp [mrow,Aiz]
theorem JI (i:Inp) (ls:Nat->Rl) (n:Nat):lrow i ls (n+1)=lrow i ls n++(ls n).cells i.r.c.ca:=by simp [lrow,Aiz]
theorem G6 (i:Inp) (ms:Nat->Rm) (n:Nat):(mrow i ms n).length=n*22:=(Dx (fun u=>(ms u).cells i u) 22 (fun _=>rfl) _).trans (by simp)
theorem Iv (i:Inp) (ls:Nat->Rl) (n:Nat):(lrow i ls n).length=n*4:=(Dx (fun v=>(ls v).cells i.r.c.ca) 4 (fun _=>rfl) _).trans (by simp)
theorem Nq {i:Inp} {ms:Nat->Rm} {n u:Nat} (hu:u<n) {j:Nat} {v:Value} (h:((ms u).cells i u)[j]?=some v):(mrow i ms n)[u*22+j]?=some v:=Ef (fun u=>(ms u).cells i u) 22 (fun _=>rfl) (Aiu n) u u (by simp [hu]) j v h
theorem TX {i:Inp} {ls:Nat->Rl} {n u:Nat} (hu:u<n) {j:Nat} {v:Value} (h:((ls u).cells i.r.c.ca)[j]?=some v):(lrow i ls n)[u*4+j]?=some v:=Ef (fun u=>(ls u).cells i.r.c.ca) 4 (fun _=>rfl) (Aiu n) u u (by simp [hu]) j v h
def DC (i:Inp) (u t:Nat):List It:=(Aiu t).flatMap fun t=>AS i.r.c i.r.p t u
theorem JJ (i:Inp) (u t:Nat):DC i u (t+1)=DC i u t++AS i.r.c i.r.p t u:=by simp [DC,Aiz]
theorem TY (i:Inp) (u t:Nat):icells (DC i u (t+1))=icells (DC i u t)++icells (AS i.r.c i.r.p t u):=by rw [JJ];simp [icells]
theorem TZ {c:Kf} (hc:c.Ok) {p:Nat} (hp:p<=60) (t u:Nat):(AS c p t u).length<=200000000:=by
 have hbs:=DU hc hp;rw [AS,Cv,Aiq,Aiq,Co];have h1:=FS (s:=c.s) (t:=t) (w:=u) hbs.1 hbs.2.1 hc.k hbs.2.2.1 (plGs c p).length (Ais _);rw [Bx,List.take_length] at h1;have h2:=hbs.2.2.2;have h3:=hc.mi.2;simp only [List.length_singleton];omega
theorem Nr {i:Inp} (hc:i.r.c.Ok) (hp:i.r.p<=60) (u:Nat):∀ {t:Nat},t<=5->(DC i u t).length<=1000000000:=by
 have h:∀ t,(DC i u t).length<=t*200000000:=by
  intro t
  induction t with
  | zero=>exact Ais _
  | succ t ih =>
    rw [JJ,Aiq];have:=TZ hc hp t u;omega
 intro t ht;have:=h t;omega
theorem Ua (l:List It):∀ v∈icells l,v.oneCell'=true:=fun v hv=>by
 obtain ⟨x,_,h⟩:=List.mem_flatMap.1 hv;simp [It.cells,Ac.cells] at h
 rcases h with rfl | rfl | rfl | rfl | rfl | rfl | rfl | rfl | rfl | rfl | rfl | rfl <;> rfl
theorem Ub {i:Inp} {u cP cM cG cR cI gz gG gR:Nat} {A:Option Addr} {F:Nat->Prop} {w W:World} (h1:i.r.p<=cP) (h2:i.r.p<=cM) (h3:i.r.p<=cG) (hb:Below w.heap.size w W) (hF:RdF i.SA (zC i.st) F w) (hst:i.st.length=i.r.p/\In64 i.st) (hgz:w.heap.size<=gz) (hz:Rd W W.heap.size (some ⟨gz,0,none⟩) (zC (AE i.r.p))) (hgG:w.heap.size<=gG) (hG:Rd W W.heap.size (some ⟨gG,0,none⟩) (zC (AE i.r.p))) (hgR:w.heap.size<=gR)
  (hR:Rd W W.heap.size (some ⟨gR,0,none⟩) [Us i.SA i.r.p cP,Us (some ⟨gz,0,none⟩) i.r.p i.r.p]) (hI:Rd W W.heap.size A (icells (DC i u i.r.c.st))) (hA:∀ q,A=some q->w.heap.size<=q.block) :
  Rm.In i u ⟨i.SA,cP,some ⟨gz,0,none⟩,cM,some ⟨gG,0,none⟩,cG,some ⟨gR,0,none⟩,1,cR,A,cI,0⟩ (fun g=>F g\/w.heap.size<=g) W:=by
 refine ⟨⟨h1,h2,h3,Ais _⟩,⟨i.st,hst,?_⟩,⟨AE i.r.p,⟨by simp [AE],Fl _⟩,hz,fun _ q hq=>by cases hq;exact .inr hgz⟩,⟨AE i.r.p,⟨by simp [AE],Fl _⟩,hG,fun _ q hq=>by cases hq;exact .inr hgG⟩,⟨_,⟨rfl,fun v hv=>?_⟩,hR,fun _ q hq=>by cases hq;exact .inr hgR⟩,hI,fun _ q hq=>.inr (hA q hq)⟩
 . exact (C8 _ _).mono _ _ _ (fun g hg=>.inl hg) ((C8 _ _).below hF hb)
 . simp at hv;rcases hv with rfl | rfl <;> rfl
theorem Ns (w:World) (i:Inp) :
  Calls Tryz.prog 24 #[.agg i.cells.toArray] w fun e w'=>e=.returned (.agg (rpC i.r.c i.r.p (Us i.A i.r.ns.length i.cap)).toArray)/\Below w.heap.size w w':=by
 have hm:=((Mem.start w).alloc (.cells i.cells.toArray 29)).alloc (.cells (rpC i.r.c i.r.p (Us i.A i.r.ns.length i.cap)).toArray 82);simp only [Ai4] at hm;have HM:=K1 hm;dsimp only [Ai0,rpC] at *;clear hm;go_enter Tryz.func24,Tryz.ntmps24;go_wp2_with fail;have c2:=HM.out.cells 2 rfl;refine bodyPost_ret (v:=.agg (rpC i.r.c i.r.p (Us i.A i.r.ns.length i.cap)).toArray) ?_ rfl ⟨rfl,HM.out.bel 0 rfl⟩;simp [results,Tryz.results24,go_sem,c2,rpC]
theorem Uc (w:World) (i:Inp) (hi:i.Ok) (ha:i.At w) (hsc:i.r.p<=i.scap) (h5:i.r.c.st<=5) (u:Nat) (hu:u<i.r.c.k) (F:Nat->Prop) (hF:RdF i.SA (zC i.st) F w) (CI:∀ W,Below w.heap.size w W->Calls Tryz.prog 22 #[.agg i.cells.toArray] W fun e w'=>e=.returned (U O 0)/\Below W.heap.size W w') :
  Calls Tryz.prog 46 #[.agg i.cells.toArray,U O u] w fun e w'=>∃ m:Rm,e=.returned (.tuple #[.agg (m.cells i u).toArray,U O 0])/\m.d=0/\Rm.In i u m (fun g=>F g\/w.heap.size<=g) w'/\Below w.heap.size w w':=by
 have hp60:=hi.p;have hk:=hi.c.k;have CI:=K1 CI;have CS:=K1 (fun W (h:Rd W W.heap.size i.SA (zC i.st))=>RW W i.SA i.r.p i.scap i.st h (by omega));have CP:=K1 (fun W=>Ns W i);have CT:=K1 (fun W t (ht:t<i.r.c.st)=>T5 W i.r.c i.r.p u t (Us i.A i.r.ns.length i.cap) hi.c hp60.2 hu ht)
 obtain ⟨L,hL⟩:∃ L:Nat->Nat,L=fun t=>(AS i.r.c i.r.p t u).length:=⟨_,rfl⟩
 obtain ⟨N,hN⟩:∃ N:Nat->Nat,N=fun t=>(DC i u t).length:=⟨_,rfl⟩
 have HNS:=K1 (show ∀ t,N t+L t=N (t+1) by intro t;rw [hN,hL];show (DC i u t).length+(AS i.r.c i.r.p t u).length=(DC i u (t+1)).length;rw [JJ,Aiq]);have HN0:=K1 (show N 0=0 by rw [hN];rfl);have HNB:=K1 (show ∀ t,t<=5->N t<=1000000000 by intro t ht;rw [hN];exact Nr hi.c hp60.2 u ht);have HNE:=K1 (show N i.r.c.st=(Ak i.r.c i.r.p u).length by rw [hN];rfl);have HLL:=K1 (show ∀ t,(icells (AS i.r.c i.r.p t u)).length=L t*12 by intro t;rw [hL];exact Dx _ 12 (fun _=>rfl) _)
 have CT2:=K1 (show ∀ W t,t<i.r.c.st->Calls Tryz.prog 82 #[.agg (rpC i.r.c i.r.p (Us i.A i.r.ns.length i.cap)).toArray,U O u,U O t] W fun e w'=>∃ A cc,e=.returned (Us A (L t) cc)/\(∀ q,A=some q->W.heap.size<=q.block)/\Rd w' w'.heap.size A (icells (AS i.r.c i.r.p t u))/\Below W.heap.size W w' by
  intro W t ht;refine (CT.out W t ht).mono ?_;rintro e w' ⟨A,cc,rfl,hm⟩
  exact ⟨A,cc,by rw [hL],fun q hq=>AF (hm.own 0 rfl) q hq,AJ (hm.own 0 rfl),hm.bel 1 rfl⟩)
 have hmk:=Gw i.r.p (by omega);have hm:=((Mem.start w).add_rd (i:=0) rfl ha.st).alloc (.cells i.cells.toArray 29);have hm1:=hm.alloc (.cells #[Us none 0 0,U O 0,U O 0,U O 0,U O 0,U O 0,U O 0,U O 0,U O 0,U O 0,U O 0,U O 0,Us none 0 0,Us none 0 0,Us none 0 0,U O 0,Us none 0 0,Us none 0 0,Us none 0 0,Us none 0 0,Us none 0 0,U O 0] 69);simp only [Ai4] at hm1;have HM:=K1 hm1;have HF:=K1 hF;have HST:=K1 hi.st;have hq1:decide ((u:Int)<0)=false:=decide_eq_false (by omega);have hq2:decide (i.r.c.k<=u)=false:=decide_eq_false (by omega);dsimp only [Ai0,rpC] at *;clear hm hm1 hF CT hL hN hi ha
 go_enter Tryz.func46,Tryz.ntmps46;have c2:=HM.out.cells 2 rfl;go_wp2_with fail;refine (CI.out _ (HM.out.bel 0 rfl)).mono ?_;rintro e w1 ⟨rfl,hb⟩;replace HM:=K1 (HM.out.below hb);clear hb CI c2;have c2:=HM.out.cells 2 rfl;go_wp2_with fail;refine (CS.out _ (HM.out.rd 1 rfl)).mono ?_;rintro e w2 ⟨gz,rfl,hgz,_,hz,hb⟩;have HM2:=K1 ((HM.out.push_rd hb hz (fun q hq=>by cases hq;exact hgz)).alloc (.cells #[Us i.SA i.r.p i.scap,Us (some ⟨gz,0,none⟩) i.r.p i.r.p] 66));have HGZ:=K1 (show w.heap.size<=gz from Aiv (HM.out.bel 0 rfl).size hgz);clear HM hb hz hgz CS c2;have HM:=K1 HM2.out;clear HM2
 go_upto_region 7 with fail
 refine A9 fun W0 hW=>?_;replace HM:=K1 (hW.out.symm ▸ HM.out);clear hW;generalize hg7:w2.heap.size=g7 at *;clear hg7
 go_cut [8] from 29 to 38 (fun s8 W=>∃ g8 gG gR:Nat,s8=.pointer (some ⟨g8,0,none⟩)/\Hid (w.heap.size<=gG/\w.heap.size<=gR)/\Hid (Mem W [.bel w.heap.size w,.rd i.SA (zC i.st),.obj w.heap.size (.cells #[Us i.A i.r.ns.length i.cap,U O i.r.c.sh,U O i.r.c.ra,U O i.r.c.mo,U O i.r.c.k,U O i.r.c.ba,U O i.r.c.mi,U O i.r.c.st,U O i.r.c.bu,U O i.r.c.s,U O i.r.c.wi,U O i.r.c.ca,Us i.DA i.r.n i.dcap,Us i.SA i.r.p i.scap,Us i.RA i.r.ds.length i.rcap] 29 (0,0)),.obj (w.heap.size+1) (.cells #[Us none 0 0,U O 0,U O 0,U O 0,U O 0,U O 0,U O 0,U O 0,U O 0,U O 0,U O 0,U O 0,Us none 0 0,Us none 0 0,Us none 0 0,U O 0,Us none 0 0,Us none 0 0,Us none 0 0,Us none 0 0,Us none 0 0,U O 0] 69 (0,0)),.rd (some ⟨gz,0,none⟩) (zC (AE i.r.p)),.obj g7 (.cells #[Us i.SA i.r.p i.scap,Us (some ⟨gz,0,none⟩) i.r.p i.r.p] 66 (0,0)),.obj g8 (.cells #[Us i.A i.r.ns.length i.cap,U O i.r.c.sh,U O i.r.c.ra,U O i.r.c.mo,U O i.r.c.k,U O i.r.c.ba,U O i.r.c.mi,U O i.r.c.st,U O i.r.c.bu,U O i.r.c.s,U O i.r.c.wi,U O i.r.c.ca,Us i.DA i.r.n i.dcap,Us i.SA i.r.p i.scap,Us i.RA i.r.ds.length i.rcap,U O u,Us i.SA i.r.p i.scap,Us (some ⟨gz,0,none⟩) i.r.p i.r.p,Us (some ⟨gG,0,none⟩) i.r.p i.r.p,Us (some ⟨gR,0,none⟩) 1 1,Us none 0 0,U O 0] 69 (0,0)),.rd (some ⟨gG,0,none⟩) (zC (AE i.r.p)),.rd (some ⟨gR,0,none⟩) [Us i.SA i.r.p i.scap,Us (some ⟨gz,0,none⟩) i.r.p i.r.p]]))
 case first =>
  replace HM:=K1 HM.out.hole_.hole_.hole_;refine A9 fun W1 hW=>?_;replace HM:=K1 (hW.out.symm ▸ HM.out);clear hW
  refine AC (.reads [0,1,2,3,4,5,7] (.three 6 8 10 (.two 8 10 (.reads [9] (.eff 10 (.eff 11 (.fin)))) (.eff 8 (.reads [9] (.eff 11 (.fin))))) (.two 6 10 (.reads [9] (.eff 10 (.eff 11 (.fin)))) (.eff 6 (.reads [9] (.eff 11 (.fin))))) (.two 6 8 (.eff 8 (.reads [9] (.eff 11 (.fin)))) (.eff 6 (.reads [9] (.eff 11 (.fin))))))) 12 (fun W'=>(∀ x,W'.cell? ⟨w.heap.size,x,none⟩=([Us i.A i.r.ns.length i.cap,U O i.r.c.sh,U O i.r.c.ra,U O i.r.c.mo,U O i.r.c.k,U O i.r.c.ba,U O i.r.c.mi,U O i.r.c.st,U O i.r.c.bu,U O i.r.c.s,U O i.r.c.wi,U O i.r.c.ca,Us i.DA i.r.n i.dcap,Us i.SA i.r.p i.scap,Us i.RA i.r.ds.length i.rcap]:List Value)[x]?)/\(∀ x,W'.cell? ⟨g7,x,none⟩=([Us i.SA i.r.p i.scap,Us (some ⟨gz,0,none⟩) i.r.p i.r.p]:List Value)[x]?)) ?_
  replace HM:=K1 HM.out.drew;generalize W1.drew=V1 at *
  repeat' (first
   | (refine PlS.three_ ?_ ?_ ?_
      skip)
   | (refine PlS.two_ ?_ ?_
      skip)
   | (refine PlS.rd_ ⟨HM.out.cells 2 rfl,HM.out.cells 5 rfl⟩ ?_)
   | (refine Air (k:=6) ?_
      obtain ⟨gG,hgg,HgG,hmm⟩:=HM.out.zeroFit rfl i.r.p (by omega) 7 rfl;go_wp2_with fail;rw [<- hgg];refine AH fun W6 hW=>?_;have HM:=K1 (hW.out.symm ▸ hmm);clear hW hmm hgg
      refine Ait ⟨HM.out.cells 2 rfl,HM.out.cells 5 rfl⟩ ?_)
   | (refine Air (k:=8) ?_
      obtain ⟨gR,hgg,HgR,hmm⟩:=HM.out.rowFit rfl #[Us i.SA i.r.p i.scap,Us (some ⟨gz,0,none⟩) i.r.p i.r.p] 66 8 rfl;go_wp2_with fail;rw [<- hgg];refine AH fun W8 hW=>?_;have HM:=K1 (hW.out.symm ▸ hmm);clear hW hmm hgg
      refine Ait ⟨HM.out.cells 2 rfl,HM.out.cells 5 rfl⟩ ?_)
   | (refine Air (k:=10) ?_
      obtain ⟨g8,hgg,Hg8,hmm⟩:=HM.out.allocFit rfl (.cells #[Us none 0 0,U O 0,U O 0,U O 0,U O 0,U O 0,U O 0,U O 0,U O 0,U O 0,U O 0,U O 0,Us none 0 0,Us none 0 0,Us none 0 0,U O 0,Us none 0 0,Us none 0 0,Us none 0 0,Us none 0 0,Us none 0 0,U O 0] 69) 6 rfl;go_wp2_with fail;rw [<- hgg];refine AH fun W10 hW=>?_;have HM:=K1 (hW.out.symm ▸ hmm);clear hW hmm hgg
      refine Ait ⟨HM.out.cells 2 rfl,HM.out.cells 5 rfl⟩ ?_)
   | (refine Air (k:=11) ?_
      refine Bt rfl _ _ _ rfl HM.out 6 rfl #[Us i.A i.r.ns.length i.cap,U O i.r.c.sh,U O i.r.c.ra,U O i.r.c.mo,U O i.r.c.k,U O i.r.c.ba,U O i.r.c.mi,U O i.r.c.st,U O i.r.c.bu,U O i.r.c.s,U O i.r.c.wi,U O i.r.c.ca,Us i.DA i.r.n i.dcap,Us i.SA i.r.p i.scap,Us i.RA i.r.ds.length i.rcap,U O u,Us i.SA i.r.p i.scap,Us (some ⟨gz,0,none⟩) i.r.p i.r.p,Us (some ⟨gG,0,none⟩) i.r.p i.r.p,Us (some ⟨gR,0,none⟩) 1 1,Us none 0 0,U O 0] rfl rfl (by kernel_rfl) rfl rfl ?_;intro W11 hm11;have HM:=K1 hm11;clear hm11;go_wp2_with fail
      refine Ait ⟨HM.out.cells 2 rfl,HM.out.cells 5 rfl⟩ ?_)
   | (refine PlS.fin_ ?_
      go_wp2_with fail;go_meet
      exact ⟨g8,gG,gR,rfl,K1 ⟨HgG,HgR⟩,HM⟩))
 case rest =>
  obtain ⟨g8,gG,gR,rfl,HGR,HMB⟩:=hcut;clear HM;have hm0:=HMB.out.add (c:=.own w.heap.size 76 12 (Us none 0 0) 0 []) ⟨Bh _ _ _ _,(HMB.out.bel 0 rfl).size⟩ (fun _ _ _ _ g hg=>by cases hg);have HM:=K1 hm0;clear HMB hm0;go_wp2_with fail
  go_loopw [9] (fun s9 wr=>∃ (t:Nat) (A:Option Addr) (c:Nat),t<=i.r.c.st/\s9=U O t/\Hid (Mem wr [.bel w.heap.size w,.rd i.SA (zC i.st),.obj w.heap.size (.cells #[Us i.A i.r.ns.length i.cap,U O i.r.c.sh,U O i.r.c.ra,U O i.r.c.mo,U O i.r.c.k,U O i.r.c.ba,U O i.r.c.mi,U O i.r.c.st,U O i.r.c.bu,U O i.r.c.s,U O i.r.c.wi,U O i.r.c.ca,Us i.DA i.r.n i.dcap,Us i.SA i.r.p i.scap,Us i.RA i.r.ds.length i.rcap] 29 (0,0)),.obj (w.heap.size+1) (.cells #[Us none 0 0,U O 0,U O 0,U O 0,U O 0,U O 0,U O 0,U O 0,U O 0,U O 0,U O 0,U O 0,Us none 0 0,Us none 0 0,Us none 0 0,U O 0,Us none 0 0,Us none 0 0,Us none 0 0,Us none 0 0,Us none 0 0,U O 0] 69 (0,0)),.rd (some ⟨gz,0,none⟩) (zC (AE i.r.p)),.obj g7 (.cells #[Us i.SA i.r.p i.scap,Us (some ⟨gz,0,none⟩) i.r.p i.r.p] 66 (0,0)),.obj g8 (.cells #[Us i.A i.r.ns.length i.cap,U O i.r.c.sh,U O i.r.c.ra,U O i.r.c.mo,U O i.r.c.k,U O i.r.c.ba,U O i.r.c.mi,U O i.r.c.st,U O i.r.c.bu,U O i.r.c.s,U O i.r.c.wi,U O i.r.c.ca,Us i.DA i.r.n i.dcap,Us i.SA i.r.p i.scap,Us i.RA i.r.ds.length i.rcap,U O u,Us i.SA i.r.p i.scap,Us (some ⟨gz,0,none⟩) i.r.p i.r.p,Us (some ⟨gG,0,none⟩) i.r.p i.r.p,Us (some ⟨gR,0,none⟩) 1 1,Us A (N t) c,U O 0] 69 (0,0)),.rd (some ⟨gG,0,none⟩) (zC (AE i.r.p)),.rd (some ⟨gR,0,none⟩) [Us i.SA i.r.p i.scap,Us (some ⟨gz,0,none⟩) i.r.p i.r.p],.own w.heap.size 76 12 (Us A (N t) c) (N t) (icells (DC i u t))])) (fun s9 _=>i.r.c.st-(intOf s9).toNat)
  case atStart=>exact ⟨0,none,0,Nat.zero_le _,rfl,K1 (by rw [HN0.out];exact HM.out)⟩
  case round =>
   clear HM;obtain ⟨t,A,c,ht,rfl,HM⟩:=hrel;have c2:=HM.out.cells 2 rfl
   by_cases hlt:t<i.r.c.st
   . obtain ⟨n0,hn0⟩:∃ n0,n0=N t:=⟨_,rfl⟩
     obtain ⟨l0,hl0⟩:∃ l0,l0=L t:=⟨_,rfl⟩
     have HNS1:=K1 (show n0+l0=N (t+1) by rw [hn0,hl0];exact HNS.out t);have hnb:n0+l0<=1000000000:=by rw [HNS1.out];exact HNB.out _ (by omega)
     have HL12:=K1 (show (icells (AS i.r.c i.r.p t u)).length=l0*12 by rw [hl0];exact HLL.out t);have CTk:=K1 (fun W=>CT2.out W t hlt);rw [<- hn0] at HM;rw [<- hl0] at CTk;clear hn0 hl0;go_wp2_with fail;clear c2;refine A9 fun W1 hW=>?_;replace HM:=K1 (hW.out.symm ▸ HM.out);clear hW
     refine AC (.reads [0,1,2,4,5] (.eff 3 (.eff 6 (.eff 7 (.reads [8] (.eff 9 (.fin))))))) 9 (fun W'=>(∀ x,W'.cell? ⟨w.heap.size,x,none⟩=([Us i.A i.r.ns.length i.cap,U O i.r.c.sh,U O i.r.c.ra,U O i.r.c.mo,U O i.r.c.k,U O i.r.c.ba,U O i.r.c.mi,U O i.r.c.st,U O i.r.c.bu,U O i.r.c.s,U O i.r.c.wi,U O i.r.c.ca,Us i.DA i.r.n i.dcap,Us i.SA i.r.p i.scap,Us i.RA i.r.ds.length i.rcap]:List Value)[x]?)/\(∀ x,W'.cell? ⟨g8,x,none⟩=([Us i.A i.r.ns.length i.cap,U O i.r.c.sh,U O i.r.c.ra,U O i.r.c.mo,U O i.r.c.k,U O i.r.c.ba,U O i.r.c.mi,U O i.r.c.st,U O i.r.c.bu,U O i.r.c.s,U O i.r.c.wi,U O i.r.c.ca,Us i.DA i.r.n i.dcap,Us i.SA i.r.p i.scap,Us i.RA i.r.ds.length i.rcap,U O u,Us i.SA i.r.p i.scap,Us (some ⟨gz,0,none⟩) i.r.p i.r.p,Us (some ⟨gG,0,none⟩) i.r.p i.r.p,Us (some ⟨gR,0,none⟩) 1 1,Us A n0 c,U O 0]:List Value)[x]?)) ?_
     replace HM:=K1 HM.out.drew;generalize W1.drew=V1 at *;refine PlS.rd_ ⟨HM.out.cells 2 rfl,HM.out.cells 6 rfl⟩ ?_;refine Air ?_;go_wp2_with fail;refine (CP.out _).mono ?_;rintro e w5 ⟨rfl,hb⟩;replace HM:=K1 (HM.out.below hb);clear hb;go_wp2_with fail;refine Ait ⟨HM.out.cells 2 rfl,HM.out.cells 6 rfl⟩ ?_;refine Air ?_;go_wp2_with fail;refine (CTk.out _).mono ?_;rintro e w6 ⟨A1,c1,rfl,hf,hr,hb⟩;replace HM:=K1 (HM.out.push_rd hb hr hf);clear hb hf hr;go_wp2_with fail;refine Ait ⟨HM.out.cells 2 rfl,HM.out.cells 6 rfl⟩ ?_;refine Air ?_
     refine AQ (n:=n0) rfl _ _ 67 rfl HM.out 9 MT rfl rfl A1 l0 c1 (icells (AS i.r.c i.r.p t u)) rfl (HM.out.rd 10 rfl) HL12.out (Ua _) (by omega) ?_;intro A2 c3 W6 hm6;rw [<- TY] at hm6;have HM:=K1 hm6;clear hm6;go_wp2_with fail;refine Ait ⟨HM.out.cells 2 rfl,HM.out.cells 6 rfl⟩ ?_;refine PlS.rd_ ⟨HM.out.cells 2 rfl,HM.out.cells 6 rfl⟩ ?_;refine Air ?_;have c8:=HM.out.cells 6 rfl;have f8:=fun j=>HM.out.frozen 6 j rfl
     have HX:=K1 (HM.out.set (i:=6) (j:=20) rfl (Us A2 (n0+l0) c3));clear HM;have HM:=K1 HX.out;clear HX;go_wp2_with fail;clear c8 f8;refine After.last (by decide) (PlS.fin_ ?_);go_wp2_with fail;go_roundw
     case rel =>
      refine ⟨t+1,A2,c3,by omega,by go_num,K1 ?_⟩;rw [<- HNS1.out];exact HM.out.front 10
     case measure=>simp [intOf];omega
   . have hts:t=i.r.c.st:=by omega
     subst hts
     obtain ⟨n0,hn0⟩:∃ n0,n0=N i.r.c.st:=⟨_,rfl⟩
     rw [<- hn0] at HM;have HE:=K1 (show n0=(Ak i.r.c i.r.p u).length from hn0.trans HNE.out);clear hn0
     go_wp2_with (first | (refine wpList_load_row rfl _ _ rfl g8 rfl _ _ _ _ (HM.out.obj 6 rfl) Tryz.underlying69 rfl (by kernel_rfl) ?_) | (refine Bt rfl _ _ _ rfl HM.out 3 rfl #[Us i.A i.r.ns.length i.cap,U O i.r.c.sh,U O i.r.c.ra,U O i.r.c.mo,U O i.r.c.k,U O i.r.c.ba,U O i.r.c.mi,U O i.r.c.st,U O i.r.c.bu,U O i.r.c.s,U O i.r.c.wi,U O i.r.c.ca,Us i.DA i.r.n i.dcap,Us i.SA i.r.p i.scap,Us i.RA i.r.ds.length i.rcap,U O u,Us i.SA i.r.p i.scap,Us (some ⟨gz,0,none⟩) i.r.p i.r.p,Us (some ⟨gG,0,none⟩) i.r.p i.r.p,Us (some ⟨gR,0,none⟩) 1 1,Us A n0 c,U O 0] rfl rfl (by kernel_rfl) rfl rfl ?_;intro W12 hm12))
     have HX:=K1 hm12;clear hm12 c2;have hlo:=AF (HX.out.own 9 rfl);have HIN:=K1 (Ub (cP:=i.scap) (cM:=i.r.p) (cG:=i.r.p) (cR:=1) (cI:=c) hsc (Ais _) (Ais _) (HX.out.bel 0 rfl) HF.out HST.out HGZ.out (HX.out.rd 4 rfl) HGR.out.1 (HX.out.rd 7 rfl) HGR.out.2 (HX.out.rd 8 rfl) (AJ (HX.out.own 9 rfl)) hlo);have HB:=K1 (HX.out.bel 0 rfl);clear hlo;have H3:=HX.out.obj 3 rfl
     refine bodyPost_ret (v:=.tuple #[.agg #[Us i.A i.r.ns.length i.cap,U O i.r.c.sh,U O i.r.c.ra,U O i.r.c.mo,U O i.r.c.k,U O i.r.c.ba,U O i.r.c.mi,U O i.r.c.st,U O i.r.c.bu,U O i.r.c.s,U O i.r.c.wi,U O i.r.c.ca,Us i.DA i.r.n i.dcap,Us i.SA i.r.p i.scap,Us i.RA i.r.ds.length i.rcap,U O u,Us i.SA i.r.p i.scap,Us (some ⟨gz,0,none⟩) i.r.p i.r.p,Us (some ⟨gG,0,none⟩) i.r.p i.r.p,Us (some ⟨gR,0,none⟩) 1 1,Us A n0 c,U O 0],U O 0]) (EV rfl _ _ _ _ _ _ rfl rfl H3 Tryz.underlying69 rfl (by kernel_rfl)) rfl ⟨⟨i.SA,i.scap,some ⟨gz,0,none⟩,i.r.p,some ⟨gG,0,none⟩,i.r.p,some ⟨gR,0,none⟩,1,1,A,c,0⟩,?_,rfl,HIN.out,HB.out⟩
     rw [HE.out];rfl
theorem JK {α:Type} {A B:List α} {j:Nat} {v:α} (h:A[j]?=some v):(A++B)[j]?=some v:=by
 rw [Aiw (List.getElem?_eq_some_iff.1 h).1];exact h
theorem Nt {W:World} {g:Nat} {A C:List Value} (hc:∀ x,W.cell? ⟨g,x,none⟩=C[x]?) (B:List Value) (e:A++B=C):∀ j v,A[j]?=some v->W.cell? ⟨g,0+j,none⟩=some v:=fun j v h=>by
 rw [Nat.zero_add,hc j,<- e];exact JK h
theorem F6 {W:World} {g:Nat} {A C:List Value} (hc:∀ x,W.cell? ⟨g,x,none⟩=C[x]?) (B:List Value) (e:A++B=C):∀ j v,A[j]?=some v->W.cell? ⟨g,j,none⟩=some v:=fun j v h=>by
 rw [hc j,<- e];exact JK h
theorem Ud {W:World} {g:Nat} {A:List Value} (h:∀ j v,A[j]?=some v->W.cell? ⟨g,j,none⟩=some v):∀ j v,A[j]?=some v->W.cell? ⟨g,0+j,none⟩=some v:=fun j v hj=>by rw [Nat.zero_add];exact h j v hj
section
variable {P:Program} {ops:Array Oper} {rest:List Oper} {o:Oper} {a:Act} {w:World}
theorem Du {Q:Act->Prop} (hgd:o.guard=none) (ty:TypeId) (x:Operand) (ho:o.op=.load ty x) (g:Nat) (hx:a.eval x=.pointer (some ⟨g,0,none⟩)) (t:TypeId) (cs:Array Value) (d:TypeDesc) (hg:w.heap[g]?=some (.cells cs t (0,0)))
  (hu:P.underlying ty=some d) (hd:(match d with | .struct _ | .array _ _=>true | _=>false)=true) (hi:(P.info? ty).map (·.size)=some cs.size)
  (h:wpStill P ops w Q rest (a.put o.dst (.agg cs))):wpStill P ops w Q (o::rest) a:=by
 refine wpStill_step fun K hK=>?_;have hw:Ai5 o (yielded ops a.tmps)=true:=by unfold Ai5;rw [hgd]
 rw [if_pos hw];unfold Oper.still execOp;simp only [ho,hx,Instr.loadAt,Instr.sureAddr,Sem.run_bind,Sem.run_pure,Result.andThen_ok,run_loadVar_row w g t ty cs (0,0) d hg hu hd hi,Oper.stillUpon,true_and];exact hK _ h
end
theorem Mem.emptyFit {W:World} {L:List Ch} (h:Mem W L) {B:Nat} {w0:World} (h0:L[0]?=some (.bel B w0)) (e:TypeId) (size i:Nat) {d:Ch} (hi:L[i]?=some d):∃ g,g=W.heap.size/\Mem (W.alloc (.cells #[] e)) (L.set i (.own B e size (Us (some ⟨g,0,none⟩) 0 0) 0 [])):=by
 refine ⟨_,rfl,Mem.fit ?_ i hi⟩;have hB:B<=W.heap.size:=Aiv (h.holds 0 _ h0).2 (h.holds 0 _ h0).1.size;have:=(h.push_own ((Below.refl _ _).alloc (Ais _) (.cells #[] e)) (Ii W e size) rfl).lower (i:=L.length) (base':=B) Bc hB
 rwa [List.set_append_right _ _ (Ais _),Nat.sub_self] at this
theorem Iw {c:Kf} {p u d:Nat} {x:It} (h:(Ak c p u)[d]?=some x):∃ t,t<c.st/\x∈AS c p t u:=by
 obtain ⟨t,ht,hx⟩:=List.mem_flatMap.1 (List.mem_of_getElem? h);exact ⟨t,List.mem_range.1 ht,hx⟩
def G7 (i:Inp) (u:Nat) (m:Rm) (li lo:Rl):Prop:=∃ x,(Ak i.r.c i.r.p u)[m.d]?=some x/\(x.kind=3->lo.ms.length<lo.re+i.r.c.ca)/\(x.kind=4->li.re<li.ms.length)
structure Ix (x:It) (li lo li' lo':Rl):Prop where
 no3:x.kind≠3->lo'=lo
 no4:x.kind≠4->li'=li
 is3:x.kind=3->lo'.ms.map Ms.t=lo.ms.map Ms.t++[tgOf x.a]/\lo'.re=lo.re
 is4:x.kind=4->li'.ms=li.ms/\li'.re=li.re+1
theorem Fro.up {P:(Nat->Prop)->World->Prop} (hP:Fro P) {F:Nat->Prop} {w W:World} (h:P F w) (hb:Below w.heap.size w W):P (fun g=>F g\/w.heap.size<=g) W:=hP.mono _ _ _ (fun _ h=>.inl h) (hP.below h hb)
theorem G8 {A:Option Addr} {p B:Nat} {F:Nat->Prop} {W:World} {zs:List Int} (h:zs.length=p/\In64 zs) (hr:Rd W W.heap.size A (zC zs)) (hf:∀ q,A=some q->B<=q.block):VecF A p (fun g=>F g\/B<=g) W:=⟨zs,h,hr,fun _ q hq=>.inr (hf q hq)⟩
theorem Ue {b o:Nat} {gs:List Int} {F:Nat->Prop} {W:World} (h:RdF (some ⟨b,o,none⟩) (zC gs) F W) {x y:Nat} (hxy:x<y) (hy:y<=gs.length):RdF (some ⟨b,o+x,none⟩) (zC (subL gs x y)) F W:=by
 have h2:=h.rd.sub x y (by rw [Br];exact hy);rw [if_neg (by omega),<- EJ] at h2;rw [Option.map_some,Cg] at h2;exact ⟨h2,fun _ q hq=>by cases hq;exact h.inF (by rw [Br];omega) ⟨b,o,none⟩ rfl⟩
theorem Uf {i:Inp} {v:Nat} {l:Rl} {F:Nat->Prop} {B:Nat} {W:World} (h:Rl.In i v l (fun g=>F g\/B<=g) W) {A:Option Addr} {c px:Nat} {g:Ms} (hpx:px<=l.ms.length+1) (hr:Rd W W.heap.size A (mcells (l.ms++[g]))) (hf:∀ q,A=some q->B<=q.block)
  (hg:In64 g.v/\∃ a b,Gr (plBs i.r.c i.r.p) i.r.c.k i.r.c.s v g.t=some (a,b)/\g.v.length=b-a) (hgr:RdF g.A (zC g.v) (fun g=>F g\/B<=g) W):Rl.In i v ⟨A,c,l.re,px,l.ms++[g]⟩ (fun g=>F g\/B<=g) W:=by
 obtain ⟨⟨h1,h2⟩,h3,h4⟩:=h;refine ⟨⟨by dsimp only;rw [Aiq];omega,by dsimp only;rw [Aiq];exact hpx⟩,⟨hr,fun _ q hq=>.inr (hf q hq)⟩,fun j m hm=>?_⟩
 rcases Ai1 j l.ms.length with hj | hj
 . exact h4 j m (by have:=hm;dsimp only at this;rwa [Aiw hj] at this)
 . have:m=g:=by
    have:=hm;dsimp only at this;rw [Ai6 hj] at this
    have h0:j-l.ms.length=0:=by
     have:=(List.getElem?_eq_some_iff.1 this).1;simp at this;omega
    rw [h0] at this;injection this with this
    exact this.symm
   subst this;exact ⟨hg,hgr⟩
theorem Ug {i:Inp} {v:Nat} {l:Rl} {F:Nat->Prop} {W:World} (h:Rl.In i v l F W) {r1:Nat} (hr:r1<=l.ms.length):Rl.In i v ⟨l.A,l.c,r1,l.pk,l.ms⟩ F W:=⟨⟨hr,h.1.2⟩,h.2.1,h.2.2⟩
theorem Mem.widenF {P:(Nat->Prop)->World->Prop} (hP:Fro P) {W w0:World} {L:List Ch} {i j B:Nat} {F G:Nat->Prop} (h:Mem W L) (hi:L[i]?=some (BI P F)) (hj:L[j]?=some (.bel B w0)) (hG:∀ g,G g->g<B):Mem W (L.set i (BI P fun g=>F g\/G g)):=by
 have hlt:=(List.getElem?_eq_some_iff.1 hi).1
 have old:∀ k d,k≠i->(L.set i (BI P fun g=>F g\/G g))[k]?=some d->L[k]?=some d:=fun k d hne hk=>by
  rw [Aix (Ne.symm hne)] at hk;exact hk
 have new:∀ d,(L.set i (BI P fun g=>F g\/G g))[i]?=some d->d=BI P fun g=>F g\/G g:=fun d hd=>by
  rw [Aiy hlt] at hd;injection hd with hd;exact hd.symm
 have hB:=h.holds j _ hj;constructor
 . intro k d hk
   by_cases e:k=i
   . subst e;rw [new d hk];exact G4 hP (hP.mono _ _ _ (fun _ h=>.inl h) (h.holds k _ hi).now) fun g hg=>hg.elim (fun h1=>(h.holds k _ hi).lt g h1) (fun h1=>Ai3 (hG g h1) (Aiv hB.2 hB.1.size))
   . exact h.holds k d (old k d e hk)
 . intro k l a b hne hk hl ha g h1 h2
   by_cases e:k=i
   . subst e;rw [new a hk] at ha
     cases ha
   . by_cases e2:l=i
     . subst e2;rw [new b hl] at h2;have hk':=old k a e hk
       rcases h2 with h3 | h3
       . exact h.sep k l a _ e hk' hi ha g h1 h3
       . refine h.sep k j a _ ?_ hk' hj ha g h1 (hG g h3);rintro rfl;rw [hj] at hk';injection hk' with hk'
         subst hk';exact ha
     . exact h.sep k l a b hne (old k a e hk) (old l b e2 hl) ha g h1 h2
theorem Mem.turnF {P P':(Nat->Prop)->World->Prop} (hP:Fro P') {W:World} {L:List Ch} {i:Nat} {F:Nat->Prop} (h:Mem W L) (hi:L[i]?=some (BI P F)) (hp:P' F W):Mem W (L.set i (BI P' F)):=by
 have hlt:=(List.getElem?_eq_some_iff.1 hi).1
 have old:∀ k d,k≠i->(L.set i (BI P' F))[k]?=some d->L[k]?=some d:=fun k d hne hk=>by
  rw [Aix (Ne.symm hne)] at hk;exact hk
 have new:∀ d,(L.set i (BI P' F))[i]?=some d->d=BI P' F:=fun d hd=>by
  rw [Aiy hlt] at hd;injection hd with hd;exact hd.symm
 constructor
 . intro k d hk
   by_cases e:k=i
   . subst e;rw [new d hk];exact G4 hP hp fun g hg=>(h.holds k _ hi).lt g hg
   . exact h.holds k d (old k d e hk)
 . intro k l a b hne hk hl ha g h1 h2
   by_cases e:k=i
   . subst e;rw [new a hk] at ha
     cases ha
   . by_cases e2:l=i
     . subst e2;rw [new b hl] at h2;exact h.sep k l a _ e (old k a e hk) hi ha g h1 h2
     . exact h.sep k l a b hne (old k a e hk) (old l b e2 hl) ha g h1 h2
end
section
theorem Uh {c:Kf} {p t u:Nat} {x:It} (hk:c.k=1) (hx:x∈AS c p t u):x.kind≠3/\x.kind≠4:=by
 unfold AS Cv at hx
 rcases List.mem_append.1 hx with hx | hx
 . rcases List.mem_append.1 hx with hx | hx
   . obtain ⟨i,_,rfl⟩:=List.mem_map.1 hx;simp [B8]
   . obtain ⟨g,_,hx⟩:=List.mem_flatMap.1 hx;unfold CJ at hx
     rcases List.mem_append.1 hx with hx | hx
     . rcases List.mem_append.1 hx with hx | hx
       . obtain ⟨i,_,rfl⟩:=List.mem_map.1 hx;simp [B8]
       . unfold DH Cn at hx;rw [hk] at hx;simp at hx
     . obtain ⟨i,_,rfl⟩:=List.mem_map.1 hx;simp [B8]
 . simp at hx;subst hx;simp [B8]
theorem Ui (l:List It):(sndT l).length<=l.length:=by
 unfold sndT;rw [Ai7];exact List.length_filter_le _ _
structure Rw.Ok (i:Inp) (y:Rw) (N:Nat):Prop where
 d:∀ u,u<i.r.c.k->y.d u<=N
 tag:∀ v,v<i.r.c.k->Rl.Tag i y.d v (y.ls v)
 count:y.count<=N
theorem Rl.Tag.len {i:Inp} {d:Nat->Nat} {v:Nat} {l:Rl} (h:Rl.Tag i d v l):l.ms.length=sndN (Ak i.r.c i.r.p) d v:=by
 have:=congrArg List.length h.ms
 rwa [Ai7] at this
theorem Rw.Ok.len {i:Inp} {y:Rw} {N:Nat} (h:y.Ok i N) {v:Nat} (hv:v<i.r.c.k):(y.ls v).ms.length<=N:=by
 rw [(h.tag v hv).len];unfold sndN;refine Aiv (Ui _) ?_;rw [List.length_take];have:=h.d v hv;omega
theorem Uj {i:Inp} {y:Rw} {N:Nat} (h:y.Ok i N) {u:Nat} (hu:u<i.r.c.k):G7 i u (y.ms u) (y.ls ((u+i.r.c.k-1) % i.r.c.k)) (y.ls u)↔DM i.r y.d u:=by
 have hv:(u+i.r.c.k-1) % i.r.c.k<i.r.c.k:=Ai2 _ (by omega);have t1:=h.tag u hu;have t2:=h.tag _ hv;have e2:=t2.re;rw [(around hu).1] at e2;have e3:=t1.len;have e4:=t2.len;have e5:=t1.re;unfold G7 DM;rw [e2,e3,e4,e5];exact Iff.rfl
theorem Uk {i:Inp} {y:Rw} {N:Nat} (h:y.Ok i N) {u:Nat} (hu:u<i.r.c.k) {x:It} (hx:(Ak i.r.c i.r.p u)[y.d u]?=some x) (hk:x.kind=4) (hlt:(y.ls ((u+i.r.c.k-1) % i.r.c.k)).re<(y.ls ((u+i.r.c.k-1) % i.r.c.k)).ms.length) :
  ∃ g,(y.ls ((u+i.r.c.k-1) % i.r.c.k)).ms[(y.ls ((u+i.r.c.k-1) % i.r.c.k)).re]?=some g/\g.t=tgOf x.a:=by
 have hv:(u+i.r.c.k-1) % i.r.c.k<i.r.c.k:=Ai2 _ (by omega);have t2:=h.tag _ hv;have e2:=t2.re;rw [(around hu).1] at e2;obtain ⟨g,hg⟩:=Au _ _ hlt;refine ⟨g,hg,?_⟩;have hn:=JE (r:=i.r) (d:=y.d) hu rfl hx hk (by rw [<- e2,<- t2.len];exact hlt);rw [<- t2.ms,<- e2,List.getElem?_map,hg] at hn;injection hn
theorem Ul {i:Inp} {y y':Rw} {N:Nat} (h:y.Ok i N) {u:Nat} (hu:u<i.r.c.k) {x:It} (hx:(Ak i.r.c i.r.p u)[y.d u]?=some x) {li' lo':Rl} (hl:Ix x (y.ls ((u+i.r.c.k-1) % i.r.c.k)) (y.ls u) li' lo')
  (hd:y'.d u=y.d u+1) (hd2:∀ a,a≠u->y'.d a=y.d a) (hc:y'.count<=N+1)
  (hls:∀ a,y'.ls a=if i.r.c.k=1 then y.ls a else if a=u then lo' else if a=(u+i.r.c.k-1) % i.r.c.k then li' else y.ls a):y'.Ok i (N+1):=by
 obtain ⟨t,_,hxi⟩:=Iw hx;have hv:(u+i.r.c.k-1) % i.r.c.k<i.r.c.k:=Ai2 _ (by omega);have tk:(Ak i.r.c i.r.p u).take (y'.d u)=(Ak i.r.c i.r.p u).take (y.d u)++[x]:=by rw [hd];exact Nf hx
 have tv:∀ a,a≠u->(Ak i.r.c i.r.p a).take (y'.d a)=(Ak i.r.c i.r.p a).take (y.d a):=fun a ha=>by rw [hd2 a ha]
 have rV:∀ a,a≠u->rcvN (Ak i.r.c i.r.p) y'.d a=rcvN (Ak i.r.c i.r.p) y.d a:=fun a ha=>by unfold rcvN;rw [tv a ha]
 have rU:rcvN (Ak i.r.c i.r.p) y'.d u=rcvN (Ak i.r.c i.r.p) y.d u+(rcvT [x]).length:=by unfold rcvN;rw [tk,D8,Aiq]
 refine ⟨fun a ha=>?_,fun a ha=>?_,hc⟩
 . by_cases e:a=u
   . subst e;rw [hd];have:=h.d a ha;omega
   . rw [hd2 a e];have:=h.d a ha;omega
 . have ta:=h.tag a ha;rw [hls]
   by_cases k1:i.r.c.k=1
   . rw [if_pos k1];obtain ⟨n3,n4⟩:=Uh k1 hxi;have e:a=u:=by omega
     subst e;refine ⟨by rw [tk,D7,ER n3,Ai8];exact ta.ms,?_⟩;rw [ta.re];have:(a+1) % i.r.c.k=a:=by rw [k1,Nat.mod_one];omega
     rw [this,rU,El n4];rfl
   . rw [if_neg k1]
     by_cases e:a=u
     . subst e;rw [if_pos rfl]
       have hne:(a+1) % i.r.c.k≠a:=fun e=>by
        have:=(around ha).2;rw [e] at this
        by_cases e1:a+1=i.r.c.k
        . rw [e1,Nat.mod_self] at e;omega
        . rw [Nat.mod_eq_of_lt (by omega)] at e;omega
       by_cases k3:x.kind=3
       . obtain ⟨q1,q2⟩:=hl.is3 k3;refine ⟨by rw [tk,D7,Gy k3,q1,ta.ms],by rw [q2,rV _ hne];exact ta.re⟩
       . rw [hl.no3 k3];exact ⟨by rw [tk,D7,ER k3,Ai8];exact ta.ms,by rw [rV _ hne];exact ta.re⟩
     . rw [if_neg e]
       by_cases e2:a=(u+i.r.c.k-1) % i.r.c.k
       . rw [if_pos e2];have ev:(a+1) % i.r.c.k=u:=by rw [e2];exact (around hu).1
         have ta2:=ta;rw [e2] at ta2;have hre:(y.ls ((u+i.r.c.k-1) % i.r.c.k)).re=rcvN (Ak i.r.c i.r.p) y.d u:=by have:=ta2.re;rwa [(around hu).1] at this
         have hms:(y.ls ((u+i.r.c.k-1) % i.r.c.k)).ms.map Ms.t=sndT ((Ak i.r.c i.r.p a).take (y.d a)):=by rw [<- e2];exact ta.ms
         by_cases k4:x.kind=4
         . obtain ⟨q1,q2⟩:=hl.is4 k4;refine ⟨by rw [q1,tv a e];exact hms,by rw [q2,ev,rU,F3 k4,hre];rfl⟩
         . rw [hl.no4 k4];exact ⟨by rw [tv a e];exact hms,by rw [ev,rU,El k4,hre];rfl⟩
       . rw [if_neg e2];have hne:(a+1) % i.r.c.k≠u:=fun e3=>e2 (by rw [<- e3];exact ((around ha).2).symm)
         exact ⟨by rw [tv a e];exact ta.ms,by rw [rV _ hne];exact ta.re⟩
theorem JL:∀ (vs A B:List Value) (o:Nat),o+vs.length<=A.length->setL (A++B) o vs=setL A o vs++B
 | [],A,B,o,_=>rfl
 | v::vs,A,B,o,h=>by
   rw [setL,setL,List.set_append_left _ _ (by simp at h;omega)];exact JL vs (A.set o v) B (o+1) (by simp at h ⊢;omega)
theorem Nu:∀ (vs A B:List Value),vs.length=B.length->setL (A++B) A.length vs=A++vs:=fun vs A B h=>by
 apply List.ext_getElem?;intro j
 rcases Ai1 j A.length with hj | hj
 . rw [Ib _ _ _ _ hj,Aiw hj,Aiw hj]
 . obtain ⟨k,rfl⟩:∃ k,j=A.length+k:=⟨j-A.length,by omega⟩
   rw [Ai6 (by omega),Nat.add_sub_cancel_left]
   rcases Ai1 k vs.length with hk | hk
   . exact Jt _ _ _ k hk (by rw [Aiq];omega)
   . rw [Ai9 (by rw [Js,Aiq];omega),Ai9 hk]
theorem G9 {f g:Nat->List Value}:∀ {l:List Nat},(∀ a∈l,f a=g a)->l.flatMap f=l.flatMap g
 | [],_=>rfl
 | a::l,h=>by rw [Aja,Aja,h a (List.mem_cons_self ..),G9 fun b hb=>h b (List.mem_cons_of_mem _ hb)]
def upd {α:Type} (f:Nat->α) (u:Nat) (x:α):Nat->α:=fun a=>if a=u then x else f a
theorem Nv (i:Inp) (ms:Nat->Rm) (u:Nat) (m:Rm):∀ n,u<n->setL (mrow i ms n) (u*22) (m.cells i u)=mrow i (upd ms u m) n
 | 0,h=>absurd h (Nat.not_lt_zero _)
 | n+1,h=>by
   rw [JH,JH]
   by_cases e:u=n
   . subst e
     have h1:mrow i (upd ms u m) u=mrow i ms u:=by
      unfold mrow;exact G9 fun a ha=>by have:=List.mem_range.1 ha;unfold upd;rw [if_neg (by omega)]
     have:=Nu (m.cells i u) (mrow i ms u) ((ms u).cells i u) rfl;rw [G6] at this;rw [this,h1];unfold upd;rw [if_pos rfl]
   . rw [JL _ _ _ _ (by rw [G6];show u*22+22<=n*22;omega),Nv i ms u m n (by omega)]
     congr 1
     unfold upd;rw [if_neg (by omega)]
theorem JM (i:Inp) (ls:Nat->Rl) (u:Nat) (l:Rl):∀ n,u<n->setL (lrow i ls n) (u*4) (l.cells i.r.c.ca)=lrow i (upd ls u l) n
 | 0,h=>absurd h (Nat.not_lt_zero _)
 | n+1,h=>by
   rw [JI,JI]
   by_cases e:u=n
   . subst e
     have h1:lrow i (upd ls u l) u=lrow i ls u:=by
      unfold lrow;exact G9 fun a ha=>by have:=List.mem_range.1 ha;unfold upd;rw [if_neg (by omega)]
     have:=Nu (l.cells i.r.c.ca) (lrow i ls u) ((ls u).cells i.r.c.ca) rfl;rw [Iv] at this;rw [this,h1];unfold upd;rw [if_pos rfl]
   . rw [JL _ _ _ _ (by rw [Iv];show u*4+4<=n*4;omega),JM i ls u l n (by omega)]
     congr 1
     unfold upd;rw [if_neg (by omega)]
def JN (i:Inp) (u v:Nat) (m:Rm) (li lo:Rl) (F:Nat->Prop) (w:World) (e:Ending) (w':World):Prop:=∃ (m':Rm) (li' lo':Rl) (code:Int),e=.returned (.tuple #[.agg (m'.cells i u).toArray,.agg (li'.cells i.r.c.ca).toArray,.agg (lo'.cells i.r.c.ca).toArray,U O code])/\Below w.heap.size w w' /\
 (((code != 0)=true/\¬ G7 i u m li lo)\/(code=0/\G7 i u m li lo/\m'.d=m.d+1/\∃ x,(Ak i.r.c i.r.p u)[m.d]?=some x/\Ix x li lo li' lo')) /\
 (code=0->Rm.In i u m' (fun g=>F g\/w.heap.size<=g) w'/\Rl.In i v li' (fun g=>F g\/w.heap.size<=g) w'/\Rl.In i u lo' (fun g=>F g\/w.heap.size<=g) w')
theorem Nw (m:Rm) (i:Inp) (u:Nat):∀ x∈m.cells i u,x.oneCell'=true:=fun x hx=>by
 simp [Rm.cells,Ai0] at hx
 rcases hx with rfl | rfl | rfl | rfl | rfl | rfl | rfl | rfl | rfl | rfl | rfl | rfl | rfl | rfl | rfl | rfl | rfl | rfl | rfl | rfl | rfl | rfl <;> rfl
theorem Um (i:Inp) (ms:Nat->Rm) (n:Nat):∀ x∈mrow i ms n,x.oneCell'=true:=fun x hx=>by
 obtain ⟨u,_,h⟩:=List.mem_flatMap.1 hx;exact Nw _ _ _ x h
theorem Un (i:Inp) (ls:Nat->Rl) (n:Nat):∀ x∈lrow i ls n,x.oneCell'=true:=fun x hx=>by
 obtain ⟨u,_,h⟩:=List.mem_flatMap.1 hx;simp [Rl.cells] at h
 rcases h with rfl | rfl | rfl | rfl <;> rfl
end
end Go.Proofs.YtdpojpcoghcieaaGreat
