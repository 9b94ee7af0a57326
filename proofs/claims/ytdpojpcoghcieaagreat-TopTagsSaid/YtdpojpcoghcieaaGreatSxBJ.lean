/- A part of the proof of TopTags: MachNew, RefSer. Conditions: none. -/
import Derived.Test.YtdpojpcoghcieaaGreatSxBI
import Derived.Test.YtdpojpcoghcieaaGreatSxBG
import Derived.Test.YtdpojpcoghcieaaGreatSxBF
set_option maxHeartbeats 8000000
set_option linter.all false
namespace Go.Proofs.YtdpojpcoghcieaaGreat
open Lib renaming hid → K1
open Go.RowKit
set_option maxRecDepth 100000
open Value renaming int → U, slice → Us
open IntKind renaming i64 → O
open PlS renaming ef_ → Agc, rc_ → Age, fin_ → Agh, two_ → Agk
open After renaming go → Agd
open Nat renaming le_trans → Agf, le_refl → Agg
open List renaming mem_cons → Agi, not_mem_nil → Agj, length_map → Agm
open Mem renaming start → Agl
open World renaming size_alloc → Agn
section
structure Inp where
 r:Rn
 A:Option Addr
 cap:Nat
 DA:Option Addr
 dcap:Nat
 l:List Ex
 SA:Option Addr
 scap:Nat
 st:List Int
 RA:Option Addr
 rcap:Nat
def Inp.cells (i:Inp):List Value:=[Us i.A i.r.ns.length i.cap,U O i.r.c.sh,U O i.r.c.ra,U O i.r.c.mo,U O i.r.c.k,U O i.r.c.ba,U O i.r.c.mi,U O i.r.c.st,U O i.r.c.bu,U O i.r.c.s,U O i.r.c.wi,U O i.r.c.ca,Us i.DA i.r.n i.dcap,Us i.SA i.r.p i.scap,Us i.RA i.r.ds.length i.rcap]
structure Inp.Ok (i:Inp):Prop where
 c:i.r.c.Ok
 p:1<=i.r.p/\i.r.p<=60
 ns:NsOk i.r.ns
 pn:i.r.p=offN i.r.ns (i.r.ns.length-1)
 n:i.r.n<=1000/\i.r.c.ba<=i.r.n
 l:i.l.length=i.r.n/\i.l.map Ex.nums=i.r.dat
 ex:∃ a b,i.r.ns[0]?=some a/\i.r.ns[i.r.ns.length-1]?=some b/\∀ e∈i.l,e.xs.length=a/\e.ys.length=b/\In64 e.xs/\In64 e.ys
 st:i.st.length=i.r.p/\In64 i.st
 ds:pcnt i.r.c.st (i.r.n / i.r.c.ba)*(i.r.n-1)<=i.r.ds.length/\i.r.ds.length<=1000000000
 cap:i.r.ns.length<=i.cap
 ru:(⟨i.r.c.ra,i.r.c.mo,i.r.c.sh⟩:Ru).Ok
 conf:AT (AX i.r.ns) i.r.c.cf=0
 shape:AV (AX i.r.ns)=0
 input:BY 0 (AX i.r.ns) i.r.c.st i.r.c.ba i.l i.r.p i.r.ds.length=0
structure Inp.At (i:Inp) (w:World):Prop where
 ns:RdI w w.heap.size i.A (AX i.r.ns)
 l:RdE w w.heap.size i.DA i.l
 fam:∀ a∈Bf i.l,Rd w w.heap.size a.1 a.2
 st:Rd w w.heap.size i.SA (zC i.st)
 ds:Rd w w.heap.size i.RA (Bq i.r.ds)
theorem Inp.At.below {i:Inp} {w w':World} (h:i.At w) (hb:Below w.heap.size w w'):i.At w' :=
 ⟨(RdI.below h.ns hb).more hb.size,(RdE.below h.l hb).more hb.size,fun a ha=>((h.fam a ha).below hb).more hb.size,(h.st.below hb).more hb.size,(h.ds.below hb).more hb.size⟩
def iniA (i:Inp):Am:=⟨i.st,AE i.r.p,AE i.r.p,[(i.st,AE i.r.p)],0,0,0,[]⟩
def itsC (c:Kf) (p t u:Nat):List It:=if t<c.st then AS c p t u else []
theorem ET (c:Kf) (p u t lo hi gp:Nat) (W:World) (hc:c.Ok) (hp:p<=60) (hu:u<c.k) (hP:Cx W lo hi gp c p) (hh:hi<=W.heap.size) :
  Calls Tryz.prog 69 #[.pointer (some ⟨gp,0,none⟩),U O u,U O t] W fun e w'=>∃ A cc,e=.returned (Us A (itsC c p t u).length cc)/\(itsC c p t u).length<=cc/\Rd w' w'.heap.size A (icells (itsC c p t u))/\(∀ p:Addr,A=some p->W.heap.size<=p.block)/\Below W.heap.size W w':=by
 unfold itsC
 by_cases ht:t<c.st
 . rw [if_pos ht];refine (KQ W lo hi gp c p u t hP hh hc hp hu ht).mono ?_;rintro e w' ⟨A,cc,rfl,ho,hb⟩;exact ⟨A,cc,rfl,Be ho,AJ ho,AF ho,hb⟩
 . rw [if_neg ht];refine (KS W lo hi gp c p u t hP hh hu (by omega)).mono ?_;rintro e w' ⟨rfl,rfl⟩;exact ⟨none,0,rfl,Agg _,Rd.nil_ _ _ _,fun p hp=>(by cases hp),Below.refl _ _⟩
theorem Tv (w:World) (e:TypeId) (v u:Value):(w.alloc (.cells #[v,u] e)).ownsRow w.heap.size e 2 (Us (some ⟨w.heap.size,0,none⟩) 1 1) 1 [v,u] :=
 ⟨by simp,.inr ⟨w.heap.size,1,#[v,u],rfl,Agg _,heap_alloc_new w _,Agg _,by simp [maxLen],by simp,by simp⟩⟩
theorem Mem.row2 {W W':World} {L:List Ch} {e:TypeId} {v u:Value} (h:Mem W L) (hW:W'=W.alloc (.cells #[v,u] e)):Mem W' (L++[.own W.heap.size e 2 (Us (some ⟨W.heap.size,0,none⟩) 1 1) 1 [v,u]]):=by
 subst hW;exact h.push_own ((Below.refl _ _).alloc (Agg _) _) (Tv W e v u) rfl
theorem EA (w W:World) (i:Inp) (hi:i.Ok) (u:Nat) (hu:u<i.r.c.k) (gM gs gb gp flo fhi shi plo phi gP cp gm gG gR:Nat) (Aq:Option Addr) (cq:Nat) (An:Option Addr) (cn:Nat) (Ai:Option Addr) (ci:Nat) (Ab:Option Addr) (cb:Nat) (Ax:Option Addr) (cx:Nat) (xs:List Ex)
  (hf:w.heap.size<=flo) (hs:w.heap.size<=fhi) (hp:w.heap.size<=plo)
  (hxs:xs.map Ex.nums=i.l.map Ex.nums/\(∀ a∈Bf xs,∀ p:Addr,a.1=some p->w.heap.size<=p.block)/\i.r.n<=cx/\∀ p:Addr,Ax=some p->w.heap.size<=p.block)
  (hab:(plBs i.r.c i.r.p).length<=cb/\∀ p:Addr,Ab=some p->w.heap.size<=p.block)
  (hrq:(∀ p:Addr,Aq=some p->w.heap.size<=p.block)/\∀ p:Addr,An=some p->w.heap.size<=p.block)
  (hit:(itsC i.r.c i.r.p 0 u).length<=ci/\∀ p:Addr,Ai=some p->w.heap.size<=p.block)
  (hM:Mem W [.bel w.heap.size w,.obj gM (.cells #[U O u,U O i.r.c.k,U O i.r.c.mi,.pointer (some ⟨gs,0,none⟩),Us Ax i.r.n cx,.pointer (some ⟨gb,0,none⟩),.pointer (some ⟨gp,0,none⟩),Us Ab (plBs i.r.c i.r.p).length cb,U O i.r.c.ra,U O i.r.c.mo,U O i.r.c.sh,Us (some ⟨gP,0,none⟩) i.r.p cp,Us (some ⟨gm,0,none⟩) i.r.p i.r.p,Us (some ⟨gG,0,none⟩) i.r.p i.r.p,Us (some ⟨gR,0,none⟩) 1 1,Us Ai (itsC i.r.c i.r.p 0 u).length ci,U O 0,U O 0,Us none 0 0] 169 (0,0)),
   vOwn gG i.r.p i.r.p (some ⟨gG,0,none⟩) (AE i.r.p),vOwn w.heap.size i.r.p cp (some ⟨gP,0,none⟩) i.st,vOwn w.heap.size i.r.p i.r.p (some ⟨gm,0,none⟩) (AE i.r.p),.own gR 89 2 (Us (some ⟨gR,0,none⟩) 1 1) 1 [Us Aq i.r.p cq,Us An i.r.p cn],.rd Aq (zC i.st),.rd An (zC (AE i.r.p)),.rd Ai (icells (itsC i.r.c i.r.p 0 u)),.rd Ab (rcells (plBs i.r.c i.r.p)),.rd Ax (Bi xs),AD (Bf xs),EN plo phi gp i.r.c i.r.p,EO fhi shi gb i.r.n i.r.c i.r.ds,E6 flo fhi gs i.r.ns]) :
  ∃ m:Mc,m.f.g=gM/\m.Ok/\m.f.u=u/\m.f.Of i.r/\m.abs=iniA i/\(∀ c∈m.ps,¬ c.mut->∀ g,c.fp g->w.heap.size<=g)/\Mem W (.bel w.heap.size w::m.ps):=by
 have hz:=MW i.r.p;have hst:=hi.st
 have hxl:xs.length=i.r.n:=by
  have:=congrArg List.length hxs.1
  simpa [hi.l.1] using this
 have hA:=((hM.add (c:=.own w.heap.size 3 1 (Us none 0 0) 0 (Ah [])) ⟨Bh _ _ _ _,(hM.bel 0 rfl).size⟩ (fun _ _ _ _ g hg=>by cases hg)).add (c:=AD (Bf [])) (Da (fun a ha=>by cases ha)) (fun _ _ _ _ g hg=>by obtain ⟨a,ha,_⟩:=hg;cases ha))
 have hB:=(hA.famSnoc (i:=16) (j:=6) rfl rfl).famSnoc (i:=16) (j:=7) rfl rfl;refine ⟨⟨⟨gM,u,i.r.c,i.r.p,i.r.ns,flo,fhi,gs,i.r.n,fhi,shi,gb,i.r.ds,plo,phi,gp,Ax,cx,xs,Ab,cb⟩,w.heap.size,gP,cp,i.st,gm,i.r.p,AE i.r.p,gG,gG,AE i.r.p,gR,some ⟨gR,0,none⟩,1,[⟨Aq,i.st,cq,An,AE i.r.p,cn⟩],Ai,ci,0,0,0,w.heap.size,none,0,[]⟩,rfl,?_,rfl,⟨rfl,rfl,rfl,rfl,rfl,hxs.1.trans hi.l.2⟩,rfl,?_,?_⟩
 . refine ⟨⟨hi.c,hi.p,hi.ns,hi.pn,hu,hi.n,hi.ru,hxl,?_,hab.1,hxs.2.2.1⟩,hst,hz,hz,Be (hM.own 3 rfl),Agg _,fun e he=>?_,fun h=>?_,fun _=>rfl,Nat.zero_le _,Agg _,Agg _,hit.1⟩
   . obtain ⟨a,b,h1,h2,h3⟩:=hi.ex;refine ⟨a,b,h1,h2,fun e he=>?_⟩;have:e.nums∈i.l.map Ex.nums:=by rw [<- hxs.1];exact List.mem_map.2 ⟨e,he,rfl⟩
     obtain ⟨e',he',hn⟩:=List.mem_map.1 this;injection hn with n1 n2
     have:=h3 e' he'
     rwa [n1,n2] at this
   . have:=List.mem_singleton.1 he;subst this;exact ⟨hst.1,hz.1⟩
   . show 0<(Bo _ 0).length;unfold Bo;rw [if_pos h];exact He _ _ _ _
 . intro c hc hm g hg;simp only [Mc.ps,Agi,Agj,or_false] at hc
   rcases hc with rfl | rfl | rfl | rfl | rfl | rfl | rfl | rfl | rfl | rfl | rfl | rfl | rfl | rfl
   . exact absurd trivial hm
   . exact absurd trivial hm
   . exact absurd trivial hm
   . exact absurd trivial hm
   . exact absurd trivial hm
   . obtain ⟨a,ha,_,p,hp,rfl⟩:=hg;simp [Bf] at ha
     rcases ha with rfl | rfl
     . exact hrq.1 p hp
     . exact hrq.2 p hp
   . obtain ⟨_,p,hp,rfl⟩:=hg;exact hit.2 p hp
   . exact absurd trivial hm
   . obtain ⟨_,p,hp,rfl⟩:=hg;exact hab.2 p hp
   . obtain ⟨_,p,hp,rfl⟩:=hg;exact hxs.2.2.2 p hp
   . obtain ⟨a,ha,_,p,hp,rfl⟩:=hg;exact hxs.2.1 a ha p hp
   . exact Agf hp hg.1
   . exact Agf hs hg.1
   . exact Agf hf hg.1
 . have h9:=hB.pick [0,1,2,3,4,5,16,8,15,9,10,11,12,13,14] [.bel w.heap.size w,.obj gM (.cells #[U O u,U O i.r.c.k,U O i.r.c.mi,.pointer (some ⟨gs,0,none⟩),Us Ax i.r.n cx,.pointer (some ⟨gb,0,none⟩),.pointer (some ⟨gp,0,none⟩),Us Ab (plBs i.r.c i.r.p).length cb,U O i.r.c.ra,U O i.r.c.mo,U O i.r.c.sh,Us (some ⟨gP,0,none⟩) i.r.p cp,Us (some ⟨gm,0,none⟩) i.r.p i.r.p,Us (some ⟨gG,0,none⟩) i.r.p i.r.p,Us (some ⟨gR,0,none⟩) 1 1,Us Ai (itsC i.r.c i.r.p 0 u).length ci,U O 0,U O 0,Us none 0 0] 169 (0,0)),vOwn gG i.r.p i.r.p (some ⟨gG,0,none⟩) (AE i.r.p),vOwn w.heap.size i.r.p cp (some ⟨gP,0,none⟩) i.st,vOwn w.heap.size i.r.p i.r.p (some ⟨gm,0,none⟩) (AE i.r.p),.own gR 89 2 (Us (some ⟨gR,0,none⟩) 1 1) 1 [Us Aq i.r.p cq,Us An i.r.p cn],AD ((Bf []++[(Aq,zC i.st)])++[(An,zC (AE i.r.p))]),.rd Ai (icells (itsC i.r.c i.r.p 0 u)),.own w.heap.size 3 1 (Us none 0 0) 0 (Ah []),.rd Ab (rcells (plBs i.r.c i.r.p)),.rd Ax (Bi xs),AD (Bf xs),EN plo phi gp i.r.c i.r.p,EO fhi shi gb i.r.n i.r.c i.r.ds,E6 flo fhi gs i.r.ns] rfl (by decide)
   refine Mem.cast h9 ?_;simp only [Mc.ps,Bi,List.flatMap_cons,List.flatMap_nil,Ex.cells,hst.1,hz.1];rfl
theorem Tw (w:World) (i:Inp) (hi:i.Ok) (ha:i.At w) (u:Nat) (hu:u<i.r.c.k) :
  Calls Tryz.prog 29 #[.agg i.cells.toArray,U O u] w fun e w'=>∃ m:Mc,e=.returned (.tuple #[.pointer (some ⟨m.f.g,0,none⟩),U O 0])/\m.Ok/\m.f.u=u/\m.f.Of i.r/\m.abs=iniA i/\(∀ c∈m.ps,¬ c.mut->∀ g,c.fp g->w.heap.size<=g)/\Mem w' (.bel w.heap.size w::m.ps):=by
 have hA:=ha
 have CI:Hid (∀ W,Below w.heap.size w W->Calls Tryz.prog 28 #[.agg i.cells.toArray] W fun e w'=>e=.returned (U O 0)/\Below W.heap.size W w'):=K1 (fun W hb=>by
  have h0:=ha.below hb;have hl:=hi.l.1;have h2:=Lo i.A i.DA i.SA i.RA i.cap i.dcap i.r.p i.scap i.r.ds.length i.rcap (AX i.r.ns) i.l i.r.c.sh i.r.c.ra i.r.c.mo i.r.c.k i.r.c.ba i.r.c.mi i.r.c.st i.r.c.bu i.r.c.s i.r.c.wi i.r.c.ca W h0.ns (by simpa using hi.cap) (by have:=hi.ns.len;simp;omega) h0.l (by have:=hi.n.1;omega) hi.conf;rw [show AT (AX i.r.ns) ⟨i.r.c.sh,0,0,i.r.c.k,i.r.c.ba,i.r.c.mi,i.r.c.st,i.r.c.bu,i.r.c.s,i.r.c.wi,i.r.c.ca⟩=0 from hi.conf,hi.input] at h2;simp only [Agm] at h2;rw [hl] at h2
  exact h2)
 have CS:Hid (∀ W,Below w.heap.size w W->Calls Tryz.prog 59 #[Us i.A i.r.ns.length i.cap] W fun e w'=>∃ g,e=.returned (.tuple #[.pointer (some ⟨g,0,none⟩),U O 0])/\BE w' W.heap.size w'.heap.size g i.r.ns/\Below W.heap.size W w'):=K1 (fun W hb=>by
  have h2:=K2 i.A i.cap (AX i.r.ns) W (ha.below hb).ns (by simpa using hi.cap) (by have:=hi.ns.len;simp;omega);simp only [Agm] at h2;refine h2.mono fun e w' h3=>?_;obtain ⟨g,rfl,hs⟩:=h3.2.1 hi.shape
  exact ⟨g,rfl,BE.of_from hs (by have:=hi.ns.len;omega),h3.1⟩)
 have CSa:=K1 (fun W (hb:Below w.heap.size w W)=>Py i.r.n i.r.c.ba i.r.c.st i.r.ds.length i.rcap i.RA i.r.ds W (ha.below hb).ds rfl hi.ds.2 ⟨by have:=hi.c.ba;have:=hi.c.k;have:=hi.n;omega,hi.n.1⟩ ⟨by have:=hi.c.ba;have:=hi.c.k;omega,hi.n.2⟩ hi.c.st hi.ds.1);have CC:=K1 (fun W (lo hi' g:Nat) (hF:BE W lo hi' g i.r.ns)=>Ji W lo hi' g i.r.ns hF);rw [<- hi.pn] at CC
 have CP:Hid (∀ W,Below w.heap.size w W->Calls Tryz.prog 64 #[.agg #[Us i.A i.r.ns.length i.cap,U O i.r.c.sh,U O i.r.c.ra,U O i.r.c.mo,U O i.r.c.k,U O i.r.c.ba,U O i.r.c.mi,U O i.r.c.st,U O i.r.c.bu,U O i.r.c.s,U O i.r.c.wi,U O i.r.c.ca],U O i.r.p] W fun e w'=>∃ gp,e=.returned (.tuple #[.pointer (some ⟨gp,0,none⟩),.bool true])/\Cx w' W.heap.size w'.heap.size gp i.r.c i.r.p/\Below W.heap.size W w'):=K1 (fun W hb=>by
  have h2:=Pu i.r.c hi.c (AX i.r.ns) i.A i.cap i.r.p hi.p W (ha.below hb).ns (by simpa using hi.cap) (by have:=hi.ns.len;simp;omega) hi.conf;simp only [Agm] at h2
  exact h2)
 have CSt:=K1 (fun W (hb:Below w.heap.size w W)=>QN W i.SA i.r.p i.scap i.st (ha.below hb).st hi.st.1 (by have:=hi.p;omega))
 have CD:=K1 (fun W (hb:Below w.heap.size w W)=>RB W i.DA i.r.n i.dcap i.l (ha.below hb).l.1 (ha.below hb).fam hi.l.1 (by have:=hi.n;omega) (fun e he=>by
  obtain ⟨a,b,h1,h2,h3⟩:=hi.ex;obtain ⟨e1,e2,_⟩:=h3 e he;have:=nsle hi.ns h1;have:=nsle hi.ns h2
  omega))
 have CB:=K1 (fun W (lo hi' gp:Nat) (hP:Cx W lo hi' gp i.r.c i.r.p) (hh:hi'<=W.heap.size)=>P2 W lo hi' gp i.r.c i.r.p hP hh hi.c hi.p.2);have CZ:=K1 (fun W (A B:Option Addr) (ca cb:Nat) hA hB=>Jl W A B i.r.p ca cb i.st (AE i.r.p) hA hB hi.st.1 (by simp [AE]) (by have:=hi.p;omega));have hmk:=Ga i.r.p (by have:=hi.p;omega);have HP60:=K1 (show i.r.p<=1048576 by have:=hi.p;omega);have hpp:=hi.p;have huk:¬ i.r.c.k<=u:=by omega
 have HI:=K1 hi;have HM:=K1 ((Agl w).alloc (.cells i.cells.toArray 29));dsimp only [Inp.cells] at *;clear ha hA hi;go_enter Tryz.func29,Tryz.ntmps29;have c1:=HM.out.cells 1 rfl;go_wp2_with fail;refine (CI.out _ (HM.out.bel 0 rfl)).mono ?_;rintro e w1 ⟨rfl,hb⟩;replace HM:=K1 (HM.out.below hb);clear hb CI c1;have c1:=HM.out.cells 1 rfl;replace HM:=K1 (HM.out.alloc (.cells #[Us i.A i.r.ns.length i.cap,U O i.r.c.sh,U O i.r.c.ra,U O i.r.c.mo,U O i.r.c.k,U O i.r.c.ba,U O i.r.c.mi,U O i.r.c.st,U O i.r.c.bu,U O i.r.c.s,U O i.r.c.wi,U O i.r.c.ca] 24));have c2:=HM.out.cells 2 rfl
 generalize hg2:w1.heap.size=g2 at *;go_wp2_with fail;refine Dw fun W2 hW2=>?_;replace HM:=K1 (HM.out.inW hW2.out);clear hW2 c1 c2 hg2;refine (CS.out _ (HM.out.bel 0 rfl)).mono ?_;rintro e w3 ⟨gs,rfl,hF,hb⟩;have HLf:=K1 (HM.out.bel 0 rfl).size;replace HM:=K1 (HM.out.push hb (c:=E6 W2.heap.size w3.heap.size gs i.r.ns) (Rs hF (Agg _)) (fun g hg=>hg.1));clear hb hF CS;generalize hlo3:W2.heap.size=flo at *;generalize hhi3:w3.heap.size=fhi at *;clear hlo3;have c1:=HM.out.cells 1 rfl;have c2:=HM.out.cells 2 rfl;go_wp2_with fail;refine (CSa.out _ (HM.out.bel 0 rfl)).mono ?_;rintro e w4 ⟨gb,rfl,hS,hb⟩
 have HLs:=K1 (HM.out.bel 0 rfl).size;rw [hhi3] at HLs;replace HM:=K1 (HM.out.push hb (c:=EO w3.heap.size w4.heap.size gb i.r.n i.r.c i.r.ds) (Rr hS (Agg _)) (fun g hg=>hg.1));rw [hhi3] at HM;generalize w4.heap.size=shi at *;clear hb hS CSa c1 c2 hhi3;go_wp2_with fail;refine A9 fun W0 hW=>?_;replace HM:=K1 (hW.out.symm ▸ HM.out);clear hW
 refine AC (.reads [0,1] (.eff 2 (.eff 3 (.reads [4,5,6,7,8] .fin)))) 9 (fun W'=>∀ k,W'.cell? ⟨g2,k,none⟩=([Us i.A i.r.ns.length i.cap,U O i.r.c.sh,U O i.r.c.ra,U O i.r.c.mo,U O i.r.c.k,U O i.r.c.ba,U O i.r.c.mi,U O i.r.c.st,U O i.r.c.bu,U O i.r.c.s,U O i.r.c.wi,U O i.r.c.ca]:List Value)[k]?) ?_;replace HM:=K1 HM.out.drew;generalize W0.drew=V at *;refine PlS.rd_ (HM.out.cells 2 rfl) ?_;refine Agc ?_;go_wp2_with fail;refine (CC.out _ _ _ _ (HM.out.st 3 rfl)).mono ?_;rintro e w5 ⟨rfl,rfl⟩;go_wp2_with fail;refine Agd (HM.out.cells 2 rfl) ?_;refine Agc ?_;go_wp2_with fail
 refine (CP.out _ (HM.out.bel 0 rfl)).mono ?_;rintro e w6 ⟨gp,rfl,hP,hb⟩;have HLp:=K1 (HM.out.bel 0 rfl).size;replace HM:=K1 (HM.out.push hb (c:=EN V.heap.size w6.heap.size gp i.r.c i.r.p) (Rq hP (Agg _)) (fun g hg=>hg.1));clear hb hP CP;generalize V.heap.size=plo at *;generalize w6.heap.size=phi at *;go_wp2_with fail;refine Agd (HM.out.cells 2 rfl) ?_;refine Age (HM.out.cells 2 rfl) ?_;refine Agh ?_;have c1:=HM.out.cells 1 rfl;go_wp2_with fail;refine (CSt.out _ (HM.out.bel 0 rfl)).mono ?_;rintro e w7 ⟨Ap,cp,gm,rfl,hm7⟩;have hg7:=(HM.out.bel 0 rfl).size
 replace HM:=K1 (((HM.out.join hm7 (fun c hc hm=>by
  simp only [Agi,Agj,or_false] at hc
  rcases hc with rfl | rfl <;> exact absurd trivial hm)).lower (i:=6) rfl hg7).lower (i:=7) rfl hg7)
 obtain ⟨gP,rfl⟩:=HM.out.ownA (n:=i.r.p) 6 rfl (by omega);clear hm7 hg7 CSt c1;replace HM:=K1 (HM.out.alloc (.cells #[Us (some ⟨gP,0,none⟩) i.r.p cp,Us (some ⟨gm,0,none⟩) i.r.p i.r.p] 89));generalize hg8:w7.heap.size=g8 at *;have c1:=HM.out.cells 1 rfl;go_wp2_with fail
 replace HM:=K1 (show Mem _ [.bel w.heap.size w,.obj w.heap.size (.cells #[Us i.A i.r.ns.length i.cap,U O i.r.c.sh,U O i.r.c.ra,U O i.r.c.mo,U O i.r.c.k,U O i.r.c.ba,U O i.r.c.mi,U O i.r.c.st,U O i.r.c.bu,U O i.r.c.s,U O i.r.c.wi,U O i.r.c.ca,Us i.DA i.r.n i.dcap,Us i.SA i.r.p i.scap,Us i.RA i.r.ds.length i.rcap] 29 (0,0)),.obj g2 (.cells #[Us i.A i.r.ns.length i.cap,U O i.r.c.sh,U O i.r.c.ra,U O i.r.c.mo,U O i.r.c.k,U O i.r.c.ba,U O i.r.c.mi,U O i.r.c.st,U O i.r.c.bu,U O i.r.c.s,U O i.r.c.wi,U O i.r.c.ca] 24 (0,0)),E6 flo fhi gs i.r.ns,EO fhi shi gb i.r.n i.r.c i.r.ds,EN plo phi gp i.r.c i.r.p,vOwn w.heap.size i.r.p cp (some ⟨gP,0,none⟩) i.st,vOwn w.heap.size i.r.p i.r.p (some ⟨gm,0,none⟩) (AE i.r.p),.obj g8 (.cells #[Us (some ⟨gP,0,none⟩) i.r.p cp,Us (some ⟨gm,0,none⟩) i.r.p i.r.p] 89 (0,0))] from HM.out)
 refine A9 fun W8 hW=>?_;replace HM:=K1 (hW.out.symm ▸ HM.out);clear hW c1 hg8
 refine AC (.reads [0,1,2,3,4,5,6,7,9,10,11,13,14,15,16,17,18,19,21,22,25,28,29] (.eff 8 (.eff 12 (.reads [20] (.eff 23 (.two 24 26 (.eff 26 (.two 27 30 (.eff 30 (.reads [31] (.eff 32 (.reads [33] (.fin))))) (.eff 27 (.reads [31] (.eff 32 (.reads [33] (.fin))))))) (.three 24 27 30 (.two 27 30 (.eff 30 (.reads [31] (.eff 32 (.reads [33] (.fin))))) (.eff 27 (.reads [31] (.eff 32 (.reads [33] (.fin)))))) (.two 24 30 (.eff 30 (.reads [31] (.eff 32 (.reads [33] (.fin))))) (.eff 24 (.reads [31] (.eff 32 (.reads [33] (.fin)))))) (.two 24 27 (.eff 27 (.reads [31] (.eff 32 (.reads [33] (.fin))))) (.eff 24 (.reads [31] (.eff 32 (.reads [33] (.fin))))))))))))) 34 (fun W'=>(∀ k,W'.cell? ⟨w.heap.size,k,none⟩=([Us i.A i.r.ns.length i.cap,U O i.r.c.sh,U O i.r.c.ra,U O i.r.c.mo,U O i.r.c.k,U O i.r.c.ba,U O i.r.c.mi,U O i.r.c.st,U O i.r.c.bu,U O i.r.c.s,U O i.r.c.wi,U O i.r.c.ca,Us i.DA i.r.n i.dcap,Us i.SA i.r.p i.scap,Us i.RA i.r.ds.length i.rcap]:List Value)[k]?)/\(∀ k,W'.cell? ⟨g2,k,none⟩=([Us i.A i.r.ns.length i.cap,U O i.r.c.sh,U O i.r.c.ra,U O i.r.c.mo,U O i.r.c.k,U O i.r.c.ba,U O i.r.c.mi,U O i.r.c.st,U O i.r.c.bu,U O i.r.c.s,U O i.r.c.wi,U O i.r.c.ca]:List Value)[k]?)/\(∀ k,W'.cell? ⟨g8,k,none⟩=([Us (some ⟨gP,0,none⟩) i.r.p cp,Us (some ⟨gm,0,none⟩) i.r.p i.r.p]:List Value)[k]?)) ?_
 replace HM:=K1 HM.out.drew;generalize W8.drew=V8 at *;refine PlS.rd_ ⟨HM.out.cells 1 rfl,HM.out.cells 2 rfl,HM.out.cells 8 rfl⟩ ?_;refine Agc ?_;go_wp2_with fail;refine (CD.out _ (HM.out.bel 0 rfl)).mono ?_;rintro e w9 ⟨Ax,cx,xs,rfl,hxs,hfx,hm9⟩;have hg9:=(HM.out.bel 0 rfl).size
 replace HM:=K1 ((HM.out.join hm9 (fun c hc hm g hg=>by
  simp only [Agi,Agj,or_false] at hc
  rcases hc with rfl | rfl
  . exact absurd trivial hm
  . obtain ⟨a,ha,_,p,hp,rfl⟩:=hg
    exact hfx a ha p hp)).freeze (i:=9) rfl)
 have HXS:=K1 (show xs.map Ex.nums=i.l.map Ex.nums/\(∀ a∈Bf xs,∀ p:Addr,a.1=some p->w.heap.size<=p.block)/\i.r.n<=cx/\∀ p:Addr,Ax=some p->w.heap.size<=p.block from ⟨hxs,fun a ha p hp=>Agf hg9 (hfx a ha p hp),Be (hm9.own 1 rfl),fun p hp=>Agf hg9 (AF (hm9.own 1 rfl) p hp)⟩);clear hxs hfx hm9 CD hg9;go_wp2_with fail;refine Agd ⟨HM.out.cells 1 rfl,HM.out.cells 2 rfl,HM.out.cells 8 rfl⟩ ?_;refine Agc ?_;go_wp2_with fail;have hph:phi<=w9.heap.size:=DL (HM.out.holds 5 _ rfl) (HM.out.st 5 rfl).in_;refine (CB.out _ _ _ _ (HM.out.st 5 rfl) hph).mono ?_;rintro e w10 ⟨Ab,cb,rfl,hv,hcb,hb⟩
 have hgb:=(HM.out.bel 0 rfl).size;have HAb:=K1 (show _/\∀ p:Addr,Ab=some p->w.heap.size<=p.block from ⟨hcb,fun p hp=>Agf hgb (AF hv p hp)⟩);clear hgb;replace HM:=K1 (HM.out.push_rd hb (AJ hv) (AF hv));clear hv hb hcb hph CB
 replace HM:=K1 (show Mem _ [.bel w.heap.size w,.obj w.heap.size (.cells #[Us i.A i.r.ns.length i.cap,U O i.r.c.sh,U O i.r.c.ra,U O i.r.c.mo,U O i.r.c.k,U O i.r.c.ba,U O i.r.c.mi,U O i.r.c.st,U O i.r.c.bu,U O i.r.c.s,U O i.r.c.wi,U O i.r.c.ca,Us i.DA i.r.n i.dcap,Us i.SA i.r.p i.scap,Us i.RA i.r.ds.length i.rcap] 29 (0,0)),.obj g2 (.cells #[Us i.A i.r.ns.length i.cap,U O i.r.c.sh,U O i.r.c.ra,U O i.r.c.mo,U O i.r.c.k,U O i.r.c.ba,U O i.r.c.mi,U O i.r.c.st,U O i.r.c.bu,U O i.r.c.s,U O i.r.c.wi,U O i.r.c.ca] 24 (0,0)),E6 flo fhi gs i.r.ns,EO fhi shi gb i.r.n i.r.c i.r.ds,EN plo phi gp i.r.c i.r.p,vOwn w.heap.size i.r.p cp (some ⟨gP,0,none⟩) i.st,vOwn w.heap.size i.r.p i.r.p (some ⟨gm,0,none⟩) (AE i.r.p),.obj g8 (.cells #[Us (some ⟨gP,0,none⟩) i.r.p cp,Us (some ⟨gm,0,none⟩) i.r.p i.r.p] 89 (0,0)),.rd Ax (Bi xs),AD (Bf xs),.rd Ab (rcells (plBs i.r.c i.r.p))] from HM.out)
 go_wp2_with fail;refine Agd ⟨HM.out.cells 1 rfl,HM.out.cells 2 rfl,HM.out.cells 8 rfl⟩ ?_;refine Age ⟨HM.out.cells 1 rfl,HM.out.cells 2 rfl,HM.out.cells 8 rfl⟩ ?_;refine Agc ?_;go_wp2_with fail;refine (CC.out _ _ _ _ (HM.out.st 3 rfl)).mono ?_;rintro e w11 ⟨rfl,rfl⟩;clear CC;go_wp2_with fail;refine Agd ⟨HM.out.cells 1 rfl,HM.out.cells 2 rfl,HM.out.cells 8 rfl⟩ ?_;refine Agk ?_ ?_
 . refine Agc ?_;go_wp2_with fail;refine AH fun wx0 hW=>?_;replace HM:=K1 (HM.out.zero_ hW.out HP60.out);generalize hgg:w10.heap.size=gG at *;clear hW hgg;refine Agd ⟨HM.out.cells 1 rfl,HM.out.cells 2 rfl,HM.out.cells 8 rfl⟩ ?_;refine Agc ?_;go_wp2_with fail;refine (CZ.out _ _ _ _ _ (AJ (HM.out.own 6 rfl)) (AJ (HM.out.own 7 rfl))).mono ?_;rintro e wx1 ⟨Aq,cq,An,cn,rfl,hmz⟩;have hgz:=(HM.out.bel 0 rfl).size
   have HRQ:=K1 (show (∀ p:Addr,Aq=some p->w.heap.size<=p.block)/\∀ p:Addr,An=some p->w.heap.size<=p.block from ⟨fun p hp=>Agf hgz (AF (hmz.own 1 rfl) p hp),fun p hp=>Agf hgz (AF (hmz.own 2 rfl) p hp)⟩)
   replace HM:=K1 (((HM.out.join hmz (fun c hc hm=>by
    simp only [Agi,Agj,or_false] at hc
    rcases hc with rfl | rfl <;> exact absurd trivial hm)).freeze (i:=13) rfl).freeze (i:=14) rfl)
   clear hmz CZ hgz;go_wp2_with fail;refine Agd ⟨HM.out.cells 1 rfl,HM.out.cells 2 rfl,HM.out.cells 8 rfl⟩ ?_;refine Agk ?_ ?_
   . refine Agc ?_;go_wp2_with fail;refine AH fun wx2 hW=>?_;replace HM:=K1 (HM.out.row2 hW.out);generalize hgr:wx1.heap.size=gR at *;clear hW hgr;refine Agd ⟨HM.out.cells 1 rfl,HM.out.cells 2 rfl,HM.out.cells 8 rfl⟩ ?_;refine Agc ?_;go_wp2_with fail;have hph:phi<=wx2.heap.size:=DL (HM.out.holds 5 _ rfl) (HM.out.st 5 rfl).in_;refine (ET i.r.c i.r.p u 0 plo phi gp _ HI.out.c HI.out.p.2 hu (HM.out.st 5 rfl) hph).mono ?_;rintro e wx3 ⟨Ai,ci,rfl,hci,hri,hAi,hbi⟩;have hgi:=(HM.out.bel 0 rfl).size;have HIT:=K1 (show _/\∀ p:Addr,Ai=some p->w.heap.size<=p.block from ⟨hci,fun p hp=>Agf hgi (hAi p hp)⟩)
     replace HM:=K1 (HM.out.push_rd hbi hri hAi);clear hbi hri hAi hci hph hgi;go_wp2_with fail;refine Agd ⟨HM.out.cells 1 rfl,HM.out.cells 2 rfl,HM.out.cells 8 rfl⟩ ?_;refine Age ⟨HM.out.cells 1 rfl,HM.out.cells 2 rfl,HM.out.cells 8 rfl⟩ ?_;refine Agc ?_;go_wp2_with fail;refine AH fun wx4 hW=>?_;replace HM:=K1 (HM.out.alloc_ hW.out);generalize hgm:wx3.heap.size=gM at *;clear hW hgm;refine Agd ⟨HM.out.cells 1 rfl,HM.out.cells 2 rfl,HM.out.cells 8 rfl⟩ ?_;refine Age ⟨HM.out.cells 1 rfl,HM.out.cells 2 rfl,HM.out.cells 8 rfl⟩ ?_;refine Agh ?_;go_wp2_with fail
     go_ret2
     obtain ⟨m,m1,m2,m3,m4,m5,m6,m7⟩:=EA w wx4 i HI.out u hu gM gs gb gp flo fhi shi plo phi gP cp gm gG gR Aq cq An cn Ai ci Ab cb Ax cx xs HLf.out HLs.out HLp.out HXS.out HAb.out HRQ.out HIT.out (HM.out.pick [0,17,12,6,7,15,13,14,16,11,9,10,5,4,3] _ rfl (by decide));exact ⟨m,by rw [m1];rfl,m2,m3,m4,m5,m6,m7⟩
   . refine Agc ?_;go_wp2_with fail;have hph:phi<=wx1.heap.size:=DL (HM.out.holds 5 _ rfl) (HM.out.st 5 rfl).in_;refine (ET i.r.c i.r.p u 0 plo phi gp _ HI.out.c HI.out.p.2 hu (HM.out.st 5 rfl) hph).mono ?_;rintro e wx5 ⟨Ai,ci,rfl,hci,hri,hAi,hbi⟩;have hgi:=(HM.out.bel 0 rfl).size;have HIT:=K1 (show _/\∀ p:Addr,Ai=some p->w.heap.size<=p.block from ⟨hci,fun p hp=>Agf hgi (hAi p hp)⟩);replace HM:=K1 (HM.out.push_rd hbi hri hAi);clear hbi hri hAi hci hph hgi;go_wp2_with fail;refine Agd ⟨HM.out.cells 1 rfl,HM.out.cells 2 rfl,HM.out.cells 8 rfl⟩ ?_;refine Agc ?_;go_wp2_with fail
     refine AH fun wx6 hW=>?_;replace HM:=K1 (HM.out.row2 hW.out);generalize hgr:wx5.heap.size=gR at *;clear hW hgr;refine Agd ⟨HM.out.cells 1 rfl,HM.out.cells 2 rfl,HM.out.cells 8 rfl⟩ ?_;refine Age ⟨HM.out.cells 1 rfl,HM.out.cells 2 rfl,HM.out.cells 8 rfl⟩ ?_;refine Agc ?_;go_wp2_with fail;refine AH fun wx7 hW=>?_;replace HM:=K1 (HM.out.alloc_ hW.out);generalize hgm:wx6.heap.size=gM at *;clear hW hgm;refine Agd ⟨HM.out.cells 1 rfl,HM.out.cells 2 rfl,HM.out.cells 8 rfl⟩ ?_;refine Age ⟨HM.out.cells 1 rfl,HM.out.cells 2 rfl,HM.out.cells 8 rfl⟩ ?_;refine Agh ?_;go_wp2_with fail
     go_ret2
     obtain ⟨m,m1,m2,m3,m4,m5,m6,m7⟩:=EA w wx7 i HI.out u hu gM gs gb gp flo fhi shi plo phi gP cp gm gG gR Aq cq An cn Ai ci Ab cb Ax cx xs HLf.out HLs.out HLp.out HXS.out HAb.out HRQ.out HIT.out (HM.out.pick [0,17,12,6,7,16,13,14,15,11,9,10,5,4,3] _ rfl (by decide));exact ⟨m,by rw [m1];rfl,m2,m3,m4,m5,m6,m7⟩
 . refine Agc ?_;go_wp2_with fail;refine (CZ.out _ _ _ _ _ (AJ (HM.out.own 6 rfl)) (AJ (HM.out.own 7 rfl))).mono ?_;rintro e wx8 ⟨Aq,cq,An,cn,rfl,hmz⟩;have hgz:=(HM.out.bel 0 rfl).size;have HRQ:=K1 (show (∀ p:Addr,Aq=some p->w.heap.size<=p.block)/\∀ p:Addr,An=some p->w.heap.size<=p.block from ⟨fun p hp=>Agf hgz (AF (hmz.own 1 rfl) p hp),fun p hp=>Agf hgz (AF (hmz.own 2 rfl) p hp)⟩)
   replace HM:=K1 (((HM.out.join hmz (fun c hc hm=>by
    simp only [Agi,Agj,or_false] at hc
    rcases hc with rfl | rfl <;> exact absurd trivial hm)).freeze (i:=12) rfl).freeze (i:=13) rfl)
   clear hmz CZ hgz;go_wp2_with fail;refine Agd ⟨HM.out.cells 1 rfl,HM.out.cells 2 rfl,HM.out.cells 8 rfl⟩ ?_;refine PlS.three_ ?_ ?_ ?_
   . refine Agc ?_;go_wp2_with fail;refine AH fun wx9 hW=>?_;replace HM:=K1 (HM.out.zero_ hW.out HP60.out);generalize hgg:wx8.heap.size=gG at *;clear hW hgg;refine Agd ⟨HM.out.cells 1 rfl,HM.out.cells 2 rfl,HM.out.cells 8 rfl⟩ ?_;refine Agk ?_ ?_
     . refine Agc ?_;go_wp2_with fail;refine AH fun wx10 hW=>?_;replace HM:=K1 (HM.out.row2 hW.out);generalize hgr:wx9.heap.size=gR at *;clear hW hgr;refine Agd ⟨HM.out.cells 1 rfl,HM.out.cells 2 rfl,HM.out.cells 8 rfl⟩ ?_;refine Agc ?_;go_wp2_with fail;have hph:phi<=wx10.heap.size:=DL (HM.out.holds 5 _ rfl) (HM.out.st 5 rfl).in_;refine (ET i.r.c i.r.p u 0 plo phi gp _ HI.out.c HI.out.p.2 hu (HM.out.st 5 rfl) hph).mono ?_;rintro e wx11 ⟨Ai,ci,rfl,hci,hri,hAi,hbi⟩;have hgi:=(HM.out.bel 0 rfl).size
       have HIT:=K1 (show _/\∀ p:Addr,Ai=some p->w.heap.size<=p.block from ⟨hci,fun p hp=>Agf hgi (hAi p hp)⟩);replace HM:=K1 (HM.out.push_rd hbi hri hAi);clear hbi hri hAi hci hph hgi;go_wp2_with fail;refine Agd ⟨HM.out.cells 1 rfl,HM.out.cells 2 rfl,HM.out.cells 8 rfl⟩ ?_;refine Age ⟨HM.out.cells 1 rfl,HM.out.cells 2 rfl,HM.out.cells 8 rfl⟩ ?_;refine Agc ?_;go_wp2_with fail;refine AH fun wx12 hW=>?_;replace HM:=K1 (HM.out.alloc_ hW.out);generalize hgm:wx11.heap.size=gM at *;clear hW hgm;refine Agd ⟨HM.out.cells 1 rfl,HM.out.cells 2 rfl,HM.out.cells 8 rfl⟩ ?_
       refine Age ⟨HM.out.cells 1 rfl,HM.out.cells 2 rfl,HM.out.cells 8 rfl⟩ ?_;refine Agh ?_;go_wp2_with fail
       go_ret2
       obtain ⟨m,m1,m2,m3,m4,m5,m6,m7⟩:=EA w wx12 i HI.out u hu gM gs gb gp flo fhi shi plo phi gP cp gm gG gR Aq cq An cn Ai ci Ab cb Ax cx xs HLf.out HLs.out HLp.out HXS.out HAb.out HRQ.out HIT.out (HM.out.pick [0,17,14,6,7,15,12,13,16,11,9,10,5,4,3] _ rfl (by decide));exact ⟨m,by rw [m1];rfl,m2,m3,m4,m5,m6,m7⟩
     . refine Agc ?_;go_wp2_with fail;have hph:phi<=wx9.heap.size:=DL (HM.out.holds 5 _ rfl) (HM.out.st 5 rfl).in_;refine (ET i.r.c i.r.p u 0 plo phi gp _ HI.out.c HI.out.p.2 hu (HM.out.st 5 rfl) hph).mono ?_;rintro e wx13 ⟨Ai,ci,rfl,hci,hri,hAi,hbi⟩;have hgi:=(HM.out.bel 0 rfl).size;have HIT:=K1 (show _/\∀ p:Addr,Ai=some p->w.heap.size<=p.block from ⟨hci,fun p hp=>Agf hgi (hAi p hp)⟩);replace HM:=K1 (HM.out.push_rd hbi hri hAi);clear hbi hri hAi hci hph hgi;go_wp2_with fail;refine Agd ⟨HM.out.cells 1 rfl,HM.out.cells 2 rfl,HM.out.cells 8 rfl⟩ ?_;refine Agc ?_;go_wp2_with fail
       refine AH fun wx14 hW=>?_;replace HM:=K1 (HM.out.row2 hW.out);generalize hgr:wx13.heap.size=gR at *;clear hW hgr;refine Agd ⟨HM.out.cells 1 rfl,HM.out.cells 2 rfl,HM.out.cells 8 rfl⟩ ?_;refine Age ⟨HM.out.cells 1 rfl,HM.out.cells 2 rfl,HM.out.cells 8 rfl⟩ ?_;refine Agc ?_;go_wp2_with fail;refine AH fun wx15 hW=>?_;replace HM:=K1 (HM.out.alloc_ hW.out);generalize hgm:wx14.heap.size=gM at *;clear hW hgm;refine Agd ⟨HM.out.cells 1 rfl,HM.out.cells 2 rfl,HM.out.cells 8 rfl⟩ ?_;refine Age ⟨HM.out.cells 1 rfl,HM.out.cells 2 rfl,HM.out.cells 8 rfl⟩ ?_;refine Agh ?_;go_wp2_with fail
       go_ret2
       obtain ⟨m,m1,m2,m3,m4,m5,m6,m7⟩:=EA w wx15 i HI.out u hu gM gs gb gp flo fhi shi plo phi gP cp gm gG gR Aq cq An cn Ai ci Ab cb Ax cx xs HLf.out HLs.out HLp.out HXS.out HAb.out HRQ.out HIT.out (HM.out.pick [0,17,14,6,7,16,12,13,15,11,9,10,5,4,3] _ rfl (by decide));exact ⟨m,by rw [m1];rfl,m2,m3,m4,m5,m6,m7⟩
   . refine Agc ?_;go_wp2_with fail;refine AH fun wx16 hW=>?_;replace HM:=K1 (HM.out.row2 hW.out);generalize hgr:wx8.heap.size=gR at *;clear hW hgr;refine Agd ⟨HM.out.cells 1 rfl,HM.out.cells 2 rfl,HM.out.cells 8 rfl⟩ ?_;refine Agk ?_ ?_
     . refine Agc ?_;go_wp2_with fail;refine AH fun wx17 hW=>?_;replace HM:=K1 (HM.out.zero_ hW.out HP60.out);generalize hgg:wx16.heap.size=gG at *;clear hW hgg;refine Agd ⟨HM.out.cells 1 rfl,HM.out.cells 2 rfl,HM.out.cells 8 rfl⟩ ?_;refine Agc ?_;go_wp2_with fail;have hph:phi<=wx17.heap.size:=DL (HM.out.holds 5 _ rfl) (HM.out.st 5 rfl).in_;refine (ET i.r.c i.r.p u 0 plo phi gp _ HI.out.c HI.out.p.2 hu (HM.out.st 5 rfl) hph).mono ?_;rintro e wx18 ⟨Ai,ci,rfl,hci,hri,hAi,hbi⟩;have hgi:=(HM.out.bel 0 rfl).size
       have HIT:=K1 (show _/\∀ p:Addr,Ai=some p->w.heap.size<=p.block from ⟨hci,fun p hp=>Agf hgi (hAi p hp)⟩);replace HM:=K1 (HM.out.push_rd hbi hri hAi);clear hbi hri hAi hci hph hgi;go_wp2_with fail;refine Agd ⟨HM.out.cells 1 rfl,HM.out.cells 2 rfl,HM.out.cells 8 rfl⟩ ?_;refine Age ⟨HM.out.cells 1 rfl,HM.out.cells 2 rfl,HM.out.cells 8 rfl⟩ ?_;refine Agc ?_;go_wp2_with fail;refine AH fun wx19 hW=>?_;replace HM:=K1 (HM.out.alloc_ hW.out);generalize hgm:wx18.heap.size=gM at *;clear hW hgm;refine Agd ⟨HM.out.cells 1 rfl,HM.out.cells 2 rfl,HM.out.cells 8 rfl⟩ ?_
       refine Age ⟨HM.out.cells 1 rfl,HM.out.cells 2 rfl,HM.out.cells 8 rfl⟩ ?_;refine Agh ?_;go_wp2_with fail
       go_ret2
       obtain ⟨m,m1,m2,m3,m4,m5,m6,m7⟩:=EA w wx19 i HI.out u hu gM gs gb gp flo fhi shi plo phi gP cp gm gG gR Aq cq An cn Ai ci Ab cb Ax cx xs HLf.out HLs.out HLp.out HXS.out HAb.out HRQ.out HIT.out (HM.out.pick [0,17,15,6,7,14,12,13,16,11,9,10,5,4,3] _ rfl (by decide));exact ⟨m,by rw [m1];rfl,m2,m3,m4,m5,m6,m7⟩
     . refine Agc ?_;go_wp2_with fail;have hph:phi<=wx16.heap.size:=DL (HM.out.holds 5 _ rfl) (HM.out.st 5 rfl).in_;refine (ET i.r.c i.r.p u 0 plo phi gp _ HI.out.c HI.out.p.2 hu (HM.out.st 5 rfl) hph).mono ?_;rintro e wx20 ⟨Ai,ci,rfl,hci,hri,hAi,hbi⟩;have hgi:=(HM.out.bel 0 rfl).size;have HIT:=K1 (show _/\∀ p:Addr,Ai=some p->w.heap.size<=p.block from ⟨hci,fun p hp=>Agf hgi (hAi p hp)⟩);replace HM:=K1 (HM.out.push_rd hbi hri hAi);clear hbi hri hAi hci hph hgi;go_wp2_with fail;refine Agd ⟨HM.out.cells 1 rfl,HM.out.cells 2 rfl,HM.out.cells 8 rfl⟩ ?_;refine Agc ?_;go_wp2_with fail
       refine AH fun wx21 hW=>?_;replace HM:=K1 (HM.out.zero_ hW.out HP60.out);generalize hgg:wx20.heap.size=gG at *;clear hW hgg;refine Agd ⟨HM.out.cells 1 rfl,HM.out.cells 2 rfl,HM.out.cells 8 rfl⟩ ?_;refine Age ⟨HM.out.cells 1 rfl,HM.out.cells 2 rfl,HM.out.cells 8 rfl⟩ ?_;refine Agc ?_;go_wp2_with fail;refine AH fun wx22 hW=>?_;replace HM:=K1 (HM.out.alloc_ hW.out);generalize hgm:wx21.heap.size=gM at *;clear hW hgm;refine Agd ⟨HM.out.cells 1 rfl,HM.out.cells 2 rfl,HM.out.cells 8 rfl⟩ ?_;refine Age ⟨HM.out.cells 1 rfl,HM.out.cells 2 rfl,HM.out.cells 8 rfl⟩ ?_;refine Agh ?_;go_wp2_with fail
       go_ret2
       obtain ⟨m,m1,m2,m3,m4,m5,m6,m7⟩:=EA w wx22 i HI.out u hu gM gs gb gp flo fhi shi plo phi gP cp gm gG gR Aq cq An cn Ai ci Ab cb Ax cx xs HLf.out HLs.out HLp.out HXS.out HAb.out HRQ.out HIT.out (HM.out.pick [0,17,16,6,7,14,12,13,15,11,9,10,5,4,3] _ rfl (by decide));exact ⟨m,by rw [m1];rfl,m2,m3,m4,m5,m6,m7⟩
   . refine Agc ?_;go_wp2_with fail;have hph:phi<=wx8.heap.size:=DL (HM.out.holds 5 _ rfl) (HM.out.st 5 rfl).in_;refine (ET i.r.c i.r.p u 0 plo phi gp _ HI.out.c HI.out.p.2 hu (HM.out.st 5 rfl) hph).mono ?_;rintro e wx23 ⟨Ai,ci,rfl,hci,hri,hAi,hbi⟩;have hgi:=(HM.out.bel 0 rfl).size;have HIT:=K1 (show _/\∀ p:Addr,Ai=some p->w.heap.size<=p.block from ⟨hci,fun p hp=>Agf hgi (hAi p hp)⟩);replace HM:=K1 (HM.out.push_rd hbi hri hAi);clear hbi hri hAi hci hph hgi;go_wp2_with fail;refine Agd ⟨HM.out.cells 1 rfl,HM.out.cells 2 rfl,HM.out.cells 8 rfl⟩ ?_;refine Agk ?_ ?_
     . refine Agc ?_;go_wp2_with fail;refine AH fun wx24 hW=>?_;replace HM:=K1 (HM.out.zero_ hW.out HP60.out);generalize hgg:wx23.heap.size=gG at *;clear hW hgg;refine Agd ⟨HM.out.cells 1 rfl,HM.out.cells 2 rfl,HM.out.cells 8 rfl⟩ ?_;refine Agc ?_;go_wp2_with fail;refine AH fun wx25 hW=>?_;replace HM:=K1 (HM.out.row2 hW.out);generalize hgr:wx24.heap.size=gR at *;clear hW hgr;refine Agd ⟨HM.out.cells 1 rfl,HM.out.cells 2 rfl,HM.out.cells 8 rfl⟩ ?_;refine Age ⟨HM.out.cells 1 rfl,HM.out.cells 2 rfl,HM.out.cells 8 rfl⟩ ?_;refine Agc ?_;go_wp2_with fail;refine AH fun wx26 hW=>?_
       replace HM:=K1 (HM.out.alloc_ hW.out);generalize hgm:wx25.heap.size=gM at *;clear hW hgm;refine Agd ⟨HM.out.cells 1 rfl,HM.out.cells 2 rfl,HM.out.cells 8 rfl⟩ ?_;refine Age ⟨HM.out.cells 1 rfl,HM.out.cells 2 rfl,HM.out.cells 8 rfl⟩ ?_;refine Agh ?_;go_wp2_with fail
       go_ret2
       obtain ⟨m,m1,m2,m3,m4,m5,m6,m7⟩:=EA w wx26 i HI.out u hu gM gs gb gp flo fhi shi plo phi gP cp gm gG gR Aq cq An cn Ai ci Ab cb Ax cx xs HLf.out HLs.out HLp.out HXS.out HAb.out HRQ.out HIT.out (HM.out.pick [0,17,15,6,7,16,12,13,14,11,9,10,5,4,3] _ rfl (by decide));exact ⟨m,by rw [m1];rfl,m2,m3,m4,m5,m6,m7⟩
     . refine Agc ?_;go_wp2_with fail;refine AH fun wx27 hW=>?_;replace HM:=K1 (HM.out.row2 hW.out);generalize hgr:wx23.heap.size=gR at *;clear hW hgr;refine Agd ⟨HM.out.cells 1 rfl,HM.out.cells 2 rfl,HM.out.cells 8 rfl⟩ ?_;refine Agc ?_;go_wp2_with fail;refine AH fun wx28 hW=>?_;replace HM:=K1 (HM.out.zero_ hW.out HP60.out);generalize hgg:wx27.heap.size=gG at *;clear hW hgg;refine Agd ⟨HM.out.cells 1 rfl,HM.out.cells 2 rfl,HM.out.cells 8 rfl⟩ ?_;refine Age ⟨HM.out.cells 1 rfl,HM.out.cells 2 rfl,HM.out.cells 8 rfl⟩ ?_;refine Agc ?_;go_wp2_with fail;refine AH fun wx29 hW=>?_
       replace HM:=K1 (HM.out.alloc_ hW.out);generalize hgm:wx28.heap.size=gM at *;clear hW hgm;refine Agd ⟨HM.out.cells 1 rfl,HM.out.cells 2 rfl,HM.out.cells 8 rfl⟩ ?_;refine Age ⟨HM.out.cells 1 rfl,HM.out.cells 2 rfl,HM.out.cells 8 rfl⟩ ?_;refine Agh ?_;go_wp2_with fail
       go_ret2
       obtain ⟨m,m1,m2,m3,m4,m5,m6,m7⟩:=EA w wx29 i HI.out u hu gM gs gb gp flo fhi shi plo phi gP cp gm gG gR Aq cq An cn Ai ci Ab cb Ax cx xs HLf.out HLs.out HLp.out HXS.out HAb.out HRQ.out HIT.out (HM.out.pick [0,17,16,6,7,15,12,13,14,11,9,10,5,4,3] _ rfl (by decide));exact ⟨m,by rw [m1];rfl,m2,m3,m4,m5,m6,m7⟩
theorem Tx (w:World) (i:Inp) (A:Option Addr) (p cp:Nat) :
  Calls Tryz.prog 73 #[.agg i.cells.toArray,Us A p cp] w fun e w'=>e=.returned (.agg #[Us i.A i.r.ns.length i.cap,Us A p cp,U O i.r.c.sh])/\Below w.heap.size w w':=by
 have hm:=((Agl w).alloc (.cells i.cells.toArray 29)).alloc (.cells #[Us i.A i.r.ns.length i.cap,Us A p cp,U O i.r.c.sh] 178);simp only [Agn] at hm;have HM:=K1 hm;dsimp only [Inp.cells] at *;clear hm;go_enter Tryz.func73,Tryz.ntmps73;go_wp2_with fail;have c2:=HM.out.cells 2 rfl;refine bodyPost_ret (v:=.agg #[Us i.A i.r.ns.length i.cap,Us A p cp,U O i.r.c.sh]) ?_ rfl ⟨rfl,HM.out.bel 0 rfl⟩;simp [results,Tryz.results73,go_sem,c2]
def Inp.conf (i:Inp):List Value:=[Us i.A i.r.ns.length i.cap,U O i.r.c.sh,U O i.r.c.ra,U O i.r.c.mo,U O i.r.c.k,U O i.r.c.ba,U O i.r.c.mi,U O i.r.c.st,U O i.r.c.bu,U O i.r.c.s,U O i.r.c.wi,U O i.r.c.ca]
theorem Ty (w:World) (i:Inp) :
  Calls Tryz.prog 36 #[.agg i.conf.toArray] w fun e w'=>e=.returned (.agg #[U O i.r.c.ra,U O i.r.c.mo,U O i.r.c.sh])/\Below w.heap.size w w':=by
 have hm:=((Agl w).alloc (.cells i.conf.toArray 24)).alloc (.cells #[U O i.r.c.ra,U O i.r.c.mo,U O i.r.c.sh] 111);simp only [Agn] at hm;have HM:=K1 hm;dsimp only [Inp.conf] at *;clear hm;go_enter Tryz.func36,Tryz.ntmps36;go_wp2_with fail;have c2:=HM.out.cells 2 rfl;refine bodyPost_ret (v:=.agg #[U O i.r.c.ra,U O i.r.c.mo,U O i.r.c.sh]) ?_ rfl ⟨rfl,HM.out.bel 0 rfl⟩;simp [results,Tryz.results36,go_sem,c2]
theorem Tz (w:World) (i:Inp) (hi:i.Ok) (ha:i.At w) :
  Calls Tryz.prog 32 #[.agg i.cells.toArray] w fun e w'=>∃ Ao co,e=.returned (.agg (rsC i.r.n i.r.c.ba i.r.c.st Ao co).toArray)/\RSampIn w' w.heap.size w'.heap.size i.r.n i.r.c.ba i.r.c.st Ao i.r.ds/\Below w.heap.size w w':=by
 have hba:=hi.c.ba;have hk:=hi.c.k;have hn:=hi.n;have CN:=K1 (fun W (hb:Below w.heap.size w W)=>SW W i.r.n i.r.c.ba i.r.c.st i.rcap i.RA i.r.ds (ha.below hb).ds (by omega) (by omega) hi.c.st hi.ds.1 hi.ds.2);have hm:=((Agl w).alloc (.cells i.cells.toArray 29)).alloc (.cells #[U O 0,U O 0,U O 0,Us none 0 0] 103);simp only [Agn] at hm;have HM:=K1 hm;dsimp only [Inp.cells,rsC] at *;clear hm ha hba hk hn;go_enter Tryz.func32,Tryz.ntmps32;go_wp2_with fail;refine (CN.out _ (HM.out.bel 0 rfl)).mono ?_;rintro e w3 ⟨Ao,co,rfl,_,hs,hb⟩
 have HM4:=K1 ((HM.out.push (c:=rsCh _ _ _ _ _ Ao i.r.ds) hb (ME hs (Agg _)) (fun g hg=>hg.1)).alloc (.cells #[U O i.r.n,U O i.r.c.ba,U O i.r.c.st,Us Ao (pcnt i.r.c.st (i.r.n / i.r.c.ba)) co] 103));have c2:=HM4.out.cells 2 rfl;have c4:=HM4.out.cells 4 rfl;have f2:=fun j=>HM4.out.frozen 2 j rfl
 have hf:=HM4.out.fill (i:=2) rfl [U O i.r.n,U O i.r.c.ba,U O i.r.c.st,Us Ao (pcnt i.r.c.st (i.r.n / i.r.c.ba)) co] rfl;simp only [World.setCells,Nat.reduceAdd,Nat.zero_add] at hf;have HF:=K1 hf;have HM2:=HM;clear HM hb hs CN HM4 hf;go_wp2_with fail;clear c2 f2 c4;have c2:=HF.out.cells 2 rfl;refine bodyPost_ret (v:=.agg #[U O i.r.n,U O i.r.c.ba,U O i.r.c.st,Us Ao (pcnt i.r.c.st (i.r.n / i.r.c.ba)) co]) ?_ rfl ⟨Ao,co,rfl,RSampIn.more (HF.out.st 3 rfl) (HM2.out.bel 0 rfl).size (Nat.le_of_lt (HF.out.lt 4 rfl)),HF.out.bel 0 rfl⟩;simp [results,Tryz.results32,go_sem,c2]
end
end Go.Proofs.YtdpojpcoghcieaaGreat
