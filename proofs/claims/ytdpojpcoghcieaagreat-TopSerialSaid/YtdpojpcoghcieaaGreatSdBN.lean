/- A part of the proof of TopSerial: MachNew. Conditions: none. -/
import Derived.Test.YtdpojpcoghcieaaGreatSdBM
import Derived.Test.YtdpojpcoghcieaaGreatSdBE
set_option maxHeartbeats 8000000
namespace Go.Proofs.YtdpojpcoghcieaaGreat
open Lib renaming hid → K1
open List renaming filterMap_cons → p1, filterMap_nil → p2, getElem?_cons_zero → p3, getElem?_cons_succ → p4
open Go.RowKit
structure Inp where
 r:Rn
 A:Option Addr
 cap:Nat
 DA:Option Addr
 dcap:Nat
 l:List Ex
 SA:Option Addr
 scap:Nat
 st:List Int
 RA:Option Addr
 rcap:Nat
def Inp.cells (i:Inp):List Value:=[.slice i.A i.r.ns.length i.cap,.int .i64 i.r.c.sh,.int .i64 i.r.c.ra,.int .i64 i.r.c.mo,.int .i64 i.r.c.k,.int .i64 i.r.c.ba,.int .i64 i.r.c.mi,.int .i64 i.r.c.st,.int .i64 i.r.c.bu,.int .i64 i.r.c.s,.int .i64 i.r.c.wi,.int .i64 i.r.c.ca,.slice i.DA i.r.n i.dcap,.slice i.SA i.r.p i.scap,.slice i.RA i.r.ds.length i.rcap]
structure Inp.Ok (i:Inp):Prop where
 c:i.r.c.Ok
 p:1≤i.r.p∧i.r.p≤60
 ns:NsOk i.r.ns
 pn:i.r.p=offN i.r.ns (i.r.ns.length-1)
 n:i.r.n≤1000∧i.r.c.ba≤i.r.n
 l:i.l.length=i.r.n∧i.l.map Ex.nums=i.r.dat
 ex:∃ a b,i.r.ns[0]?=some a∧i.r.ns[i.r.ns.length-1]?=some b∧∀ e∈i.l,e.xs.length=a∧e.ys.length=b∧In64 e.xs∧In64 e.ys
 st:i.st.length=i.r.p∧In64 i.st
 ds:pcnt i.r.c.st (i.r.n / i.r.c.ba)*(i.r.n-1)≤i.r.ds.length∧i.r.ds.length≤1000000000
 cap:i.r.ns.length≤i.cap
 ru:(⟨i.r.c.ra,i.r.c.mo,i.r.c.sh⟩:Ru).Ok
 conf:confCode (castL i.r.ns) i.r.c.cf=0
 shape:shCode (castL i.r.ns)=0
 input:inCode 0 (castL i.r.ns) i.r.c.st i.r.c.ba i.l i.r.p i.r.ds.length=0
structure Inp.At (i:Inp) (w:World):Prop where
 ns:RdI w w.heap.size i.A (castL i.r.ns)
 l:RdE w w.heap.size i.DA i.l
 fam:∀ a∈exFam i.l,Rd w w.heap.size a.1 a.2
 st:Rd w w.heap.size i.SA (zC i.st)
 ds:Rd w w.heap.size i.RA (uCells i.r.ds)
theorem Inp.At.below {i:Inp} {w w':World} (h:i.At w) (hb:Below w.heap.size w w'):i.At w' :=
 ⟨(RdI.below h.ns hb).more hb.size,(RdE.below h.l hb).more hb.size,fun a ha=>((h.fam a ha).below hb).more hb.size,(h.st.below hb).more hb.size,(h.ds.below hb).more hb.size⟩
def iniA (i:Inp):Am:=⟨i.st,zeroL i.r.p,zeroL i.r.p,[(i.st,zeroL i.r.p)],0,0,0,[]⟩
def itsC (c:Kf) (p t u:Nat):List It:=if t<c.st then plIts c p t u else []
theorem planStep_all (c:Kf) (p u t lo hi gp:Nat) (W:World) (hc:c.Ok) (hp:p≤60) (hu:u<c.k) (hP:PlanAt W lo hi gp c p) (hh:hi≤W.heap.size) :
  Calls Tryz.prog 69 #[.pointer (some ⟨gp,0,none⟩),.int .i64 u,.int .i64 t] W fun e w'=>∃ A cc,e=.returned (.slice A (itsC c p t u).length cc)∧(itsC c p t u).length≤cc∧Rd w' w'.heap.size A (icells (itsC c p t u))∧(∀ p:Addr,A=some p→W.heap.size≤p.block)∧Below W.heap.size W w':=by
 unfold itsC
 by_cases ht:t<c.st
 · rw [if_pos ht]
   refine (planStep_any W lo hi gp c p u t hP hh hc hp hu ht).mono ?_
   rintro e w' ⟨A,cc,rfl,ho,hb⟩
   exact ⟨A,cc,rfl,own_cap ho,rd_of_own ho,own_from_base ho,hb⟩
 · rw [if_neg ht]
   refine (planStep_end W lo hi gp c p u t hP hh hu (by omega)).mono ?_
   rintro e w' ⟨rfl,rfl⟩
   exact ⟨none,0,rfl,Nat.le_refl _,Rd.nil_ _ _ _,fun p hp=>(by cases hp),Below.refl _ _⟩
theorem own_built2 (w:World) (e:TypeId) (v u:Value):(w.alloc (.cells #[v,u] e)).ownsRow w.heap.size e 2 (.slice (some ⟨w.heap.size,0,none⟩) 1 1) 1 [v,u] :=
 ⟨by simp,.inr ⟨w.heap.size,1,#[v,u],rfl,Nat.le_refl _,heap_alloc_new w _,Nat.le_refl _,by simp [maxLen],by simp,by simp⟩⟩
theorem Mem.row2 {W W':World} {L:List Ch} {e:TypeId} {v u:Value} (h:Mem W L) (hW:W'=W.alloc (.cells #[v,u] e)):Mem W' (L++[.own W.heap.size e 2 (.slice (some ⟨W.heap.size,0,none⟩) 1 1) 1 [v,u]]):=by
 subst hW
 exact h.push_own ((Below.refl _ _).alloc (Nat.le_refl _) _) (own_built2 W e v u) rfl
theorem mnew_fin (w W:World) (i:Inp) (hi:i.Ok) (u:Nat) (hu:u<i.r.c.k) (gM gs gb gp flo fhi shi plo phi gP cp gm gG gR:Nat) (Aq:Option Addr) (cq:Nat) (An:Option Addr) (cn:Nat) (Ai:Option Addr) (ci:Nat) (Ab:Option Addr) (cb:Nat) (Ax:Option Addr) (cx:Nat) (xs:List Ex)
  (hf:w.heap.size≤flo) (hs:w.heap.size≤fhi) (hp:w.heap.size≤plo)
  (hxs:xs.map Ex.nums=i.l.map Ex.nums∧(∀ a∈exFam xs,∀ p:Addr,a.1=some p→w.heap.size≤p.block)∧i.r.n≤cx∧∀ p:Addr,Ax=some p→w.heap.size≤p.block)
  (hab:(plBs i.r.c i.r.p).length≤cb∧∀ p:Addr,Ab=some p→w.heap.size≤p.block)
  (hrq:(∀ p:Addr,Aq=some p→w.heap.size≤p.block)∧∀ p:Addr,An=some p→w.heap.size≤p.block)
  (hit:(itsC i.r.c i.r.p 0 u).length≤ci∧∀ p:Addr,Ai=some p→w.heap.size≤p.block)
  (hM:Mem W [.bel w.heap.size w,.obj gM (.cells #[.int .i64 u,.int .i64 i.r.c.k,.int .i64 i.r.c.mi,.pointer (some ⟨gs,0,none⟩),.slice Ax i.r.n cx,.pointer (some ⟨gb,0,none⟩),.pointer (some ⟨gp,0,none⟩),.slice Ab (plBs i.r.c i.r.p).length cb,.int .i64 i.r.c.ra,.int .i64 i.r.c.mo,.int .i64 i.r.c.sh,.slice (some ⟨gP,0,none⟩) i.r.p cp,.slice (some ⟨gm,0,none⟩) i.r.p i.r.p,.slice (some ⟨gG,0,none⟩) i.r.p i.r.p,.slice (some ⟨gR,0,none⟩) 1 1,.slice Ai (itsC i.r.c i.r.p 0 u).length ci,.int .i64 0,.int .i64 0,.slice none 0 0] 169 (0,0)),
   vOwn gG i.r.p i.r.p (some ⟨gG,0,none⟩) (zeroL i.r.p),vOwn w.heap.size i.r.p cp (some ⟨gP,0,none⟩) i.st,vOwn w.heap.size i.r.p i.r.p (some ⟨gm,0,none⟩) (zeroL i.r.p),.own gR 89 2 (.slice (some ⟨gR,0,none⟩) 1 1) 1 [.slice Aq i.r.p cq,.slice An i.r.p cn],.rd Aq (zC i.st),.rd An (zC (zeroL i.r.p)),.rd Ai (icells (itsC i.r.c i.r.p 0 u)),.rd Ab (rcells (plBs i.r.c i.r.p)),.rd Ax (exCells xs),famCh (exFam xs),planCh plo phi gp i.r.c i.r.p,sampCh fhi shi gb i.r.n i.r.c i.r.ds,formCh flo fhi gs i.r.ns]) :
  ∃ m:Mc,m.f.g=gM∧m.Ok∧m.f.u=u∧m.f.Of i.r∧m.abs=iniA i∧(∀ c∈m.ps,¬ c.mut→∀ g,c.fp g→w.heap.size≤g)∧Mem W (.bel w.heap.size w::m.ps):=by
 have hz:=zeroL_in i.r.p
 have hst:=hi.st
 have hxl:xs.length=i.r.n:=by
  have:=congrArg List.length hxs.1
  simpa [hi.l.1] using this
 have hA:=((hM.add (c:=.own w.heap.size 3 1 (.slice none 0 0) 0 (iCells [])) ⟨own_nil _ _ _ _,(hM.bel 0 rfl).size⟩ (fun _ _ _ _ g hg=>by cases hg)).add (c:=famCh (exFam [])) (fam_local (fun a ha=>by cases ha)) (fun _ _ _ _ g hg=>by obtain ⟨a,ha,_⟩:=hg;cases ha))
 have hB:=(hA.famSnoc (i:=16) (j:=6) rfl rfl).famSnoc (i:=16) (j:=7) rfl rfl
 refine ⟨⟨⟨gM,u,i.r.c,i.r.p,i.r.ns,flo,fhi,gs,i.r.n,fhi,shi,gb,i.r.ds,plo,phi,gp,Ax,cx,xs,Ab,cb⟩,w.heap.size,gP,cp,i.st,gm,i.r.p,zeroL i.r.p,gG,gG,zeroL i.r.p,gR,some ⟨gR,0,none⟩,1,[⟨Aq,i.st,cq,An,zeroL i.r.p,cn⟩],Ai,ci,0,0,0,w.heap.size,none,0,[]⟩,rfl,?_,rfl,⟨rfl,rfl,rfl,rfl,rfl,hxs.1.trans hi.l.2⟩,rfl,?_,?_⟩
 · refine ⟨⟨hi.c,hi.p,hi.ns,hi.pn,hu,hi.n,hi.ru,hxl,?_,hab.1,hxs.2.2.1⟩,hst,hz,hz,own_cap (hM.own 3 rfl),Nat.le_refl _,fun e he=>?_,fun h=>?_,fun _=>rfl,Nat.zero_le _,Nat.le_refl _,Nat.le_refl _,hit.1⟩
   · obtain ⟨a,b,h1,h2,h3⟩:=hi.ex
     refine ⟨a,b,h1,h2,fun e he=>?_⟩
     have:e.nums∈i.l.map Ex.nums:=by rw [← hxs.1];exact List.mem_map.2 ⟨e,he,rfl⟩
     obtain ⟨e',he',hn⟩:=List.mem_map.1 this
     injection hn with n1 n2
     have:=h3 e' he'
     rwa [n1,n2] at this
   · have:=List.mem_singleton.1 he
     subst this
     exact ⟨hst.1,hz.1⟩
   · show 0<(itsAt _ 0).length
     unfold itsAt
     rw [if_pos h]
     exact plIts_pos _ _ _ _
 · intro c hc hm g hg
   simp only [Mc.ps,List.mem_cons,List.not_mem_nil,or_false] at hc
   rcases hc with rfl | rfl | rfl | rfl | rfl | rfl | rfl | rfl | rfl | rfl | rfl | rfl | rfl | rfl
   · exact absurd trivial hm
   · exact absurd trivial hm
   · exact absurd trivial hm
   · exact absurd trivial hm
   · exact absurd trivial hm
   · obtain ⟨a,ha,_,p,hp,rfl⟩:=hg
     simp [exFam] at ha
     rcases ha with rfl | rfl
     · exact hrq.1 p hp
     · exact hrq.2 p hp
   · obtain ⟨_,p,hp,rfl⟩:=hg
     exact hit.2 p hp
   · exact absurd trivial hm
   · obtain ⟨_,p,hp,rfl⟩:=hg
     exact hab.2 p hp
   · obtain ⟨_,p,hp,rfl⟩:=hg
     exact hxs.2.2.2 p hp
   · obtain ⟨a,ha,_,p,hp,rfl⟩:=hg
     exact hxs.2.1 a ha p hp
   · exact Nat.le_trans hp hg.1
   · exact Nat.le_trans hs hg.1
   · exact Nat.le_trans hf hg.1
 · have h9:=hB.pick [0,1,2,3,4,5,16,8,15,9,10,11,12,13,14] [.bel w.heap.size w,.obj gM (.cells #[.int .i64 u,.int .i64 i.r.c.k,.int .i64 i.r.c.mi,.pointer (some ⟨gs,0,none⟩),.slice Ax i.r.n cx,.pointer (some ⟨gb,0,none⟩),.pointer (some ⟨gp,0,none⟩),.slice Ab (plBs i.r.c i.r.p).length cb,.int .i64 i.r.c.ra,.int .i64 i.r.c.mo,.int .i64 i.r.c.sh,.slice (some ⟨gP,0,none⟩) i.r.p cp,.slice (some ⟨gm,0,none⟩) i.r.p i.r.p,.slice (some ⟨gG,0,none⟩) i.r.p i.r.p,.slice (some ⟨gR,0,none⟩) 1 1,.slice Ai (itsC i.r.c i.r.p 0 u).length ci,.int .i64 0,.int .i64 0,.slice none 0 0] 169 (0,0)),vOwn gG i.r.p i.r.p (some ⟨gG,0,none⟩) (zeroL i.r.p),vOwn w.heap.size i.r.p cp (some ⟨gP,0,none⟩) i.st,vOwn w.heap.size i.r.p i.r.p (some ⟨gm,0,none⟩) (zeroL i.r.p),.own gR 89 2 (.slice (some ⟨gR,0,none⟩) 1 1) 1 [.slice Aq i.r.p cq,.slice An i.r.p cn],famCh ((exFam []++[(Aq,zC i.st)])++[(An,zC (zeroL i.r.p))]),.rd Ai (icells (itsC i.r.c i.r.p 0 u)),.own w.heap.size 3 1 (.slice none 0 0) 0 (iCells []),.rd Ab (rcells (plBs i.r.c i.r.p)),.rd Ax (exCells xs),famCh (exFam xs),planCh plo phi gp i.r.c i.r.p,sampCh fhi shi gb i.r.n i.r.c i.r.ds,formCh flo fhi gs i.r.ns] rfl (by decide)
   refine Mem.cast h9 ?_
   simp only [Mc.ps,exCells,List.flatMap_cons,List.flatMap_nil,Ex.cells,hst.1,hz.1]
   rfl
set_option maxRecDepth 100000 in
theorem mnew_any (w:World) (i:Inp) (hi:i.Ok) (ha:i.At w) (u:Nat) (hu:u<i.r.c.k) :
  Calls Tryz.prog 29 #[.agg i.cells.toArray,.int .i64 u] w fun e w'=>∃ m:Mc,e=.returned (.tuple #[.pointer (some ⟨m.f.g,0,none⟩),.int .i64 0])∧m.Ok∧m.f.u=u∧m.f.Of i.r∧m.abs=iniA i∧(∀ c∈m.ps,¬ c.mut→∀ g,c.fp g→w.heap.size≤g)∧Mem w' (.bel w.heap.size w::m.ps):=by
 have hA:=ha
 have CI:Hid (∀ W,Below w.heap.size w W→Calls Tryz.prog 28 #[.agg i.cells.toArray] W fun e w'=>e=.returned (.int .i64 0)∧Below W.heap.size W w'):=K1 (fun W hb=>by
  have h0:=ha.below hb
  have hl:=hi.l.1
  have h2:=input_good i.A i.DA i.SA i.RA i.cap i.dcap i.r.p i.scap i.r.ds.length i.rcap (castL i.r.ns) i.l i.r.c.sh i.r.c.ra i.r.c.mo i.r.c.k i.r.c.ba i.r.c.mi i.r.c.st i.r.c.bu i.r.c.s i.r.c.wi i.r.c.ca W h0.ns (by simpa using hi.cap) (by have:=hi.ns.len;simp;omega) h0.l (by have:=hi.n.1;omega) hi.conf
  rw [show confCode (castL i.r.ns) ⟨i.r.c.sh,0,0,i.r.c.k,i.r.c.ba,i.r.c.mi,i.r.c.st,i.r.c.bu,i.r.c.s,i.r.c.wi,i.r.c.ca⟩=0 from hi.conf,hi.input] at h2
  simp only [List.length_map] at h2
  rw [hl] at h2
  exact h2)
 have CS:Hid (∀ W,Below w.heap.size w W→Calls Tryz.prog 59 #[.slice i.A i.r.ns.length i.cap] W fun e w'=>∃ g,e=.returned (.tuple #[.pointer (some ⟨g,0,none⟩),.int .i64 0])∧FormAt w' W.heap.size w'.heap.size g i.r.ns∧Below W.heap.size W w'):=K1 (fun W hb=>by
  have h2:=newF_any i.A i.cap (castL i.r.ns) W (ha.below hb).ns (by simpa using hi.cap) (by have:=hi.ns.len;simp;omega)
  simp only [List.length_map] at h2
  refine h2.mono fun e w' h3=>?_
  obtain ⟨g,rfl,hs⟩:=h3.2.1 hi.shape
  exact ⟨g,rfl,FormAt.of_from hs (by have:=hi.ns.len;omega),h3.1⟩)
 have CSa:=K1 (fun W (hb:Below w.heap.size w W)=>sampNew_any i.r.n i.r.c.ba i.r.c.st i.r.ds.length i.rcap i.RA i.r.ds W (ha.below hb).ds rfl hi.ds.2 ⟨by have:=hi.c.ba;have:=hi.c.k;have:=hi.n;omega,hi.n.1⟩ ⟨by have:=hi.c.ba;have:=hi.c.k;omega,hi.n.2⟩ hi.c.st hi.ds.1)
 have CC:=K1 (fun W (lo hi' g:Nat) (hF:FormAt W lo hi' g i.r.ns)=>formCount_any W lo hi' g i.r.ns hF)
 rw [← hi.pn] at CC
 have CP:Hid (∀ W,Below w.heap.size w W→Calls Tryz.prog 64 #[.agg #[.slice i.A i.r.ns.length i.cap,.int .i64 i.r.c.sh,.int .i64 i.r.c.ra,.int .i64 i.r.c.mo,.int .i64 i.r.c.k,.int .i64 i.r.c.ba,.int .i64 i.r.c.mi,.int .i64 i.r.c.st,.int .i64 i.r.c.bu,.int .i64 i.r.c.s,.int .i64 i.r.c.wi,.int .i64 i.r.c.ca],.int .i64 i.r.p] W fun e w'=>∃ gp,e=.returned (.tuple #[.pointer (some ⟨gp,0,none⟩),.bool true])∧PlanAt w' W.heap.size w'.heap.size gp i.r.c i.r.p∧Below W.heap.size W w'):=K1 (fun W hb=>by
  have h2:=planNew_any i.r.c hi.c (castL i.r.ns) i.A i.cap i.r.p hi.p W (ha.below hb).ns (by simpa using hi.cap) (by have:=hi.ns.len;simp;omega) hi.conf
  simp only [List.length_map] at h2
  exact h2)
 have CSt:=K1 (fun W (hb:Below w.heap.size w W)=>start_any W i.SA i.r.p i.scap i.st (ha.below hb).st hi.st.1 (by have:=hi.p;omega))
 have CD:=K1 (fun W (hb:Below w.heap.size w W)=>dclone_any W i.DA i.r.n i.dcap i.l (ha.below hb).l.1 (ha.below hb).fam hi.l.1 (by have:=hi.n;omega) (fun e he=>by
  obtain ⟨a,b,h1,h2,h3⟩:=hi.ex
  obtain ⟨e1,e2,_⟩:=h3 e he
  have:=nsle hi.ns h1
  have:=nsle hi.ns h2
  omega))
 have CB:=K1 (fun W (lo hi' gp:Nat) (hP:PlanAt W lo hi' gp i.r.c i.r.p) (hh:hi'≤W.heap.size)=>planBuckets_any W lo hi' gp i.r.c i.r.p hP hh hi.c hi.p.2)
 have CZ:=K1 (fun W (A B:Option Addr) (ca cb:Nat) hA hB=>sclone_any W A B i.r.p ca cb i.st (zeroL i.r.p) hA hB hi.st.1 (by simp [zeroL]) (by have:=hi.p;omega))
 have hmk:=run_make_vec i.r.p (by have:=hi.p;omega)
 have HP60:=K1 (show i.r.p≤1048576 by have:=hi.p;omega)
 have hpp:=hi.p
 have huk:¬ i.r.c.k≤u:=by omega
 have HI:=K1 hi
 have HM:=K1 ((Mem.start w).alloc (.cells i.cells.toArray 29))
 dsimp only [Inp.cells] at *
 clear ha hA hi
 go_enter Tryz.func29,Tryz.ntmps29
 have c1:=HM.out.cells 1 rfl
 go_wp2_with fail
 refine (CI.out _ (HM.out.bel 0 rfl)).mono ?_
 rintro e w1 ⟨rfl,hb⟩
 replace HM:=K1 (HM.out.below hb)
 clear hb CI c1
 have c1:=HM.out.cells 1 rfl
 replace HM:=K1 (HM.out.alloc (.cells #[.slice i.A i.r.ns.length i.cap,.int .i64 i.r.c.sh,.int .i64 i.r.c.ra,.int .i64 i.r.c.mo,.int .i64 i.r.c.k,.int .i64 i.r.c.ba,.int .i64 i.r.c.mi,.int .i64 i.r.c.st,.int .i64 i.r.c.bu,.int .i64 i.r.c.s,.int .i64 i.r.c.wi,.int .i64 i.r.c.ca] 24))
 have c2:=HM.out.cells 2 rfl
 generalize hg2:w1.heap.size=g2 at *
 go_wp2_with fail
 refine name_calls fun W2 hW2=>?_
 replace HM:=K1 (HM.out.inW hW2.out)
 clear hW2 c1 c2 hg2
 refine (CS.out _ (HM.out.bel 0 rfl)).mono ?_
 rintro e w3 ⟨gs,rfl,hF,hb⟩
 have HLf:=K1 (HM.out.bel 0 rfl).size
 replace HM:=K1 (HM.out.push hb (c:=formCh W2.heap.size w3.heap.size gs i.r.ns) (formCh_holds hF (Nat.le_refl _)) (fun g hg=>hg.1))
 clear hb hF CS
 generalize hlo3:W2.heap.size=flo at *
 generalize hhi3:w3.heap.size=fhi at *
 clear hlo3
 have c1:=HM.out.cells 1 rfl
 have c2:=HM.out.cells 2 rfl
 go_wp2_with fail
 refine (CSa.out _ (HM.out.bel 0 rfl)).mono ?_
 rintro e w4 ⟨gb,rfl,hS,hb⟩
 have HLs:=K1 (HM.out.bel 0 rfl).size
 rw [hhi3] at HLs
 replace HM:=K1 (HM.out.push hb (c:=sampCh w3.heap.size w4.heap.size gb i.r.n i.r.c i.r.ds) (sampCh_holds hS (Nat.le_refl _)) (fun g hg=>hg.1))
 rw [hhi3] at HM
 generalize w4.heap.size=shi at *
 clear hb hS CSa c1 c2 hhi3
 go_wp2_with fail
 refine name_wp fun W0 hW=>?_
 replace HM:=K1 (hW.out.symm ▸ HM.out)
 clear hW
 refine wp_region_stage (.reads [0,1] (.eff 2 (.eff 3 (.reads [4,5,6,7,8] .fin)))) 9 (fun W'=>∀ k,W'.cell? ⟨g2,k,none⟩=([.slice i.A i.r.ns.length i.cap,.int .i64 i.r.c.sh,.int .i64 i.r.c.ra,.int .i64 i.r.c.mo,.int .i64 i.r.c.k,.int .i64 i.r.c.ba,.int .i64 i.r.c.mi,.int .i64 i.r.c.st,.int .i64 i.r.c.bu,.int .i64 i.r.c.s,.int .i64 i.r.c.wi,.int .i64 i.r.c.ca]:List Value)[k]?)
  (by kernel_rfl) (by kernel_rfl) (by intro d v c a w h;cases d <;> exact h) ?_
 replace HM:=K1 HM.out.drew
 generalize W0.drew=V at *
 refine PlS.reads_ (HM.out.cells 2 rfl) (by kernel_rfl) ?_
 simp only [pickO,p1,p2,p3,p4]
 apply Exists.intro
 apply And.intro
 · intro W' hS
   repeat still_step
   exact wpStill_nil rfl
 refine PlS.eff_ ?_
 simp only [pickO,p1,p2,p3,p4]
 go_wp2_with fail
 refine (CC.out _ _ _ _ (HM.out.st 3 rfl)).mono ?_
 rintro e w5 ⟨rfl,rfl⟩
 go_wp2_with fail
 refine After.go (HM.out.cells 2 rfl) ?_
 refine PlS.eff_ ?_
 simp only [pickO,p1,p2,p3,p4]
 go_wp2_with fail
 refine (CP.out _ (HM.out.bel 0 rfl)).mono ?_
 rintro e w6 ⟨gp,rfl,hP,hb⟩
 have HLp:=K1 (HM.out.bel 0 rfl).size
 replace HM:=K1 (HM.out.push hb (c:=planCh V.heap.size w6.heap.size gp i.r.c i.r.p) (planCh_holds hP (Nat.le_refl _)) (fun g hg=>hg.1))
 clear hb hP CP
 generalize V.heap.size=plo at *
 generalize w6.heap.size=phi at *
 go_wp2_with fail
 refine After.go (HM.out.cells 2 rfl) ?_
 refine PlS.reads_ (HM.out.cells 2 rfl) (by kernel_rfl) ?_
 simp only [pickO,p1,p2,p3,p4]
 apply Exists.intro
 apply And.intro
 · intro W' hS
   clear hS
   repeat still_step
   exact wpStill_nil rfl
 refine PlS.fin_ ?_
 have c1:=HM.out.cells 1 rfl
 go_wp2_with fail
 refine (CSt.out _ (HM.out.bel 0 rfl)).mono ?_
 rintro e w7 ⟨Ap,cp,gm,rfl,hm7⟩
 have hg7:=(HM.out.bel 0 rfl).size
 replace HM:=K1 (((HM.out.join hm7 (fun c hc hm=>by
  simp only [List.mem_cons,List.not_mem_nil,or_false] at hc
  rcases hc with rfl | rfl <;> exact absurd trivial hm)).lower (i:=6) rfl hg7).lower (i:=7) rfl hg7)
 obtain ⟨gP,rfl⟩:=HM.out.ownA (n:=i.r.p) 6 rfl (by omega)
 clear hm7 hg7 CSt c1
 replace HM:=K1 (HM.out.alloc (.cells #[.slice (some ⟨gP,0,none⟩) i.r.p cp,.slice (some ⟨gm,0,none⟩) i.r.p i.r.p] 89))
 generalize hg8:w7.heap.size=g8 at *
 have c1:=HM.out.cells 1 rfl
 go_wp2_with fail
 replace HM:=K1 (show Mem _ [.bel w.heap.size w,.obj w.heap.size (.cells #[.slice i.A i.r.ns.length i.cap,.int .i64 i.r.c.sh,.int .i64 i.r.c.ra,.int .i64 i.r.c.mo,.int .i64 i.r.c.k,.int .i64 i.r.c.ba,.int .i64 i.r.c.mi,.int .i64 i.r.c.st,.int .i64 i.r.c.bu,.int .i64 i.r.c.s,.int .i64 i.r.c.wi,.int .i64 i.r.c.ca,.slice i.DA i.r.n i.dcap,.slice i.SA i.r.p i.scap,.slice i.RA i.r.ds.length i.rcap] 29 (0,0)),.obj g2 (.cells #[.slice i.A i.r.ns.length i.cap,.int .i64 i.r.c.sh,.int .i64 i.r.c.ra,.int .i64 i.r.c.mo,.int .i64 i.r.c.k,.int .i64 i.r.c.ba,.int .i64 i.r.c.mi,.int .i64 i.r.c.st,.int .i64 i.r.c.bu,.int .i64 i.r.c.s,.int .i64 i.r.c.wi,.int .i64 i.r.c.ca] 24 (0,0)),formCh flo fhi gs i.r.ns,sampCh fhi shi gb i.r.n i.r.c i.r.ds,planCh plo phi gp i.r.c i.r.p,vOwn w.heap.size i.r.p cp (some ⟨gP,0,none⟩) i.st,vOwn w.heap.size i.r.p i.r.p (some ⟨gm,0,none⟩) (zeroL i.r.p),.obj g8 (.cells #[.slice (some ⟨gP,0,none⟩) i.r.p cp,.slice (some ⟨gm,0,none⟩) i.r.p i.r.p] 89 (0,0))] from HM.out)
 refine name_wp fun W8 hW=>?_
 replace HM:=K1 (hW.out.symm ▸ HM.out)
 clear hW c1 hg8
 refine wp_region_stage (.reads [0,1,2,3,4,5,6,7,9,10,11,13,14,15,16,17,18,19,21,22,25,28,29] (.eff 8 (.eff 12 (.reads [20] (.eff 23 (.two 24 26 (.eff 26 (.two 27 30 (.eff 30 (.reads [31] (.eff 32 (.reads [33] (.fin))))) (.eff 27 (.reads [31] (.eff 32 (.reads [33] (.fin))))))) (.three 24 27 30 (.two 27 30 (.eff 30 (.reads [31] (.eff 32 (.reads [33] (.fin))))) (.eff 27 (.reads [31] (.eff 32 (.reads [33] (.fin)))))) (.two 24 30 (.eff 30 (.reads [31] (.eff 32 (.reads [33] (.fin))))) (.eff 24 (.reads [31] (.eff 32 (.reads [33] (.fin)))))) (.two 24 27 (.eff 27 (.reads [31] (.eff 32 (.reads [33] (.fin))))) (.eff 24 (.reads [31] (.eff 32 (.reads [33] (.fin))))))))))))) 34 (fun W'=>(∀ k,W'.cell? ⟨w.heap.size,k,none⟩=([.slice i.A i.r.ns.length i.cap,.int .i64 i.r.c.sh,.int .i64 i.r.c.ra,.int .i64 i.r.c.mo,.int .i64 i.r.c.k,.int .i64 i.r.c.ba,.int .i64 i.r.c.mi,.int .i64 i.r.c.st,.int .i64 i.r.c.bu,.int .i64 i.r.c.s,.int .i64 i.r.c.wi,.int .i64 i.r.c.ca,.slice i.DA i.r.n i.dcap,.slice i.SA i.r.p i.scap,.slice i.RA i.r.ds.length i.rcap]:List Value)[k]?)∧(∀ k,W'.cell? ⟨g2,k,none⟩=([.slice i.A i.r.ns.length i.cap,.int .i64 i.r.c.sh,.int .i64 i.r.c.ra,.int .i64 i.r.c.mo,.int .i64 i.r.c.k,.int .i64 i.r.c.ba,.int .i64 i.r.c.mi,.int .i64 i.r.c.st,.int .i64 i.r.c.bu,.int .i64 i.r.c.s,.int .i64 i.r.c.wi,.int .i64 i.r.c.ca]:List Value)[k]?)∧(∀ k,W'.cell? ⟨g8,k,none⟩=([.slice (some ⟨gP,0,none⟩) i.r.p cp,.slice (some ⟨gm,0,none⟩) i.r.p i.r.p]:List Value)[k]?))
  (by kernel_rfl) (by kernel_rfl) (by intro d v c a w h;cases d <;> exact h) ?_
 replace HM:=K1 HM.out.drew
 generalize W8.drew=V8 at *
 refine PlS.reads_ ⟨HM.out.cells 1 rfl,HM.out.cells 2 rfl,HM.out.cells 8 rfl⟩ (by kernel_rfl) ?_
 simp only [pickO,p1,p2,p3,p4]
 apply Exists.intro
 apply And.intro
 · intro W' hS
   obtain ⟨s1,s2,s3⟩:=hS
   repeat still_step
   exact wpStill_nil rfl
 refine PlS.eff_ ?_
 simp only [pickO,p1,p2,p3,p4]
 go_wp2_with fail
 refine (CD.out _ (HM.out.bel 0 rfl)).mono ?_
 rintro e w9 ⟨Ax,cx,xs,rfl,hxs,hfx,hm9⟩
 have hg9:=(HM.out.bel 0 rfl).size
 replace HM:=K1 ((HM.out.join hm9 (fun c hc hm g hg=>by
  simp only [List.mem_cons,List.not_mem_nil,or_false] at hc
  rcases hc with rfl | rfl
  · exact absurd trivial hm
  · obtain ⟨a,ha,_,p,hp,rfl⟩:=hg
    exact hfx a ha p hp)).freeze (i:=9) rfl)
 have HXS:=K1 (show xs.map Ex.nums=i.l.map Ex.nums∧(∀ a∈exFam xs,∀ p:Addr,a.1=some p→w.heap.size≤p.block)∧i.r.n≤cx∧∀ p:Addr,Ax=some p→w.heap.size≤p.block from ⟨hxs,fun a ha p hp=>Nat.le_trans hg9 (hfx a ha p hp),own_cap (hm9.own 1 rfl),fun p hp=>Nat.le_trans hg9 (own_from_base (hm9.own 1 rfl) p hp)⟩)
 clear hxs hfx hm9 CD hg9
 go_wp2_with fail
 refine After.go ⟨HM.out.cells 1 rfl,HM.out.cells 2 rfl,HM.out.cells 8 rfl⟩ ?_
 refine PlS.eff_ ?_
 simp only [pickO,p1,p2,p3,p4]
 go_wp2_with fail
 have hph:phi≤w9.heap.size:=st_lt (HM.out.holds 5 _ rfl) (HM.out.st 5 rfl).in_
 refine (CB.out _ _ _ _ (HM.out.st 5 rfl) hph).mono ?_
 rintro e w10 ⟨Ab,cb,rfl,hv,hcb,hb⟩
 have hgb:=(HM.out.bel 0 rfl).size
 have HAb:=K1 (show _∧∀ p:Addr,Ab=some p→w.heap.size≤p.block from ⟨hcb,fun p hp=>Nat.le_trans hgb (own_from_base hv p hp)⟩)
 clear hgb
 replace HM:=K1 (HM.out.push_rd hb (rd_of_own hv) (own_from_base hv))
 clear hv hb hcb hph CB
 replace HM:=K1 (show Mem _ [.bel w.heap.size w,.obj w.heap.size (.cells #[.slice i.A i.r.ns.length i.cap,.int .i64 i.r.c.sh,.int .i64 i.r.c.ra,.int .i64 i.r.c.mo,.int .i64 i.r.c.k,.int .i64 i.r.c.ba,.int .i64 i.r.c.mi,.int .i64 i.r.c.st,.int .i64 i.r.c.bu,.int .i64 i.r.c.s,.int .i64 i.r.c.wi,.int .i64 i.r.c.ca,.slice i.DA i.r.n i.dcap,.slice i.SA i.r.p i.scap,.slice i.RA i.r.ds.length i.rcap] 29 (0,0)),.obj g2 (.cells #[.slice i.A i.r.ns.length i.cap,.int .i64 i.r.c.sh,.int .i64 i.r.c.ra,.int .i64 i.r.c.mo,.int .i64 i.r.c.k,.int .i64 i.r.c.ba,.int .i64 i.r.c.mi,.int .i64 i.r.c.st,.int .i64 i.r.c.bu,.int .i64 i.r.c.s,.int .i64 i.r.c.wi,.int .i64 i.r.c.ca] 24 (0,0)),formCh flo fhi gs i.r.ns,sampCh fhi shi gb i.r.n i.r.c i.r.ds,planCh plo phi gp i.r.c i.r.p,vOwn w.heap.size i.r.p cp (some ⟨gP,0,none⟩) i.st,vOwn w.heap.size i.r.p i.r.p (some ⟨gm,0,none⟩) (zeroL i.r.p),.obj g8 (.cells #[.slice (some ⟨gP,0,none⟩) i.r.p cp,.slice (some ⟨gm,0,none⟩) i.r.p i.r.p] 89 (0,0)),.rd Ax (exCells xs),famCh (exFam xs),.rd Ab (rcells (plBs i.r.c i.r.p))] from HM.out)
 go_wp2_with fail
 refine After.go ⟨HM.out.cells 1 rfl,HM.out.cells 2 rfl,HM.out.cells 8 rfl⟩ ?_
 refine PlS.reads_ ⟨HM.out.cells 1 rfl,HM.out.cells 2 rfl,HM.out.cells 8 rfl⟩ (by kernel_rfl) ?_
 simp only [pickO,p1,p2,p3,p4]
 apply Exists.intro
 apply And.intro
 · intro W' hS
   clear hS
   repeat still_step
   exact wpStill_nil rfl
 refine PlS.eff_ ?_
 simp only [pickO,p1,p2,p3,p4]
 go_wp2_with fail
 refine (CC.out _ _ _ _ (HM.out.st 3 rfl)).mono ?_
 rintro e w11 ⟨rfl,rfl⟩
 clear CC
 go_wp2_with fail
 refine After.go ⟨HM.out.cells 1 rfl,HM.out.cells 2 rfl,HM.out.cells 8 rfl⟩ ?_
 refine PlS.two_ ?_ ?_
 · refine PlS.eff_ ?_
   simp only [pickO,p1,p2,p3,p4]
   go_wp2_with fail
   refine name_after fun wx0 hW=>?_
   replace HM:=K1 (HM.out.zero_ hW.out HP60.out)
   generalize hgg:w10.heap.size=gG at *
   clear hW hgg
   refine After.go ⟨HM.out.cells 1 rfl,HM.out.cells 2 rfl,HM.out.cells 8 rfl⟩ ?_
   refine PlS.eff_ ?_
   simp only [pickO,p1,p2,p3,p4]
   go_wp2_with fail
   refine (CZ.out _ _ _ _ _ (rd_of_own (HM.out.own 6 rfl)) (rd_of_own (HM.out.own 7 rfl))).mono ?_
   rintro e wx1 ⟨Aq,cq,An,cn,rfl,hmz⟩
   have hgz:=(HM.out.bel 0 rfl).size
   have HRQ:=K1 (show (∀ p:Addr,Aq=some p→w.heap.size≤p.block)∧∀ p:Addr,An=some p→w.heap.size≤p.block from ⟨fun p hp=>Nat.le_trans hgz (own_from_base (hmz.own 1 rfl) p hp),fun p hp=>Nat.le_trans hgz (own_from_base (hmz.own 2 rfl) p hp)⟩)
   replace HM:=K1 (((HM.out.join hmz (fun c hc hm=>by
    simp only [List.mem_cons,List.not_mem_nil,or_false] at hc
    rcases hc with rfl | rfl <;> exact absurd trivial hm)).freeze (i:=13) rfl).freeze (i:=14) rfl)
   clear hmz CZ hgz
   go_wp2_with fail
   refine After.go ⟨HM.out.cells 1 rfl,HM.out.cells 2 rfl,HM.out.cells 8 rfl⟩ ?_
   refine PlS.two_ ?_ ?_
   · refine PlS.eff_ ?_
     simp only [pickO,p1,p2,p3,p4]
     go_wp2_with fail
     refine name_after fun wx2 hW=>?_
     replace HM:=K1 (HM.out.row2 hW.out)
     generalize hgr:wx1.heap.size=gR at *
     clear hW hgr
     refine After.go ⟨HM.out.cells 1 rfl,HM.out.cells 2 rfl,HM.out.cells 8 rfl⟩ ?_
     refine PlS.eff_ ?_
     simp only [pickO,p1,p2,p3,p4]
     go_wp2_with fail
     have hph:phi≤wx2.heap.size:=st_lt (HM.out.holds 5 _ rfl) (HM.out.st 5 rfl).in_
     refine (planStep_all i.r.c i.r.p u 0 plo phi gp _ HI.out.c HI.out.p.2 hu (HM.out.st 5 rfl) hph).mono ?_
     rintro e wx3 ⟨Ai,ci,rfl,hci,hri,hAi,hbi⟩
     have hgi:=(HM.out.bel 0 rfl).size
     have HIT:=K1 (show _∧∀ p:Addr,Ai=some p→w.heap.size≤p.block from ⟨hci,fun p hp=>Nat.le_trans hgi (hAi p hp)⟩)
     replace HM:=K1 (HM.out.push_rd hbi hri hAi)
     clear hbi hri hAi hci hph hgi
     go_wp2_with fail
     refine After.go ⟨HM.out.cells 1 rfl,HM.out.cells 2 rfl,HM.out.cells 8 rfl⟩ ?_
     refine PlS.reads_ ⟨HM.out.cells 1 rfl,HM.out.cells 2 rfl,HM.out.cells 8 rfl⟩ (by kernel_rfl) ?_
     simp only [pickO,p1,p2,p3,p4]
     apply Exists.intro
     apply And.intro
     · intro W' hS
       clear hS
       repeat still_step
       exact wpStill_nil rfl
     refine PlS.eff_ ?_
     simp only [pickO,p1,p2,p3,p4]
     go_wp2_with fail
     refine name_after fun wx4 hW=>?_
     replace HM:=K1 (HM.out.alloc_ hW.out)
     generalize hgm:wx3.heap.size=gM at *
     clear hW hgm
     refine After.go ⟨HM.out.cells 1 rfl,HM.out.cells 2 rfl,HM.out.cells 8 rfl⟩ ?_
     refine PlS.reads_ ⟨HM.out.cells 1 rfl,HM.out.cells 2 rfl,HM.out.cells 8 rfl⟩ (by kernel_rfl) ?_
     simp only [pickO,p1,p2,p3,p4]
     apply Exists.intro
     apply And.intro
     · intro W' hS
       clear hS
       repeat still_step
       exact wpStill_nil rfl
     refine PlS.fin_ ?_
     go_wp2_with fail
     go_ret2
     obtain ⟨m,m1,m2,m3,m4,m5,m6,m7⟩:=mnew_fin w wx4 i HI.out u hu gM gs gb gp flo fhi shi plo phi gP cp gm gG gR Aq cq An cn Ai ci Ab cb Ax cx xs HLf.out HLs.out HLp.out HXS.out HAb.out HRQ.out HIT.out (HM.out.pick [0,17,12,6,7,15,13,14,16,11,9,10,5,4,3] _ rfl (by decide))
     exact ⟨m,by rw [m1];rfl,m2,m3,m4,m5,m6,m7⟩
   · refine PlS.eff_ ?_
     simp only [pickO,p1,p2,p3,p4]
     go_wp2_with fail
     have hph:phi≤wx1.heap.size:=st_lt (HM.out.holds 5 _ rfl) (HM.out.st 5 rfl).in_
     refine (planStep_all i.r.c i.r.p u 0 plo phi gp _ HI.out.c HI.out.p.2 hu (HM.out.st 5 rfl) hph).mono ?_
     rintro e wx5 ⟨Ai,ci,rfl,hci,hri,hAi,hbi⟩
     have hgi:=(HM.out.bel 0 rfl).size
     have HIT:=K1 (show _∧∀ p:Addr,Ai=some p→w.heap.size≤p.block from ⟨hci,fun p hp=>Nat.le_trans hgi (hAi p hp)⟩)
     replace HM:=K1 (HM.out.push_rd hbi hri hAi)
     clear hbi hri hAi hci hph hgi
     go_wp2_with fail
     refine After.go ⟨HM.out.cells 1 rfl,HM.out.cells 2 rfl,HM.out.cells 8 rfl⟩ ?_
     refine PlS.eff_ ?_
     simp only [pickO,p1,p2,p3,p4]
     go_wp2_with fail
     refine name_after fun wx6 hW=>?_
     replace HM:=K1 (HM.out.row2 hW.out)
     generalize hgr:wx5.heap.size=gR at *
     clear hW hgr
     refine After.go ⟨HM.out.cells 1 rfl,HM.out.cells 2 rfl,HM.out.cells 8 rfl⟩ ?_
     refine PlS.reads_ ⟨HM.out.cells 1 rfl,HM.out.cells 2 rfl,HM.out.cells 8 rfl⟩ (by kernel_rfl) ?_
     simp only [pickO,p1,p2,p3,p4]
     apply Exists.intro
     apply And.intro
     · intro W' hS
       clear hS
       repeat still_step
       exact wpStill_nil rfl
     refine PlS.eff_ ?_
     simp only [pickO,p1,p2,p3,p4]
     go_wp2_with fail
     refine name_after fun wx7 hW=>?_
     replace HM:=K1 (HM.out.alloc_ hW.out)
     generalize hgm:wx6.heap.size=gM at *
     clear hW hgm
     refine After.go ⟨HM.out.cells 1 rfl,HM.out.cells 2 rfl,HM.out.cells 8 rfl⟩ ?_
     refine PlS.reads_ ⟨HM.out.cells 1 rfl,HM.out.cells 2 rfl,HM.out.cells 8 rfl⟩ (by kernel_rfl) ?_
     simp only [pickO,p1,p2,p3,p4]
     apply Exists.intro
     apply And.intro
     · intro W' hS
       clear hS
       repeat still_step
       exact wpStill_nil rfl
     refine PlS.fin_ ?_
     go_wp2_with fail
     go_ret2
     obtain ⟨m,m1,m2,m3,m4,m5,m6,m7⟩:=mnew_fin w wx7 i HI.out u hu gM gs gb gp flo fhi shi plo phi gP cp gm gG gR Aq cq An cn Ai ci Ab cb Ax cx xs HLf.out HLs.out HLp.out HXS.out HAb.out HRQ.out HIT.out (HM.out.pick [0,17,12,6,7,16,13,14,15,11,9,10,5,4,3] _ rfl (by decide))
     exact ⟨m,by rw [m1];rfl,m2,m3,m4,m5,m6,m7⟩
 · refine PlS.eff_ ?_
   simp only [pickO,p1,p2,p3,p4]
   go_wp2_with fail
   refine (CZ.out _ _ _ _ _ (rd_of_own (HM.out.own 6 rfl)) (rd_of_own (HM.out.own 7 rfl))).mono ?_
   rintro e wx8 ⟨Aq,cq,An,cn,rfl,hmz⟩
   have hgz:=(HM.out.bel 0 rfl).size
   have HRQ:=K1 (show (∀ p:Addr,Aq=some p→w.heap.size≤p.block)∧∀ p:Addr,An=some p→w.heap.size≤p.block from ⟨fun p hp=>Nat.le_trans hgz (own_from_base (hmz.own 1 rfl) p hp),fun p hp=>Nat.le_trans hgz (own_from_base (hmz.own 2 rfl) p hp)⟩)
   replace HM:=K1 (((HM.out.join hmz (fun c hc hm=>by
    simp only [List.mem_cons,List.not_mem_nil,or_false] at hc
    rcases hc with rfl | rfl <;> exact absurd trivial hm)).freeze (i:=12) rfl).freeze (i:=13) rfl)
   clear hmz CZ hgz
   go_wp2_with fail
   refine After.go ⟨HM.out.cells 1 rfl,HM.out.cells 2 rfl,HM.out.cells 8 rfl⟩ ?_
   refine PlS.three_ ?_ ?_ ?_
   · refine PlS.eff_ ?_
     simp only [pickO,p1,p2,p3,p4]
     go_wp2_with fail
     refine name_after fun wx9 hW=>?_
     replace HM:=K1 (HM.out.zero_ hW.out HP60.out)
     generalize hgg:wx8.heap.size=gG at *
     clear hW hgg
     refine After.go ⟨HM.out.cells 1 rfl,HM.out.cells 2 rfl,HM.out.cells 8 rfl⟩ ?_
     refine PlS.two_ ?_ ?_
     · refine PlS.eff_ ?_
       simp only [pickO,p1,p2,p3,p4]
       go_wp2_with fail
       refine name_after fun wx10 hW=>?_
       replace HM:=K1 (HM.out.row2 hW.out)
       generalize hgr:wx9.heap.size=gR at *
       clear hW hgr
       refine After.go ⟨HM.out.cells 1 rfl,HM.out.cells 2 rfl,HM.out.cells 8 rfl⟩ ?_
       refine PlS.eff_ ?_
       simp only [pickO,p1,p2,p3,p4]
       go_wp2_with fail
       have hph:phi≤wx10.heap.size:=st_lt (HM.out.holds 5 _ rfl) (HM.out.st 5 rfl).in_
       refine (planStep_all i.r.c i.r.p u 0 plo phi gp _ HI.out.c HI.out.p.2 hu (HM.out.st 5 rfl) hph).mono ?_
       rintro e wx11 ⟨Ai,ci,rfl,hci,hri,hAi,hbi⟩
       have hgi:=(HM.out.bel 0 rfl).size
       have HIT:=K1 (show _∧∀ p:Addr,Ai=some p→w.heap.size≤p.block from ⟨hci,fun p hp=>Nat.le_trans hgi (hAi p hp)⟩)
       replace HM:=K1 (HM.out.push_rd hbi hri hAi)
       clear hbi hri hAi hci hph hgi
       go_wp2_with fail
       refine After.go ⟨HM.out.cells 1 rfl,HM.out.cells 2 rfl,HM.out.cells 8 rfl⟩ ?_
       refine PlS.reads_ ⟨HM.out.cells 1 rfl,HM.out.cells 2 rfl,HM.out.cells 8 rfl⟩ (by kernel_rfl) ?_
       simp only [pickO,p1,p2,p3,p4]
       apply Exists.intro
       apply And.intro
       · intro W' hS
         clear hS
         repeat still_step
         exact wpStill_nil rfl
       refine PlS.eff_ ?_
       simp only [pickO,p1,p2,p3,p4]
       go_wp2_with fail
       refine name_after fun wx12 hW=>?_
       replace HM:=K1 (HM.out.alloc_ hW.out)
       generalize hgm:wx11.heap.size=gM at *
       clear hW hgm
       refine After.go ⟨HM.out.cells 1 rfl,HM.out.cells 2 rfl,HM.out.cells 8 rfl⟩ ?_
       refine PlS.reads_ ⟨HM.out.cells 1 rfl,HM.out.cells 2 rfl,HM.out.cells 8 rfl⟩ (by kernel_rfl) ?_
       simp only [pickO,p1,p2,p3,p4]
       apply Exists.intro
       apply And.intro
       · intro W' hS
         clear hS
         repeat still_step
         exact wpStill_nil rfl
       refine PlS.fin_ ?_
       go_wp2_with fail
       go_ret2
       obtain ⟨m,m1,m2,m3,m4,m5,m6,m7⟩:=mnew_fin w wx12 i HI.out u hu gM gs gb gp flo fhi shi plo phi gP cp gm gG gR Aq cq An cn Ai ci Ab cb Ax cx xs HLf.out HLs.out HLp.out HXS.out HAb.out HRQ.out HIT.out (HM.out.pick [0,17,14,6,7,15,12,13,16,11,9,10,5,4,3] _ rfl (by decide))
       exact ⟨m,by rw [m1];rfl,m2,m3,m4,m5,m6,m7⟩
     · refine PlS.eff_ ?_
       simp only [pickO,p1,p2,p3,p4]
       go_wp2_with fail
       have hph:phi≤wx9.heap.size:=st_lt (HM.out.holds 5 _ rfl) (HM.out.st 5 rfl).in_
       refine (planStep_all i.r.c i.r.p u 0 plo phi gp _ HI.out.c HI.out.p.2 hu (HM.out.st 5 rfl) hph).mono ?_
       rintro e wx13 ⟨Ai,ci,rfl,hci,hri,hAi,hbi⟩
       have hgi:=(HM.out.bel 0 rfl).size
       have HIT:=K1 (show _∧∀ p:Addr,Ai=some p→w.heap.size≤p.block from ⟨hci,fun p hp=>Nat.le_trans hgi (hAi p hp)⟩)
       replace HM:=K1 (HM.out.push_rd hbi hri hAi)
       clear hbi hri hAi hci hph hgi
       go_wp2_with fail
       refine After.go ⟨HM.out.cells 1 rfl,HM.out.cells 2 rfl,HM.out.cells 8 rfl⟩ ?_
       refine PlS.eff_ ?_
       simp only [pickO,p1,p2,p3,p4]
       go_wp2_with fail
       refine name_after fun wx14 hW=>?_
       replace HM:=K1 (HM.out.row2 hW.out)
       generalize hgr:wx13.heap.size=gR at *
       clear hW hgr
       refine After.go ⟨HM.out.cells 1 rfl,HM.out.cells 2 rfl,HM.out.cells 8 rfl⟩ ?_
       refine PlS.reads_ ⟨HM.out.cells 1 rfl,HM.out.cells 2 rfl,HM.out.cells 8 rfl⟩ (by kernel_rfl) ?_
       simp only [pickO,p1,p2,p3,p4]
       apply Exists.intro
       apply And.intro
       · intro W' hS
         clear hS
         repeat still_step
         exact wpStill_nil rfl
       refine PlS.eff_ ?_
       simp only [pickO,p1,p2,p3,p4]
       go_wp2_with fail
       refine name_after fun wx15 hW=>?_
       replace HM:=K1 (HM.out.alloc_ hW.out)
       generalize hgm:wx14.heap.size=gM at *
       clear hW hgm
       refine After.go ⟨HM.out.cells 1 rfl,HM.out.cells 2 rfl,HM.out.cells 8 rfl⟩ ?_
       refine PlS.reads_ ⟨HM.out.cells 1 rfl,HM.out.cells 2 rfl,HM.out.cells 8 rfl⟩ (by kernel_rfl) ?_
       simp only [pickO,p1,p2,p3,p4]
       apply Exists.intro
       apply And.intro
       · intro W' hS
         clear hS
         repeat still_step
         exact wpStill_nil rfl
       refine PlS.fin_ ?_
       go_wp2_with fail
       go_ret2
       obtain ⟨m,m1,m2,m3,m4,m5,m6,m7⟩:=mnew_fin w wx15 i HI.out u hu gM gs gb gp flo fhi shi plo phi gP cp gm gG gR Aq cq An cn Ai ci Ab cb Ax cx xs HLf.out HLs.out HLp.out HXS.out HAb.out HRQ.out HIT.out (HM.out.pick [0,17,14,6,7,16,12,13,15,11,9,10,5,4,3] _ rfl (by decide))
       exact ⟨m,by rw [m1];rfl,m2,m3,m4,m5,m6,m7⟩
   · refine PlS.eff_ ?_
     simp only [pickO,p1,p2,p3,p4]
     go_wp2_with fail
     refine name_after fun wx16 hW=>?_
     replace HM:=K1 (HM.out.row2 hW.out)
     generalize hgr:wx8.heap.size=gR at *
     clear hW hgr
     refine After.go ⟨HM.out.cells 1 rfl,HM.out.cells 2 rfl,HM.out.cells 8 rfl⟩ ?_
     refine PlS.two_ ?_ ?_
     · refine PlS.eff_ ?_
       simp only [pickO,p1,p2,p3,p4]
       go_wp2_with fail
       refine name_after fun wx17 hW=>?_
       replace HM:=K1 (HM.out.zero_ hW.out HP60.out)
       generalize hgg:wx16.heap.size=gG at *
       clear hW hgg
       refine After.go ⟨HM.out.cells 1 rfl,HM.out.cells 2 rfl,HM.out.cells 8 rfl⟩ ?_
       refine PlS.eff_ ?_
       simp only [pickO,p1,p2,p3,p4]
       go_wp2_with fail
       have hph:phi≤wx17.heap.size:=st_lt (HM.out.holds 5 _ rfl) (HM.out.st 5 rfl).in_
       refine (planStep_all i.r.c i.r.p u 0 plo phi gp _ HI.out.c HI.out.p.2 hu (HM.out.st 5 rfl) hph).mono ?_
       rintro e wx18 ⟨Ai,ci,rfl,hci,hri,hAi,hbi⟩
       have hgi:=(HM.out.bel 0 rfl).size
       have HIT:=K1 (show _∧∀ p:Addr,Ai=some p→w.heap.size≤p.block from ⟨hci,fun p hp=>Nat.le_trans hgi (hAi p hp)⟩)
       replace HM:=K1 (HM.out.push_rd hbi hri hAi)
       clear hbi hri hAi hci hph hgi
       go_wp2_with fail
       refine After.go ⟨HM.out.cells 1 rfl,HM.out.cells 2 rfl,HM.out.cells 8 rfl⟩ ?_
       refine PlS.reads_ ⟨HM.out.cells 1 rfl,HM.out.cells 2 rfl,HM.out.cells 8 rfl⟩ (by kernel_rfl) ?_
       simp only [pickO,p1,p2,p3,p4]
       apply Exists.intro
       apply And.intro
       · intro W' hS
         clear hS
         repeat still_step
         exact wpStill_nil rfl
       refine PlS.eff_ ?_
       simp only [pickO,p1,p2,p3,p4]
       go_wp2_with fail
       refine name_after fun wx19 hW=>?_
       replace HM:=K1 (HM.out.alloc_ hW.out)
       generalize hgm:wx18.heap.size=gM at *
       clear hW hgm
       refine After.go ⟨HM.out.cells 1 rfl,HM.out.cells 2 rfl,HM.out.cells 8 rfl⟩ ?_
       refine PlS.reads_ ⟨HM.out.cells 1 rfl,HM.out.cells 2 rfl,HM.out.cells 8 rfl⟩ (by kernel_rfl) ?_
       simp only [pickO,p1,p2,p3,p4]
       apply Exists.intro
       apply And.intro
       · intro W' hS
         clear hS
         repeat still_step
         exact wpStill_nil rfl
       refine PlS.fin_ ?_
       go_wp2_with fail
       go_ret2
       obtain ⟨m,m1,m2,m3,m4,m5,m6,m7⟩:=mnew_fin w wx19 i HI.out u hu gM gs gb gp flo fhi shi plo phi gP cp gm gG gR Aq cq An cn Ai ci Ab cb Ax cx xs HLf.out HLs.out HLp.out HXS.out HAb.out HRQ.out HIT.out (HM.out.pick [0,17,15,6,7,14,12,13,16,11,9,10,5,4,3] _ rfl (by decide))
       exact ⟨m,by rw [m1];rfl,m2,m3,m4,m5,m6,m7⟩
     · refine PlS.eff_ ?_
       simp only [pickO,p1,p2,p3,p4]
       go_wp2_with fail
       have hph:phi≤wx16.heap.size:=st_lt (HM.out.holds 5 _ rfl) (HM.out.st 5 rfl).in_
       refine (planStep_all i.r.c i.r.p u 0 plo phi gp _ HI.out.c HI.out.p.2 hu (HM.out.st 5 rfl) hph).mono ?_
       rintro e wx20 ⟨Ai,ci,rfl,hci,hri,hAi,hbi⟩
       have hgi:=(HM.out.bel 0 rfl).size
       have HIT:=K1 (show _∧∀ p:Addr,Ai=some p→w.heap.size≤p.block from ⟨hci,fun p hp=>Nat.le_trans hgi (hAi p hp)⟩)
       replace HM:=K1 (HM.out.push_rd hbi hri hAi)
       clear hbi hri hAi hci hph hgi
       go_wp2_with fail
       refine After.go ⟨HM.out.cells 1 rfl,HM.out.cells 2 rfl,HM.out.cells 8 rfl⟩ ?_
       refine PlS.eff_ ?_
       simp only [pickO,p1,p2,p3,p4]
       go_wp2_with fail
       refine name_after fun wx21 hW=>?_
       replace HM:=K1 (HM.out.zero_ hW.out HP60.out)
       generalize hgg:wx20.heap.size=gG at *
       clear hW hgg
       refine After.go ⟨HM.out.cells 1 rfl,HM.out.cells 2 rfl,HM.out.cells 8 rfl⟩ ?_
       refine PlS.reads_ ⟨HM.out.cells 1 rfl,HM.out.cells 2 rfl,HM.out.cells 8 rfl⟩ (by kernel_rfl) ?_
       simp only [pickO,p1,p2,p3,p4]
       apply Exists.intro
       apply And.intro
       · intro W' hS
         clear hS
         repeat still_step
         exact wpStill_nil rfl
       refine PlS.eff_ ?_
       simp only [pickO,p1,p2,p3,p4]
       go_wp2_with fail
       refine name_after fun wx22 hW=>?_
       replace HM:=K1 (HM.out.alloc_ hW.out)
       generalize hgm:wx21.heap.size=gM at *
       clear hW hgm
       refine After.go ⟨HM.out.cells 1 rfl,HM.out.cells 2 rfl,HM.out.cells 8 rfl⟩ ?_
       refine PlS.reads_ ⟨HM.out.cells 1 rfl,HM.out.cells 2 rfl,HM.out.cells 8 rfl⟩ (by kernel_rfl) ?_
       simp only [pickO,p1,p2,p3,p4]
       apply Exists.intro
       apply And.intro
       · intro W' hS
         clear hS
         repeat still_step
         exact wpStill_nil rfl
       refine PlS.fin_ ?_
       go_wp2_with fail
       go_ret2
       obtain ⟨m,m1,m2,m3,m4,m5,m6,m7⟩:=mnew_fin w wx22 i HI.out u hu gM gs gb gp flo fhi shi plo phi gP cp gm gG gR Aq cq An cn Ai ci Ab cb Ax cx xs HLf.out HLs.out HLp.out HXS.out HAb.out HRQ.out HIT.out (HM.out.pick [0,17,16,6,7,14,12,13,15,11,9,10,5,4,3] _ rfl (by decide))
       exact ⟨m,by rw [m1];rfl,m2,m3,m4,m5,m6,m7⟩
   · refine PlS.eff_ ?_
     simp only [pickO,p1,p2,p3,p4]
     go_wp2_with fail
     have hph:phi≤wx8.heap.size:=st_lt (HM.out.holds 5 _ rfl) (HM.out.st 5 rfl).in_
     refine (planStep_all i.r.c i.r.p u 0 plo phi gp _ HI.out.c HI.out.p.2 hu (HM.out.st 5 rfl) hph).mono ?_
     rintro e wx23 ⟨Ai,ci,rfl,hci,hri,hAi,hbi⟩
     have hgi:=(HM.out.bel 0 rfl).size
     have HIT:=K1 (show _∧∀ p:Addr,Ai=some p→w.heap.size≤p.block from ⟨hci,fun p hp=>Nat.le_trans hgi (hAi p hp)⟩)
     replace HM:=K1 (HM.out.push_rd hbi hri hAi)
     clear hbi hri hAi hci hph hgi
     go_wp2_with fail
     refine After.go ⟨HM.out.cells 1 rfl,HM.out.cells 2 rfl,HM.out.cells 8 rfl⟩ ?_
     refine PlS.two_ ?_ ?_
     · refine PlS.eff_ ?_
       simp only [pickO,p1,p2,p3,p4]
       go_wp2_with fail
       refine name_after fun wx24 hW=>?_
       replace HM:=K1 (HM.out.zero_ hW.out HP60.out)
       generalize hgg:wx23.heap.size=gG at *
       clear hW hgg
       refine After.go ⟨HM.out.cells 1 rfl,HM.out.cells 2 rfl,HM.out.cells 8 rfl⟩ ?_
       refine PlS.eff_ ?_
       simp only [pickO,p1,p2,p3,p4]
       go_wp2_with fail
       refine name_after fun wx25 hW=>?_
       replace HM:=K1 (HM.out.row2 hW.out)
       generalize hgr:wx24.heap.size=gR at *
       clear hW hgr
       refine After.go ⟨HM.out.cells 1 rfl,HM.out.cells 2 rfl,HM.out.cells 8 rfl⟩ ?_
       refine PlS.reads_ ⟨HM.out.cells 1 rfl,HM.out.cells 2 rfl,HM.out.cells 8 rfl⟩ (by kernel_rfl) ?_
       simp only [pickO,p1,p2,p3,p4]
       apply Exists.intro
       apply And.intro
       · intro W' hS
         clear hS
         repeat still_step
         exact wpStill_nil rfl
       refine PlS.eff_ ?_
       simp only [pickO,p1,p2,p3,p4]
       go_wp2_with fail
       refine name_after fun wx26 hW=>?_
       replace HM:=K1 (HM.out.alloc_ hW.out)
       generalize hgm:wx25.heap.size=gM at *
       clear hW hgm
       refine After.go ⟨HM.out.cells 1 rfl,HM.out.cells 2 rfl,HM.out.cells 8 rfl⟩ ?_
       refine PlS.reads_ ⟨HM.out.cells 1 rfl,HM.out.cells 2 rfl,HM.out.cells 8 rfl⟩ (by kernel_rfl) ?_
       simp only [pickO,p1,p2,p3,p4]
       apply Exists.intro
       apply And.intro
       · intro W' hS
         clear hS
         repeat still_step
         exact wpStill_nil rfl
       refine PlS.fin_ ?_
       go_wp2_with fail
       go_ret2
       obtain ⟨m,m1,m2,m3,m4,m5,m6,m7⟩:=mnew_fin w wx26 i HI.out u hu gM gs gb gp flo fhi shi plo phi gP cp gm gG gR Aq cq An cn Ai ci Ab cb Ax cx xs HLf.out HLs.out HLp.out HXS.out HAb.out HRQ.out HIT.out (HM.out.pick [0,17,15,6,7,16,12,13,14,11,9,10,5,4,3] _ rfl (by decide))
       exact ⟨m,by rw [m1];rfl,m2,m3,m4,m5,m6,m7⟩
     · refine PlS.eff_ ?_
       simp only [pickO,p1,p2,p3,p4]
       go_wp2_with fail
       refine name_after fun wx27 hW=>?_
       replace HM:=K1 (HM.out.row2 hW.out)
       generalize hgr:wx23.heap.size=gR at *
       clear hW hgr
       refine After.go ⟨HM.out.cells 1 rfl,HM.out.cells 2 rfl,HM.out.cells 8 rfl⟩ ?_
       refine PlS.eff_ ?_
       simp only [pickO,p1,p2,p3,p4]
       go_wp2_with fail
       refine name_after fun wx28 hW=>?_
       replace HM:=K1 (HM.out.zero_ hW.out HP60.out)
       generalize hgg:wx27.heap.size=gG at *
       clear hW hgg
       refine After.go ⟨HM.out.cells 1 rfl,HM.out.cells 2 rfl,HM.out.cells 8 rfl⟩ ?_
       refine PlS.reads_ ⟨HM.out.cells 1 rfl,HM.out.cells 2 rfl,HM.out.cells 8 rfl⟩ (by kernel_rfl) ?_
       simp only [pickO,p1,p2,p3,p4]
       apply Exists.intro
       apply And.intro
       · intro W' hS
         clear hS
         repeat still_step
         exact wpStill_nil rfl
       refine PlS.eff_ ?_
       simp only [pickO,p1,p2,p3,p4]
       go_wp2_with fail
       refine name_after fun wx29 hW=>?_
       replace HM:=K1 (HM.out.alloc_ hW.out)
       generalize hgm:wx28.heap.size=gM at *
       clear hW hgm
       refine After.go ⟨HM.out.cells 1 rfl,HM.out.cells 2 rfl,HM.out.cells 8 rfl⟩ ?_
       refine PlS.reads_ ⟨HM.out.cells 1 rfl,HM.out.cells 2 rfl,HM.out.cells 8 rfl⟩ (by kernel_rfl) ?_
       simp only [pickO,p1,p2,p3,p4]
       apply Exists.intro
       apply And.intro
       · intro W' hS
         clear hS
         repeat still_step
         exact wpStill_nil rfl
       refine PlS.fin_ ?_
       go_wp2_with fail
       go_ret2
       obtain ⟨m,m1,m2,m3,m4,m5,m6,m7⟩:=mnew_fin w wx29 i HI.out u hu gM gs gb gp flo fhi shi plo phi gP cp gm gG gR Aq cq An cn Ai ci Ab cb Ax cx xs HLf.out HLs.out HLp.out HXS.out HAb.out HRQ.out HIT.out (HM.out.pick [0,17,16,6,7,15,12,13,14,11,9,10,5,4,3] _ rfl (by decide))
       exact ⟨m,by rw [m1];rfl,m2,m3,m4,m5,m6,m7⟩
end Go.Proofs.YtdpojpcoghcieaaGreat
