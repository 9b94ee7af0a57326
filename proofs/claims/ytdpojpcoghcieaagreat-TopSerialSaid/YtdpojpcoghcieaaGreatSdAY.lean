/- A part of the proof of TopSerial: DataMap, MachP, LinkRecv. Conditions: none. -/
import Derived.Test.YtdpojpcoghcieaaGreatSdAX
set_option maxHeartbeats 8000000
namespace Go.Proofs.YtdpojpcoghcieaaGreat
open Lib renaming hid → K1
open List renaming filterMap_cons → p1, filterMap_nil → p2, getElem?_cons_zero → p3, getElem?_cons_succ → p4
open Go.RowKit
def exFam (l:List Ex):List (Option Addr × List Value):=l.flatMap fun e=>[(e.ax,zC e.xs),(e.ay,zC e.ys)]
theorem exFam_snoc (l:List Ex) (e:Ex):exFam (l++[e])=(exFam l++[(e.ax,zC e.xs)])++[(e.ay,zC e.ys)]:=by simp [exFam]
theorem exCells_snoc (l:List Ex) (e:Ex):exCells (l++[e])=exCells l++[.slice e.ax e.xs.length e.cx,.slice e.ay e.ys.length e.cy]:=by simp [exCells,Ex.cells]
theorem exFam_x {l:List Ex} {e:Ex} (h:e∈l):(e.ax,zC e.xs)∈exFam l:=List.mem_flatMap.2 ⟨e,h,List.mem_cons_self ..⟩
theorem exFam_y {l:List Ex} {e:Ex} (h:e∈l):(e.ay,zC e.ys)∈exFam l:=List.mem_flatMap.2 ⟨e,h,List.mem_cons_of_mem _ (List.mem_cons_self ..)⟩
def Ex.nums (e:Ex):List Int × List Int:=(e.xs,e.ys)
theorem Mem.ex2 {W:World} {L:List Ch} (h:Mem W L) (ix:Nat) {b off i:Nat} {l:List Ex} {e:Ex} (hx:L[ix]?=some (.rd (some ⟨b,off,none⟩) (exCells l))) (hi:l[i]?=some e) :
  W.cell? ⟨b,off+i*2,none⟩=some (.slice e.ax e.xs.length e.cx)∧W.cell? ⟨b,off+i*2+1,none⟩=some (.slice e.ay e.ys.length e.cy):=by
 have ha:=exCells_at l i e hi
 rw [Nat.mul_comm] at ha
 exact ⟨h.rdAt ix hx ha.1,by rw [Nat.add_assoc];exact h.rdAt ix hx ha.2⟩
theorem infoEx:(Tryz.prog.info? 140).map (fun i=>(i.zero,i.size,i.bytes))=some (some (.agg #[.slice none 0 0,.slice none 0 0]),2,48):=by kernel_rfl
theorem rowEx:RowT Tryz.prog 25 140 2 48:=by
 obtain ⟨i0,hi,hz0,hz1,hz2⟩:=info_parts infoEx
 exact ⟨i0,_,Tryz.underlying25,hi,hz0,hz1,hz2,rfl,by decide,by decide⟩
def dmP (w:World) (A:Option Addr) (l:List Ex) (Ao:Option Addr) (k co:Nat) (out:List Ex):List Ch :=
 [.bel w.heap.size w,.rd A (exCells l),famCh (exFam l),.own w.heap.size 140 2 (.slice Ao k co) k (exCells out),famCh (exFam out)]
set_option maxRecDepth 100000 in
theorem dmapped_any (w:World) (A:Option Addr) (n cap:Nat) (l:List Ex) (hr:Rd w w.heap.size A (exCells l)) (hf:∀ a∈exFam l,Rd w w.heap.size a.1 a.2) (hl:l.length=n) (hn:n≤1000000) (hx:∀ e∈l,e.xs.length≤1048576∧e.ys.length≤1048576) :
  Calls Tryz.prog 110 #[.slice A n cap,.func (.func 111) #[] #[]] w fun e w'=>∃ Ao co out,e=.returned (.tuple #[.slice Ao n co,.bool true])∧out.map Ex.nums=l.map Ex.nums ∧
   (∀ a∈exFam out,∀ p:Addr,a.1=some p→w.heap.size≤p.block)∧Mem w' [.bel w.heap.size w,.own w.heap.size 140 2 (.slice Ao n co) n (exCells out),famCh (exFam out)]:=by
 have HC:=K1 (fun (e:Ex) (he:e∈l) (W:World) (h1:Rd W W.heap.size e.ax (zC e.xs)) (h2:Rd W W.heap.size e.ay (zC e.ys))=>dclone1_any W e.ax e.ay e.xs.length e.ys.length e.cx e.cy e.xs e.ys h1 h2 rfl rfl (hx e he).1 (hx e he).2)
 have hA:0<n→∃ b off,A=some ⟨b,off,none⟩:=fun h0=>by
  obtain ⟨b,off,e,_⟩:=hr (by rw [exCells_len];omega)
  exact ⟨b,off,e⟩
 have HM0:=K1 (((((Mem.start w).add_rd (i:=0) rfl hr).more (i:=0) (d:=famCh (exFam l)) rfl (fun h=>h) (fam_local hf) (fun h=>h) (fun g hg=>by
  obtain ⟨a,ha,h0,p,hp,rfl⟩:=hg
  obtain ⟨b,off,e,hb,_⟩:=hf a ha h0
  rw [hp] at e;injection e with e;subst e;exact hb)).add (c:=.own w.heap.size 140 2 (.slice none 0 0) 0 (exCells [])) ⟨own_nil _ _ _ _,Nat.le_refl _⟩ (fun _ _ _ _ g hg=>by cases hg)).add (c:=famCh (exFam [])) (fam_local (fun a ha=>by cases ha)) (fun _ _ _ _ g hg=>by obtain ⟨a,ha,_⟩:=hg;cases ha))
 clear hr hf hx
 go_enter Tryz.func110,Tryz.ntmps110
 go_wp2_with fail
 go_loopw [6,13] (fun s6 i wr=>∃ (k:Nat) (Ao:Option Addr) (co:Nat) (out:List Ex),k≤n∧s6=.slice Ao k co∧i=.int .i64 k∧Hid (out.map Ex.nums=(l.take k).map Ex.nums)∧Hid (∀ a∈exFam out,∀ p:Addr,a.1=some p→w.heap.size≤p.block)∧Hid (Mem wr (dmP w A l Ao k co out))) (fun _ i _=>n-(intOf i).toNat)
 case atStart=>exact ⟨0,none,0,[],Nat.zero_le _,rfl,rfl,K1 rfl,K1 (fun a ha=>by cases ha),HM0⟩
 case round =>
  clear HM0
  obtain ⟨k,Ao,co,out,hk,rfl,rfl,HN,HB,HM⟩:=hrel
  by_cases hlt:k<n
  · obtain ⟨b,off,rfl⟩:=hA (by omega)
    obtain ⟨e,he⟩:=get_some l k (by omega)
    have hem:=List.mem_of_getElem? he
    have CC:=K1 (fun W=>HC.out e hem W)
    have ⟨e3,e4⟩:=HM.out.ex2 1 rfl he
    have HE:=K1 (And.intro (exFam_x hem) (exFam_y hem))
    have HT:=K1 (show l.take (k+1)=l.take k++[e] by rw [List.take_add_one,he];rfl)
    obtain ⟨ax,xs,cx,ay,ys,cy⟩:=e
    dsimp only at CC e3 e4 HE HT
    obtain ⟨nx,hnx⟩:∃ nx,nx=xs.length:=⟨_,rfl⟩
    obtain ⟨ny,hny⟩:∃ ny,ny=ys.length:=⟨_,rfl⟩
    rw [← hnx,← hny] at CC
    rw [← hnx] at e3
    rw [← hny] at e4
    have HL:=K1 (And.intro hnx hny)
    have HM1:=K1 (HM.out.alloc (.cells #[.slice ax nx cx,.slice ay ny cy] 140))
    clear HM he hem hnx hny
    go_wp2_with fail
    refine name_calls fun W0 hW0=>?_
    have HM2:=K1 (hW0.out.symm ▸ HM1.out)
    clear hW0 HM1 e3 e4
    refine (CC.out _ (HM2.out.st 2 rfl _ HE.out.1) (HM2.out.st 2 rfl _ HE.out.2)).mono ?_
    rintro e w2 ⟨Ap,cp,Am,cm,rfl,hm2⟩
    have hlo:=(HM2.out.bel 0 rfl).size
    have HB1:=K1 (show ∀ p:Addr,Ap=some p→w.heap.size≤p.block from fun p hp=>Nat.le_trans hlo (own_from_base (hm2.own 1 rfl) p hp))
    have HB2:=K1 (show ∀ p:Addr,Am=some p→w.heap.size≤p.block from fun p hp=>Nat.le_trans hlo (own_from_base (hm2.own 2 rfl) p hp))
    have HM3:=K1 (((HM2.out.join hm2 (fun c hc hm=>by
     simp only [List.mem_cons,List.not_mem_nil,or_false] at hc
     rcases hc with rfl | rfl <;> exact absurd trivial hm)).freeze (i:=6) rfl).freeze (i:=7) rfl)
    clear hm2 hlo CC HM2
    have hm5:=(HM3.out.alloc (.cells #[.slice Ap nx cp,.slice Am ny cm] 140)).alloc (.cells #[.slice Ap nx cp,.slice Am ny cm] 140)
    simp only [World.size_alloc] at hm5
    have HM5:=K1 hm5
    clear HM3 hm5
    go_wp2_with (at_builtin;refine wpList_append_mem rfl _ _ 25 rfl HM5.out 3 rowEx rfl rfl _ 1 _ [.slice Ap nx cp,.slice Am ny cm] rfl (HM5.out.box 9 rfl) rfl (by intro u hu;simp at hu;rcases hu with rfl | rfl <;> rfl) (by omega) ?_;intro A' c' W4 hM4)
    have HM6:=K1 (((hM4.famSnoc (i:=4) (j:=6) rfl rfl).famSnoc (i:=4) (j:=7) rfl rfl).front 5)
    clear hM4 HM5
    go_wp2_with fail
    go_roundw
    case rel =>
     refine ⟨k+1,A',c',out++[⟨Ap,xs,cp,Am,ys,cm⟩],by omega,rfl,by go_num,K1 ?_,K1 ?_,K1 ?_⟩
     · rw [HT.out,List.map_append,List.map_append,HN.out];rfl
     · rw [exFam_snoc]
       intro a ha p hp
       rcases List.mem_append.1 ha with ha | ha
       · rcases List.mem_append.1 ha with ha | ha
         · exact HB.out a ha p hp
         · rw [List.mem_singleton.1 ha] at hp;exact HB1.out p hp
       · rw [List.mem_singleton.1 ha] at hp;exact HB2.out p hp
     · unfold dmP
       rw [exFam_snoc,exCells_snoc]
       dsimp only
       rw [← HL.out.1,← HL.out.2]
       exact HM6.out
    case measure=>simp [intOf];omega
  · have hkn:k=n:=by omega
    subst hkn
    have HF:=K1 HM.out
    clear HM
    go_wp2_with fail
    go_ret2
    refine ⟨Ao,co,out,rfl,?_,HB.out,HF.out.pick [0,3,4] _ rfl (by decide)⟩
    rw [HN.out,List.take_of_length_le (by omega)]
structure Ln where
 g:Nat
 base:Nat
 cap:Nat
 A:Option Addr
 n:Nat
 c:Nat
 se:Nat
 re:Nat
 pk:Nat
 ms:List Ms
def Ln.ps (l:Ln):List Ch:=[linkB l.g l.A l.n l.c l.cap l.se l.re l.pk,.own l.base 78 6 (.slice l.A l.n l.c) l.n (mcells l.ms),famCh (lfam l.ms)]
structure Ln.Ok (l:Ln):Prop where
 ok:LinkOk l.n l.cap l.se l.re l.ms
 pk:l.pk≤l.cap
def Ln.q (l:Ln):List (Tg × List Int):=qL l.cap l.se l.re l.ms
structure Mf where
 g:Nat
 u:Nat
 c:Kf
 p:Nat
 ns:List Nat
 flo:Nat
 fhi:Nat
 gs:Nat
 n:Nat
 slo:Nat
 shi:Nat
 gb:Nat
 ds:List Nat
 plo:Nat
 phi:Nat
 gp:Nat
 Ax:Option Addr
 cx:Nat
 xs:List Ex
 Ab:Option Addr
 cb:Nat
structure Mc where
 f:Mf
 B:Nat
 gP:Nat
 cP:Nat
 P:List Int
 gM:Nat
 cM:Nat
 M:List Int
 BG:Nat
 gG:Nat
 G:List Int
 BR:Nat
 Ar:Option Addr
 cr:Nat
 rcd:List Ex
 Ai:Option Addr
 ci:Nat
 t:Nat
 next:Nat
 cnt:Nat
 BO:Nat
 Ao:Option Addr
 co:Nat
 opn:List Nat
def itsAt (f:Mf) (t:Nat):List It:=if t<f.c.st then plIts f.c f.p t f.u else []
def Mc.its (m:Mc):List It:=itsAt m.f m.t
def Mf.ru (f:Mf):Ru:=⟨f.c.ra,f.c.mo,f.c.sh⟩
def Mc.cells (m:Mc):List Value:=[.int .i64 m.f.u,.int .i64 m.f.c.k,.int .i64 m.f.c.mi,.pointer (some ⟨m.f.gs,0,none⟩),.slice m.f.Ax m.f.n m.f.cx,.pointer (some ⟨m.f.gb,0,none⟩),.pointer (some ⟨m.f.gp,0,none⟩),.slice m.f.Ab (plBs m.f.c m.f.p).length m.f.cb,.int .i64 m.f.c.ra,.int .i64 m.f.c.mo,.int .i64 m.f.c.sh,
 .slice (some ⟨m.gP,0,none⟩) m.f.p m.cP,.slice (some ⟨m.gM,0,none⟩) m.f.p m.cM,.slice (some ⟨m.gG,0,none⟩) m.f.p m.f.p,.slice m.Ar m.rcd.length m.cr,.slice m.Ai m.its.length m.ci,.int .i64 m.next,.int .i64 m.cnt,.slice m.Ao m.opn.length m.co]
def planCh (lo hi gp:Nat) (c:Kf) (p:Nat):Ch:=.st (fun g=>lo≤g∧g<hi) (fun W=>PlanAt W lo hi gp c p)
def sampCh (lo hi gb n:Nat) (c:Kf) (ds:List Nat):Ch:=.st (fun g=>lo≤g∧g<hi) (fun W=>SampAt W lo hi gb n c.ba c.st ds)
def formCh (lo hi gs:Nat) (ns:List Nat):Ch:=.st (fun g=>lo≤g∧g<hi) (fun W=>FormAt W lo hi gs ns)
theorem planCh_holds {W:World} {lo hi gp:Nat} {c:Kf} {p:Nat} (h:PlanAt W lo hi gp c p) (hh:hi≤W.heap.size):(planCh lo hi gp c p).Holds W:=⟨h,fun g hg=>by omega,fun _ _ _ hk h=>h.keep fun g h1 h2=>hk g ⟨h1,h2⟩⟩
theorem sampCh_holds {W:World} {lo hi gb n:Nat} {c:Kf} {ds:List Nat} (h:SampAt W lo hi gb n c.ba c.st ds) (hh:hi≤W.heap.size):(sampCh lo hi gb n c ds).Holds W:=⟨h,fun g hg=>by omega,fun _ _ _ hk h=>h.keep fun g h1 h2=>hk g ⟨h1,h2⟩⟩
theorem formCh_holds {W:World} {lo hi gs:Nat} {ns:List Nat} (h:FormAt W lo hi gs ns) (hh:hi≤W.heap.size):(formCh lo hi gs ns).Holds W:=⟨h,fun g hg=>by omega,fun _ _ _ hk h=>h.keep fun g h1 h2=>hk g ⟨h1,h2⟩⟩
def Mc.ps (m:Mc):List Ch:=[.obj m.f.g (.cells m.cells.toArray 169 (0,0)),
 vOwn m.BG m.f.p m.f.p (some ⟨m.gG,0,none⟩) m.G,vOwn m.B m.f.p m.cP (some ⟨m.gP,0,none⟩) m.P,vOwn m.B m.f.p m.cM (some ⟨m.gM,0,none⟩) m.M,
 .own m.BR 89 2 (.slice m.Ar m.rcd.length m.cr) m.rcd.length (exCells m.rcd),famCh (exFam m.rcd),.rd m.Ai (icells m.its),
 .own m.BO 3 1 (.slice m.Ao m.opn.length m.co) m.opn.length (iCells m.opn),.rd m.f.Ab (rcells (plBs m.f.c m.f.p)),.rd m.f.Ax (exCells m.f.xs),famCh (exFam m.f.xs),
 planCh m.f.plo m.f.phi m.f.gp m.f.c m.f.p,sampCh m.f.slo m.f.shi m.f.gb m.f.n m.f.c m.f.ds,formCh m.f.flo m.f.fhi m.f.gs m.f.ns]
structure Mf.Ok (f:Mf):Prop where
 c:f.c.Ok
 p:1≤f.p∧f.p≤60
 ns:NsOk f.ns
 pn:f.p=offN f.ns (f.ns.length-1)
 u:f.u<f.c.k
 n:f.n≤1000∧f.c.ba≤f.n
 ru:f.ru.Ok
 xs:f.xs.length=f.n
 ex:∃ a b,f.ns[0]?=some a∧f.ns[f.ns.length-1]?=some b∧∀ e∈f.xs,e.xs.length=a∧e.ys.length=b∧In64 e.xs∧In64 e.ys
 cb:(plBs f.c f.p).length≤f.cb
 cx:f.n≤f.cx
structure Mc.Ok (m:Mc):Prop where
 f:m.f.Ok
 P:m.P.length=m.f.p∧In64 m.P
 M:m.M.length=m.f.p∧In64 m.M
 G:m.G.length=m.f.p∧In64 m.G
 cP:m.f.p≤m.cP
 cM:m.f.p≤m.cM
 rcds:∀ e∈m.rcd,e.xs.length=m.f.p∧e.ys.length=m.f.p
 next:m.t<m.f.c.st→m.next<m.its.length
 end_:m.f.c.st≤m.t→m.next=0
 t:m.t≤m.f.c.st
 recs:m.rcd.length≤m.cnt+1
 opns:m.opn.length≤m.cnt
 ci:m.its.length≤m.ci
theorem Mc.Ok.at_ {m:Mc} (h:m.Ok) (ht:m.t<m.f.c.st):∃ x,m.its[m.next]?=some x∧ItOk m.f.p (plBs m.f.c m.f.p).length m.f.c.k m.f.c.mi m.t x:=by
 obtain ⟨x,hx⟩:=get_some m.its m.next (h.next ht)
 refine ⟨x,hx,?_⟩
 have hm:=List.mem_of_getElem? hx
 unfold Mc.its itsAt at hm
 rw [if_pos ht] at hm
 exact plIts_ok h.f.c h.f.p.2 x hm
theorem Mc.Ok.none_ {m:Mc} (h:m.Ok) (ht:¬ m.t<m.f.c.st):m.its=[]∧m.next=0:=⟨by unfold Mc.its itsAt;rw [if_neg ht],h.end_ (by omega)⟩
attribute [local go_sem] guardT neqT
abbrev msZero:Value:=.agg #[.int .i64 0,.int .i64 0,.int .i64 0,.int .i64 0,.int .i64 0,.slice none 0 0]
def msAt (W:World) (b o:Nat) (m:Ms):Prop:=W.cell? ⟨b,o,none⟩=some (.int .i64 m.t.step)∧W.cell? ⟨b,o+1,none⟩=some (.int .i64 m.t.bucket)∧W.cell? ⟨b,o+2,none⟩=some (.int .i64 m.t.phase)∧W.cell? ⟨b,o+3,none⟩=some (.int .i64 m.t.round)∧W.cell? ⟨b,o+4,none⟩=some (.int .i64 m.t.chunk)∧W.cell? ⟨b,o+5,none⟩=some (.slice m.A m.v.length m.c)
theorem msAt_of {W:World} {B b o k:Nat} {ms:List Ms} {m:Ms} (h:Rd W B (some ⟨b,o,none⟩) (mcells ms)) (hm:ms[k]?=some m):msAt W b (o+k*6) m:=by
 have hl:0<(mcells ms).length:=by
  have:=(List.getElem?_eq_some_iff.1 hm).1
  rw [mcells_len];omega
 obtain ⟨b',o',e,_,hc⟩:=h hl
 injection e with e
 injection e with e1 e2
 subst e1;subst e2
 have key:∀ i u,m.cells[i]?=some u→W.cell? ⟨b,o+k*6+i,none⟩=some u:=fun i u hu=>by
  rw [Nat.add_assoc];exact hc _ _ (mcells_at hm hu)
 exact ⟨key 0 _ rfl,key 1 _ rfl,key 2 _ rfl,key 3 _ rfl,key 4 _ rfl,key 5 _ rfl⟩
theorem Ln.ring {l:Ln} {W:World} {R:List Ch} (h:Mem W (l.ps++R)):Rd W W.heap.size l.A (mcells l.ms):=rd_of_own (h.own 1 rfl)
theorem Ln.blk {l:Ln} {W:World} {R:List Ch} (h:Mem W (l.ps++R)):W.heap[l.g]?=some (.cells (linkC l.A l.n l.c l.cap l.se l.re l.pk).toArray 172 (0,0)):=h.obj 0 rfl
set_option maxRecDepth 100000 in
theorem receive_any (w:World) (l:Ln) (R:List Ch) (h:Mem w (l.ps++R)) (ho:l.Ok) (hb:l.se≤1000000000) (hlt:l.re<l.se) (m:Ms) (hm:l.ms[l.re % l.cap]?=some m) :
  Calls Tryz.prog 211 #[.pointer (some ⟨l.g,0,none⟩),.agg m.t.cells.toArray] w fun e w'=>e=.returned (.tuple #[.agg m.cells.toArray,.int .i64 0])∧Mem w' (({ l with re:=l.re+1 }:Ln).ps++R):=by
 obtain ⟨g,base,cap,A,n,c,se,re,pk,ms⟩:=l
 dsimp only at *
 have hn:=ho.ok.len
 have hcap:=ho.ok.cp
 dsimp only at hn hcap
 obtain ⟨b,o,rfl,_,_⟩:=Ln.ring h (by
  have:=(List.getElem?_eq_some_iff.1 hm).1
  rw [mcells_len];dsimp only;omega)
 have CP:=K1 (fun (W:World) (h0:Mem W (({ g:=g,base:=base,cap:=cap,A:=some ⟨b,o,none⟩,n:=n,c:=c,se:=se,re:=re,pk:=pk,ms:=ms }:Ln).ps++R))=>peek_any W g n c cap se re pk (some ⟨b,o,none⟩) ms m (Ln.blk h0) (Ln.ring h0) hn hlt hb hcap.1 hm)
 have CL:=K1 (fun (W:World) h=>linkPlace_any W g n c cap se re pk re (some ⟨b,o,none⟩) h hcap.1 (by omega))
 have HS:=K1 (fun (W:World) (h0:Rd W W.heap.size (some ⟨b,o,none⟩) (mcells ms))=>msAt_of h0 hm)
 have hkn:re % cap<n:=by rw [← hn];exact (List.getElem?_eq_some_iff.1 hm).1
 generalize re % cap=k at *
 obtain ⟨⟨st,bu,ph,ro,ch⟩,mA,mc,mv⟩:=m
 obtain ⟨nv,hnv⟩:∃ nv,nv=mv.length:=⟨_,rfl⟩
 obtain ⟨re1,hre1⟩:∃ re1,re1=re+1:=⟨_,rfl⟩
 have hrei:(re:Int)+1=(re1:Int):=by omega
 have hreb:re1≤1000000000:=by omega
 have wre:IntKind.i64.wrap (re1:Int)=(re1:Int):=IntWalk.i64_in _ (by omega)
 dsimp only [Tg.cells,Ms.cells,msAt] at *
 simp only [List.cons_append,List.nil_append]
 rw [← hnv] at HS ⊢
 rw [← hre1]
 have hm0:=((h.alloc (.cells #[.int .i64 st,.int .i64 bu,.int .i64 ph,.int .i64 ro,.int .i64 ch] 71)).fA.alloc (.cells #[.int .i64 0,.int .i64 0,.int .i64 0,.int .i64 0,.int .i64 0,.slice none 0 0] 78)).fA
 simp only [World.size_alloc] at hm0
 have HM:=K1 hm0
 clear hm0 h ho hm hn hnv hre1 hb
 go_enter Tryz.func211,Tryz.ntmps211
 go_wp2_with fail
 refine name_calls fun W0 hW0=>?_
 replace HM:=K1 (hW0.out.symm ▸ HM.out)
 clear hW0
 refine (CP.out _ HM.out.mid.mid).mono ?_
 rintro e w1 ⟨rfl,hb⟩
 replace HM:=K1 (HM.out.below hb)
 clear hb CP
 have HF:=K1 ((HM.out.alloc (.cells #[.int .i64 st,.int .i64 bu,.int .i64 ph,.int .i64 ro,.int .i64 ch] 71)).fA)
 have c4:=HF.out.cells 3 rfl
 have c5:=HF.out.cells 5 rfl
 clear HM
 go_wp2_with fail
 refine name_wp fun W2 hW2=>?_
 replace HF:=K1 (hW2.out.symm ▸ HF.out)
 clear hW2 c4 c5
 have HT:=K1 (show ∀ (W:World) (M:List Ch),Mem W M→M[0]?=some (linkB g (some ⟨b,o,none⟩) n c cap se re pk)→M[1]?=some (.own base 78 6 (.slice (some ⟨b,o,none⟩) n c) n (mcells ms))→(∀ i,W.cell? ⟨g,i,none⟩=(linkC (some ⟨b,o,none⟩) n c cap se re pk)[i]?)∧W.cell? ⟨b,o+k*6,none⟩=some (.int .i64 st)∧W.cell? ⟨b,o+k*6+1,none⟩=some (.int .i64 bu)∧W.cell? ⟨b,o+k*6+2,none⟩=some (.int .i64 ph)∧W.cell? ⟨b,o+k*6+3,none⟩=some (.int .i64 ro)∧W.cell? ⟨b,o+k*6+4,none⟩=some (.int .i64 ch)∧W.cell? ⟨b,o+k*6+5,none⟩=some (.slice mA nv mc) from fun W M h h1 h2=>⟨blk_cells (h.obj 0 h1),HS.out W (rd_of_own (h.own 1 h2))⟩)
 refine wp_region_stage (.reads [0,1,2,3,4,5,6,7,8,9] (.two 10 13 (.reads [11,12] (.eff 13 (.eff 14 (.fin)))) (.eff 10 (.reads [11,12] (.eff 14 (.fin)))))) 15
  (fun W'=>(∀ i,W'.cell? ⟨g,i,none⟩=(linkC (some ⟨b,o,none⟩) n c cap se re pk)[i]?)∧W'.cell? ⟨b,o+k*6,none⟩=some (.int .i64 st)∧W'.cell? ⟨b,o+k*6+1,none⟩=some (.int .i64 bu)∧W'.cell? ⟨b,o+k*6+2,none⟩=some (.int .i64 ph)∧W'.cell? ⟨b,o+k*6+3,none⟩=some (.int .i64 ro)∧W'.cell? ⟨b,o+k*6+4,none⟩=some (.int .i64 ch)∧W'.cell? ⟨b,o+k*6+5,none⟩=some (.slice mA nv mc))
  (by kernel_rfl) (by kernel_rfl) (by intro d v c a w h;cases d <;> exact h) ?_
 replace HF:=K1 HF.out.drew
 generalize W2.drew=V at *
 refine PlS.reads_ (HT.out _ _ HF.out rfl rfl) (by kernel_rfl) ?_
 simp only [pickO,p1,p2,p3,p4]
 apply Exists.intro
 apply And.intro
 · intro W' hS
   obtain ⟨q0,q1,q2,q3,q4,q5,q6⟩:=hS
   repeat still_step
   exact wpStill_nil rfl
 refine PlS.two_ ?_ ?_
 · refine PlS.eff_ ?_
   simp only [pickO,p1,p2,p3,p4]
   go_wp2_with fail
   refine (CL.out _ (blk_cells (HF.out.obj 0 rfl))).mono ?_
   rintro e w3 ⟨rfl,rfl⟩
   go_wp2_with fail
   refine After.go (HT.out _ _ HF.out rfl rfl) ?_
   refine PlS.reads_ (HT.out _ _ HF.out rfl rfl) (by kernel_rfl) ?_
   simp only [pickO,p1,p2,p3,p4]
   apply Exists.intro
   apply And.intro
   · intro W' hS
     obtain ⟨q0,q1,q2,q3,q4,q5,q6⟩:=hS
     repeat still_step
     exact wpStill_nil rfl
   refine PlS.eff_ ?_
   simp only [pickO,p1,p2,p3,p4]
   go_wp2_with fail
   refine name_after fun W3 hW3=>?_
   replace HF:=K1 ((HF.out.alloc_ hW3.out).fA)
   clear hW3
   refine After.go (HT.out _ _ HF.out rfl rfl) ?_
   refine PlS.eff_ ?_
   simp only [pickO,p1,p2,p3,p4]
   have c6:=HF.out.cells 6 rfl
   have f6:=fun j=>HF.out.frozen 6 j rfl
   have HG:=K1 (HF.out.set6 (i:=6) rfl (.int .i64 st) (.int .i64 bu) (.int .i64 ph) (.int .i64 ro) (.int .i64 ch) (.slice mA nv mc))
   clear HF
   go_wp2_with fail
   refine After.go (HT.out _ _ HG.out rfl rfl) (PlS.fin_ ?_)
   clear c6 f6
   go_wp2_with fail
   refine name_wp fun W4 hW4=>?_
   replace HG:=K1 (hW4.out.symm ▸ HG.out)
   clear hW4
   refine wp_region_stage (.reads [0,1,2,3,4,5] (.eff 6 (.eff 7 (.reads [8] (.eff 9 (.fin)))))) 9 (fun W'=>∀ i,W'.cell? ⟨g,i,none⟩=(linkC (some ⟨b,o,none⟩) n c cap se re pk)[i]?)
    (by kernel_rfl) (by kernel_rfl) (by intro d v c a w h;cases d <;> exact h) ?_
   replace HG:=K1 HG.out.drew
   generalize W4.drew=V4 at *
   refine PlS.reads_ (blk_cells (HG.out.obj 0 rfl)) (by kernel_rfl) ?_
   simp only [pickO,p1,p2,p3,p4]
   apply Exists.intro
   apply And.intro
   · intro W' hS
     repeat still_step
     exact wpStill_nil rfl
   refine PlS.eff_ ?_
   simp only [pickO,p1,p2,p3,p4]
   go_wp2_with fail
   refine After.go (blk_cells (HG.out.obj 0 rfl)) (PlS.eff_ ?_)
   simp only [pickO,p1,p2,p3,p4]
   go_wp2_with fail
   refine After.go (blk_cells (HG.out.obj 0 rfl)) ?_
   refine PlS.reads_ (blk_cells (HG.out.obj 0 rfl)) (by kernel_rfl) ?_
   simp only [pickO,p1,p2,p3,p4]
   apply Exists.intro
   apply And.intro
   · intro W' hS
     repeat still_step
     exact wpStill_nil rfl
   refine PlS.eff_ ?_
   simp only [pickO,p1,p2,p3,p4]
   have c0:=HG.out.cells 0 rfl
   have f0:=fun j=>HG.out.frozen 0 j rfl
   replace HG:=K1 (HG.out.set (i:=0) (j:=3) rfl (.int .i64 re1))
   go_wp2_with fail
   refine After.last (by decide) (PlS.fin_ ?_)
   clear c0 f0
   have c4:=HG.out.cells 4 rfl
   have f4:=fun j=>HG.out.frozen 4 j rfl
   have c6:=HG.out.cells 6 rfl
   have HH:=K1 (HG.out.set6 (i:=4) rfl (.int .i64 st) (.int .i64 bu) (.int .i64 ph) (.int .i64 ro) (.int .i64 ch) (.slice mA nv mc))
   go_wp2_with fail
   clear c4
   have c4:=HH.out.cells 4 rfl
   refine bodyPost_ret (v:=.tuple #[.agg #[.int .i64 st,.int .i64 bu,.int .i64 ph,.int .i64 ro,.int .i64 ch,.slice mA nv mc],.int .i64 0]) ?_ rfl ⟨rfl,?_⟩
   · simp [results,Tryz.results211,go_sem,c4]
   · have h5:Mem _ ((({ g:=g,base:=base,cap:=cap,A:=some ⟨b,o,none⟩,n:=n,c:=c,se:=se,re:=re1,pk:=pk,ms:=ms }:Ln).ps++[_,_,_,_])++R):=HH.out
     exact h5.mid
 · refine PlS.eff_ ?_
   simp only [pickO,p1,p2,p3,p4]
   go_wp2_with fail
   refine name_after fun W3 hW3=>?_
   replace HF:=K1 ((HF.out.alloc_ hW3.out).fA)
   clear hW3
   refine After.go (HT.out _ _ HF.out rfl rfl) ?_
   refine PlS.eff_ ?_
   simp only [pickO,p1,p2,p3,p4]
   go_wp2_with fail
   refine (CL.out _ (blk_cells (HF.out.obj 0 rfl))).mono ?_
   rintro e w3 ⟨rfl,rfl⟩
   go_wp2_with fail
   refine After.go (HT.out _ _ HF.out rfl rfl) ?_
   refine PlS.reads_ (HT.out _ _ HF.out rfl rfl) (by kernel_rfl) ?_
   simp only [pickO,p1,p2,p3,p4]
   apply Exists.intro
   apply And.intro
   · intro W' hS
     obtain ⟨q0,q1,q2,q3,q4,q5,q6⟩:=hS
     repeat still_step
     exact wpStill_nil rfl
   refine PlS.eff_ ?_
   simp only [pickO,p1,p2,p3,p4]
   have c6:=HF.out.cells 6 rfl
   have f6:=fun j=>HF.out.frozen 6 j rfl
   have HG:=K1 (HF.out.set6 (i:=6) rfl (.int .i64 st) (.int .i64 bu) (.int .i64 ph) (.int .i64 ro) (.int .i64 ch) (.slice mA nv mc))
   clear HF
   go_wp2_with fail
   refine After.go (HT.out _ _ HG.out rfl rfl) (PlS.fin_ ?_)
   clear c6 f6
   go_wp2_with fail
   refine name_wp fun W4 hW4=>?_
   replace HG:=K1 (hW4.out.symm ▸ HG.out)
   clear hW4
   refine wp_region_stage (.reads [0,1,2,3,4,5] (.eff 6 (.eff 7 (.reads [8] (.eff 9 (.fin)))))) 9 (fun W'=>∀ i,W'.cell? ⟨g,i,none⟩=(linkC (some ⟨b,o,none⟩) n c cap se re pk)[i]?)
    (by kernel_rfl) (by kernel_rfl) (by intro d v c a w h;cases d <;> exact h) ?_
   replace HG:=K1 HG.out.drew
   generalize W4.drew=V4 at *
   refine PlS.reads_ (blk_cells (HG.out.obj 0 rfl)) (by kernel_rfl) ?_
   simp only [pickO,p1,p2,p3,p4]
   apply Exists.intro
   apply And.intro
   · intro W' hS
     repeat still_step
     exact wpStill_nil rfl
   refine PlS.eff_ ?_
   simp only [pickO,p1,p2,p3,p4]
   go_wp2_with fail
   refine After.go (blk_cells (HG.out.obj 0 rfl)) (PlS.eff_ ?_)
   simp only [pickO,p1,p2,p3,p4]
   go_wp2_with fail
   refine After.go (blk_cells (HG.out.obj 0 rfl)) ?_
   refine PlS.reads_ (blk_cells (HG.out.obj 0 rfl)) (by kernel_rfl) ?_
   simp only [pickO,p1,p2,p3,p4]
   apply Exists.intro
   apply And.intro
   · intro W' hS
     repeat still_step
     exact wpStill_nil rfl
   refine PlS.eff_ ?_
   simp only [pickO,p1,p2,p3,p4]
   have c0:=HG.out.cells 0 rfl
   have f0:=fun j=>HG.out.frozen 0 j rfl
   replace HG:=K1 (HG.out.set (i:=0) (j:=3) rfl (.int .i64 re1))
   go_wp2_with fail
   refine After.last (by decide) (PlS.fin_ ?_)
   clear c0 f0
   have c4:=HG.out.cells 4 rfl
   have f4:=fun j=>HG.out.frozen 4 j rfl
   have c6:=HG.out.cells 6 rfl
   have HH:=K1 (HG.out.set6 (i:=4) rfl (.int .i64 st) (.int .i64 bu) (.int .i64 ph) (.int .i64 ro) (.int .i64 ch) (.slice mA nv mc))
   go_wp2_with fail
   clear c4
   have c4:=HH.out.cells 4 rfl
   refine bodyPost_ret (v:=.tuple #[.agg #[.int .i64 st,.int .i64 bu,.int .i64 ph,.int .i64 ro,.int .i64 ch,.slice mA nv mc],.int .i64 0]) ?_ rfl ⟨rfl,?_⟩
   · simp [results,Tryz.results211,go_sem,c4]
   · have h5:Mem _ ((({ g:=g,base:=base,cap:=cap,A:=some ⟨b,o,none⟩,n:=n,c:=c,se:=se,re:=re1,pk:=pk,ms:=ms }:Ln).ps++[_,_,_,_])++R):=HH.out
     exact h5.mid
set_option maxRecDepth 100000 in
theorem receive_none (w:World) (l:Ln) (R:List Ch) (h:Mem w (l.ps++R)) (hb:l.se≤1000000000) (hlt:l.re=l.se) (t:Tg) :
  Calls Tryz.prog 211 #[.pointer (some ⟨l.g,0,none⟩),.agg t.cells.toArray] w fun e w'=>e=.returned (.tuple #[msZero,.int .i64 12])∧Mem w' (l.ps++R):=by
 obtain ⟨g,base,cap,A,n,c,se,re,pk,ms⟩:=l
 dsimp only at *
 subst hlt
 have CP:=K1 (fun (W:World) (h0:Mem W (({ g:=g,base:=base,cap:=cap,A:=A,n:=n,c:=c,se:=re,re:=re,pk:=pk,ms:=ms }:Ln).ps++R))=>peek_none W g n c cap re pk A (Ln.blk h0) hb)
 obtain ⟨st,bu,ph,ro,ch⟩:=t
 dsimp only [Tg.cells] at *
 have hm0:=((h.alloc (.cells #[.int .i64 st,.int .i64 bu,.int .i64 ph,.int .i64 ro,.int .i64 ch] 71)).fA.alloc (.cells #[.int .i64 0,.int .i64 0,.int .i64 0,.int .i64 0,.int .i64 0,.slice none 0 0] 78)).fA
 simp only [World.size_alloc] at hm0
 have HM:=K1 hm0
 clear hm0 h hb
 go_enter Tryz.func211,Tryz.ntmps211
 go_wp2_with fail
 refine name_calls fun W0 hW0=>?_
 replace HM:=K1 (hW0.out.symm ▸ HM.out)
 clear hW0
 refine (CP.out _ HM.out.mid.mid).mono ?_
 rintro e w1 ⟨rfl,hb⟩
 replace HM:=K1 (HM.out.below hb)
 clear hb CP
 have hf:=(HM.out.alloc (.cells #[.int .i64 0,.int .i64 0,.int .i64 0,.int .i64 0,.int .i64 0] 71)).fA
 have c4:=hf.cells 4 rfl
 have f4:=fun j=>hf.frozen 4 j rfl
 have HF:=K1 (hf.set6 (i:=4) rfl (.int .i64 0) (.int .i64 0) (.int .i64 0) (.int .i64 0) (.int .i64 0) (.slice none 0 0))
 clear HM hf
 go_wp2_with fail
 clear c4
 have c4:=HF.out.cells 4 rfl
 refine bodyPost_ret (v:=.tuple #[msZero,.int .i64 12]) ?_ rfl ⟨rfl,?_⟩
 · simp [results,Tryz.results211,go_sem,c4]
 · have h5:Mem _ ((({ g:=g,base:=base,cap:=cap,A:=A,n:=n,c:=c,se:=re,re:=re,pk:=pk,ms:=ms }:Ln).ps++[_,_,_])++R):=HF.out
   exact h5.mid
set_option maxRecDepth 100000 in
theorem receive_tag (w:World) (l:Ln) (R:List Ch) (h:Mem w (l.ps++R)) (ho:l.Ok) (hb:l.se≤1000000000) (hlt:l.re<l.se) (m:Ms) (hm:l.ms[l.re % l.cap]?=some m) (t:Tg) (hne:m.t≠t) :
  Calls Tryz.prog 211 #[.pointer (some ⟨l.g,0,none⟩),.agg t.cells.toArray] w fun e w'=>e=.returned (.tuple #[msZero,.int .i64 10])∧Mem w' (l.ps++R):=by
 obtain ⟨g,base,cap,A,n,c,se,re,pk,ms⟩:=l
 dsimp only at *
 have hn:=ho.ok.len
 have hcap:=ho.ok.cp
 dsimp only at hn hcap
 have CP:=K1 (fun (W:World) (h0:Mem W (({ g:=g,base:=base,cap:=cap,A:=A,n:=n,c:=c,se:=se,re:=re,pk:=pk,ms:=ms }:Ln).ps++R))=>peek_any W g n c cap se re pk A ms m (Ln.blk h0) (Ln.ring h0) hn hlt hb hcap.1 hm)
 obtain ⟨⟨st,bu,ph,ro,ch⟩,mA,mc,mv⟩:=m
 obtain ⟨st',bu',ph',ro',ch'⟩:=t
 have hq:((st:Int) == st' && ((bu:Int) == bu' && ((ph:Int) == ph' && ((ro:Int) == ro' && (ch:Int) == ch'))))=false:=by
  apply Bool.eq_false_iff.2
  intro hq
  simp only [Bool.and_eq_true,beq_iff_eq] at hq
  obtain ⟨q1,q2,q3,q4,q5⟩:=hq
  exact hne (by dsimp only;rw [Int.ofNat.inj q1,Int.ofNat.inj q2,Int.ofNat.inj q3,Int.ofNat.inj q4,Int.ofNat.inj q5])
 have hqt:∀ W:World,(binOp .neq 71 (.agg #[.int .i64 (st:Int),.int .i64 (bu:Int),.int .i64 (ph:Int),.int .i64 (ro:Int),.int .i64 (ch:Int)]) (.agg #[.int .i64 (st':Int),.int .i64 (bu':Int),.int .i64 (ph':Int),.int .i64 (ro':Int),.int .i64 (ch':Int)])).run Tryz.prog W=.ok (.bool true) W:=fun W=>by
  rw [neqT,hq];rfl
 dsimp only [Tg.cells] at *
 have hm0:=((h.alloc (.cells #[.int .i64 st',.int .i64 bu',.int .i64 ph',.int .i64 ro',.int .i64 ch'] 71)).fA.alloc (.cells #[.int .i64 0,.int .i64 0,.int .i64 0,.int .i64 0,.int .i64 0,.slice none 0 0] 78)).fA
 simp only [World.size_alloc] at hm0
 have HM:=K1 hm0
 clear hm0 h ho hm hn hb hq hne hcap
 go_enter Tryz.func211,Tryz.ntmps211
 go_wp2_with fail
 refine name_calls fun W0 hW0=>?_
 replace HM:=K1 (hW0.out.symm ▸ HM.out)
 clear hW0
 refine (CP.out _ HM.out.mid.mid).mono ?_
 rintro e w1 ⟨rfl,hb⟩
 replace HM:=K1 (HM.out.below hb)
 clear hb CP
 have hf:=(HM.out.alloc (.cells #[.int .i64 st,.int .i64 bu,.int .i64 ph,.int .i64 ro,.int .i64 ch] 71)).fA
 have c3:=hf.cells 3 rfl
 have c5:=hf.cells 5 rfl
 have c4:=hf.cells 4 rfl
 have f4:=fun j=>hf.frozen 4 j rfl
 have HF:=K1 (hf.set6 (i:=4) rfl (.int .i64 0) (.int .i64 0) (.int .i64 0) (.int .i64 0) (.int .i64 0) (.slice none 0 0))
 clear HM hf
 go_wp2_with fail
 clear c4
 have c4:=HF.out.cells 4 rfl
 refine bodyPost_ret (v:=.tuple #[msZero,.int .i64 10]) ?_ rfl ⟨rfl,?_⟩
 · simp [results,Tryz.results211,go_sem,c4]
 · have h5:Mem _ ((({ g:=g,base:=base,cap:=cap,A:=A,n:=n,c:=c,se:=se,re:=re,pk:=pk,ms:=ms }:Ln).ps++[_,_,_])++R):=HF.out
   exact h5.mid
end Go.Proofs.YtdpojpcoghcieaaGreat
