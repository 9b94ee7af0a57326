/- A part of the proof of TopSerial: ItsR, MachStep, World. Conditions: none. -/
import Derived.Test.YtdpojpcoghcieaaGreatSdBK
set_option maxHeartbeats 8000000
namespace Go.Proofs.YtdpojpcoghcieaaGreat
open Lib renaming hid → K1
open List renaming filterMap_cons → p1, filterMap_nil → p2, getElem?_cons_zero → p3, getElem?_cons_succ → p4
open Go.RowKit
def rngOf (bs:List (Nat × Nat)) (k s u:Nat) (t:Tg):Option (Nat × Nat):=(segChunks s ((jobSegs (jobOf bs k s t.step t.bucket))[segS k u t.phase t.round]?.getD (0,0)))[t.chunk]?
theorem addsAt_cases {j:Jb} {ph r i:Nat} {xs ys:List (Nat × Nat)} {a:Ac} (h:a∈addsAt j ph r xs ys i):∃ p,(xs[i]?=some p∧a=addAc j true ph r i p)∨(ys[i]?=some p∧a=addAc j false ph r i p):=by
 unfold addsAt at h
 rcases List.mem_append.1 h with h | h
 · cases hx:xs[i]? with
   | none=>rw [hx] at h;simp at h
   | some p=>rw [hx] at h;simp at h;exact ⟨p,.inl ⟨rfl,h⟩⟩
 · cases hx:ys[i]? with
   | none=>rw [hx] at h;simp at h
   | some p=>rw [hx] at h;simp at h;exact ⟨p,.inr ⟨rfl,h⟩⟩
def RngOk (bs:List (Nat × Nat)) (k s u:Nat) (x:It):Prop :=
 (x.kind=3→rngOf bs k s u (tgOf x.a)=some (x.a.lo,x.a.hi))∧(x.kind=4→rngOf bs k s ((u+k-1) % k) (tgOf x.a)=some (x.a.lo,x.a.hi))
theorem rng_not {bs:List (Nat × Nat)} {k s u:Nat} {x:It} (h3:x.kind≠3) (h4:x.kind≠4):RngOk bs k s u x:=⟨fun h=>absurd h h3,fun h=>absurd h h4⟩
theorem itemsL_rng (bs gs:List (Nat × Nat)) (k s mi t u:Nat):∀ x∈itemsL bs gs k s mi t u,RngOk bs k s u x:=by
 intro x hx
 rcases List.mem_append.1 hx with hx | hx
 · rcases List.mem_append.1 hx with hx | hx
   · obtain ⟨i,hi,rfl⟩:=List.mem_map.1 hx
     exact rng_not (by simp [plainIt]) (by simp [plainIt])
   · obtain ⟨g,hg,hx⟩:=List.mem_flatMap.1 hx
     rcases List.mem_append.1 hx with hx | hx
     · rcases List.mem_append.1 hx with hx | hx
       · obtain ⟨i,hi,rfl⟩:=List.mem_map.1 hx
         exact rng_not (by simp [plainIt]) (by simp [plainIt])
       · obtain ⟨q,hq,hx⟩:=List.mem_flatMap.1 hx
         obtain ⟨i,hi,hx⟩:=List.mem_flatMap.1 hx
         obtain ⟨a,ha,rfl⟩:=List.mem_map.1 hx
         obtain ⟨i2,_,ha⟩:=List.mem_flatMap.1 ha
         obtain ⟨p,⟨hp,rfl⟩ | ⟨hp,rfl⟩⟩:=addsAt_cases ha
         · exact ⟨fun _=>hp,fun h=>by simp [actIt,addAc] at h⟩
         · exact ⟨fun h=>by simp [actIt,addAc] at h,fun _=>hp⟩
     · obtain ⟨i,hi,rfl⟩:=List.mem_map.1 hx
       exact rng_not (by simp [plainIt]) (by simp [plainIt])
 · simp at hx
   subst hx
   exact rng_not (by simp [plainIt]) (by simp [plainIt])
theorem plIts_rng (c:Kf) (p t u:Nat):∀ x∈plIts c p t u,RngOk (plBs c p) c.k c.s u x:=itemsL_rng _ _ _ _ _ _ _
structure Am where
 P:List Int
 M:List Int
 G:List Int
 rcd:List (List Int × List Int)
 t:Nat
 next:Nat
 cnt:Nat
 opn:List Nat
def Mc.abs (m:Mc):Am:=⟨m.P,m.M,m.G,m.rcd.map Ex.nums,m.t,m.next,m.cnt,m.opn⟩
def stepA (f:Mf) (a:Am):Am:=if a.next+1=(itsAt f a.t).length then { a with cnt:=a.cnt+1,next:=0,t:=a.t+1 } else { a with cnt:=a.cnt+1,next:=a.next+1 }
theorem Mc.abs_step (m:Mc) (Ai:Option Addr) (ci:Nat):(m.step Ai ci).abs=stepA m.f m.abs:=by
 unfold Mc.step stepA
 by_cases h:m.next+1=m.its.length
 · rw [if_pos h,if_pos (show m.abs.next+1=(itsAt m.f m.abs.t).length from h)];rfl
 · rw [if_neg h,if_neg (show ¬ m.abs.next+1=(itsAt m.f m.abs.t).length from h)];rfl
theorem Mc.step_f (m:Mc) (Ai:Option Addr) (ci:Nat):(m.step Ai ci).f=m.f:=by
 unfold Mc.step;split <;> rfl
structure Mc.Ok1 (m:Mc):Prop where
 f:m.f.Ok
 P:m.P.length=m.f.p∧In64 m.P
 M:m.M.length=m.f.p∧In64 m.M
 G:m.G.length=m.f.p∧In64 m.G
 cP:m.f.p≤m.cP
 cM:m.f.p≤m.cM
 rcds:∀ e∈m.rcd,e.xs.length=m.f.p∧e.ys.length=m.f.p
 next:m.next<m.its.length
 t:m.t<m.f.c.st
 recs:m.rcd.length≤m.cnt+2
 opns:m.opn.length≤m.cnt+1
 ci:m.its.length≤m.ci
theorem Mc.Ok1.step {m:Mc} (h:m.Ok1) {Ai:Option Addr} {ci:Nat} (hc:m.next+1=m.its.length→(itsAt m.f (m.t+1)).length≤ci):(m.step Ai ci).Ok:=by
 have hn:=h.next
 have ht:=h.t
 unfold Mc.step
 by_cases hl:m.next+1=m.its.length
 · rw [if_pos hl]
   refine ⟨h.f,h.P,h.M,h.G,h.cP,h.cM,h.rcds,fun h1=>?_,fun _=>rfl,ht,h.recs,h.opns,hc hl⟩
   show 0<(itsAt m.f (m.t+1)).length
   unfold itsAt
   rw [if_pos (show m.t+1<m.f.c.st from h1)]
   exact plIts_pos _ _ _ _
 · rw [if_neg hl]
   refine ⟨h.f,h.P,h.M,h.G,h.cP,h.cM,h.rcds,fun _=>?_,fun h1=>absurd ht (Nat.not_lt.2 h1),Nat.le_of_lt ht,h.recs,h.opns,h.ci⟩
   show m.next+1<m.its.length
   omega
theorem Mc.Ok.ok1 {m:Mc} (h:m.Ok) (ht:m.t<m.f.c.st):m.Ok1:=⟨h.f,h.P,h.M,h.G,h.cP,h.cM,h.rcds,h.next ht,ht,by have:=h.recs;omega,by have:=h.opns;omega,h.ci⟩
theorem plIts_le {c:Kf} (hc:c.Ok) {p:Nat} (hp:p≤60) (t u:Nat):(plIts c p t u).length≤1000000000:=by
 obtain ⟨h1,h2,h3,h4⟩:=plBs_ok hc hp
 have h5:=groupsTo_len (s:=c.s) (t:=t) (w:=u) h1 h2 hc.k h3 (plGs c p).length (Nat.le_refl _)
 have e:groupsTo (plBs c p) (plGs c p) c.k c.s t u (plGs c p).length=(plGs c p).flatMap (groupL (plBs c p) c.k c.s t u):=by
  unfold groupsTo;rw [List.take_length]
 rw [e] at h5
 have hm:=hc.mi
 unfold plIts itemsL
 rw [List.length_append,List.length_append,fromTo_len,List.length_singleton]
 omega
theorem itsAt_le {f:Mf} (hf:f.Ok) (t:Nat):(itsAt f t).length≤1000000000:=by
 unfold itsAt
 split
 · exact plIts_le hf.c hf.p.2 _ _
 · simp
def ownA (f:Mf) (a:Am) (x:It):Am :=
 if x.kind=1 then { a with G:=compG f.ns f.c.sh a.P f.p (exAt f.xs (microL f.ds f.n f.c.ba a.t f.u f.c.k x.n f.c.mi)) a.G }
 else if x.kind=2 then { a with opn:=a.opn++[x.n] }
 else if x.kind=5 then { a with P:=(appPM f.ru a.G ((plBs f.c f.p)[x.n]?.getD (0,0)).1 a.P a.M (((plBs f.c f.p)[x.n]?.getD (0,0)).2-((plBs f.c f.p)[x.n]?.getD (0,0)).1)).1,M:=(appPM f.ru a.G ((plBs f.c f.p)[x.n]?.getD (0,0)).1 a.P a.M (((plBs f.c f.p)[x.n]?.getD (0,0)).2-((plBs f.c f.p)[x.n]?.getD (0,0)).1)).2,opn:=a.opn.filter fun y=>!(y == x.n) }
 else { a with rcd:=a.rcd++[(a.P,a.M)],G:=zeroL f.p }
theorem zeroL_in (p:Nat):(zeroL p).length=p∧In64 (zeroL p):=by
 refine ⟨by simp [zeroL],fun z hz=>?_⟩
 have:z=0:=List.eq_of_mem_replicate (by simpa [zeroL] using hz)
 subst this
 omega
theorem mdo_own (w:World) (m:Mc) (R:List Ch) (h:Mem w (m.ps++R)) (ho:m.Ok) (hb:m.cnt≤1000000) (ht:m.t<m.f.c.st) (x:It) (hx:m.its[m.next]?=some x) (hk:x.kind≠3∧x.kind≠4) (a1 a2:Option Addr) :
  Calls Tryz.prog 195 #[.pointer (some ⟨m.f.g,0,none⟩),.pointer a1,.pointer a2] w fun e w'=>e=.returned (.int .i64 0)∧∃ m':Mc,m'.Ok∧m'.f=m.f∧m'.abs=stepA m.f (ownA m.f m.abs x)∧Mem w' (m'.ps++R):=by
 have h1:=ho.ok1 ht
 obtain ⟨x',hx',hxo⟩:=ho.at_ ht
 rw [hx] at hx'
 injection hx' with hx'
 subst hx'
 obtain ⟨hst,hkind⟩:=hxo
 refine (mdo_any w m R h ho.f x hx (itsAt_le ho.f _) hst (by have:=ho.f.c.st;omega) hb (by omega) a1 a2 0 (fun m' R'=>R'=R∧m'.f=m.f∧m'.t=m.t∧m'.next=m.next∧m'.cnt=m.cnt∧m'.abs=ownA m.f m.abs x∧m'.Ok1) (fun m' R' hK=>⟨hK.2.1,hK.2.2.1,hK.2.2.2.1,hK.2.2.2.2.1⟩) (fun W Y hM=>?_)).mono ?_
 · rcases hkind with ⟨e,hn⟩ | ⟨e,hn⟩ | ⟨e,_⟩ | ⟨e,_⟩ | ⟨e,hn⟩ | e
   · rw [show kindId x.kind=199 by rw [e];rfl]
     refine (mcompute_any W m (Y++R) hM ho x ht hst hn _ _).mono ?_
     rintro r W' ⟨rfl,hM'⟩
     refine ⟨rfl,{ m with G:=compG m.f.ns m.f.c.sh m.P m.f.p (m.micro x.n) m.G },R,⟨rfl,rfl,rfl,rfl,rfl,?_,⟨h1.f,h1.P,h1.M,⟨(compG_len _ _ _ _ _ _).trans h1.G.1,compG_in _ _ _ _ _ _ h1.G.2⟩,h1.cP,h1.cM,h1.rcds,h1.next,h1.t,h1.recs,h1.opns,h1.ci⟩⟩,hM'⟩
     unfold ownA
     rw [if_pos e]
     rfl
   · rw [show kindId x.kind=200 by rw [e];rfl]
     refine (launch_any W m (Y++R) hM ho hb x _ _).mono ?_
     rintro r W' ⟨rfl,A',c',hM'⟩
     refine ⟨rfl,{ m with Ao:=A',co:=c',opn:=m.opn++[x.n] },R,⟨rfl,rfl,rfl,rfl,rfl,?_,⟨h1.f,h1.P,h1.M,h1.G,h1.cP,h1.cM,h1.rcds,h1.next,h1.t,h1.recs,?_,h1.ci⟩⟩,hM'⟩
     · unfold ownA
       rw [if_neg (by omega),if_pos e]
       rfl
     · show (m.opn++[x.n]).length≤m.cnt+1
       rw [List.length_append,List.length_singleton]
       have:=ho.opns
       omega
   · exact absurd e hk.1
   · exact absurd e hk.2
   · rw [show kindId x.kind=203 by rw [e];rfl]
     obtain ⟨⟨lo,hi⟩,hbk⟩:=get_some _ x.n hn
     refine (mupdate_any W m (Y++R) hM ho x lo hi hbk hb _ _).mono ?_
     rintro r W' ⟨rfl,hM'⟩
     have hlen:=appPM_len m.f.ru m.G lo m.P m.M (hi-lo)
     have hin:=appPM_in (r:=m.f.ru) (gs:=m.G) (x:=lo) ho.P.2 ho.M.2 (hi-lo)
     refine ⟨rfl,{ m with P:=(appPM m.f.ru m.G lo m.P m.M (hi-lo)).1,M:=(appPM m.f.ru m.G lo m.P m.M (hi-lo)).2,opn:=m.opn.filter fun y=>!(y == x.n) },R,⟨rfl,rfl,rfl,rfl,rfl,?_,⟨h1.f,⟨hlen.1.trans h1.P.1,hin.1⟩,⟨hlen.2.trans h1.M.1,hin.2⟩,h1.G,h1.cP,h1.cM,h1.rcds,h1.next,h1.t,h1.recs,?_,h1.ci⟩⟩,hM'⟩
     · unfold ownA
       rw [if_neg (by omega),if_neg (by omega),if_pos e,hbk]
       rfl
     · have:=ho.opns
       have:=List.length_filter_le (fun y=>!(y == x.n)) m.opn
       show (m.opn.filter _).length≤m.cnt+1
       omega
   · rw [show kindId x.kind=204 by rw [e];rfl]
     refine (mrecord_any W m (Y++R) hM ho x hb _ _).mono ?_
     rintro r W' ⟨rfl,A',c',Ap,cp,Am,cm,hM'⟩
     have hz:=zeroL_in m.f.p
     refine ⟨rfl,{ m with Ar:=A',cr:=c',rcd:=m.rcd++[⟨Ap,m.P,cp,Am,m.M,cm⟩],G:=zeroL m.f.p },R,⟨rfl,rfl,rfl,rfl,rfl,?_,⟨h1.f,h1.P,h1.M,hz,h1.cP,h1.cM,fun e' he=>?_,h1.next,h1.t,?_,h1.opns,h1.ci⟩⟩,hM'⟩
     · unfold ownA
       rw [if_neg (by omega),if_neg (by omega),if_neg (by omega)]
       simp [Mc.abs,Ex.nums]
     · rcases List.mem_append.1 he with he | he
       · exact h1.rcds e' he
       · rw [List.mem_singleton.1 he];exact ⟨h1.P.1,h1.M.1⟩
     · show (m.rcd++[_]).length≤m.cnt+2
       rw [List.length_append,List.length_singleton]
       have:=ho.recs
       omega
 · rintro e w' ⟨rfl,m',R',⟨rfl,hf,_,_,_,ha,ho1⟩,⟨h0,_⟩ | ⟨_,Ai,ci,hc,hM'⟩⟩
   · exact absurd rfl h0
   · exact ⟨rfl,_,ho1.step hc,(Mc.step_f _ _ _).trans hf,by rw [Mc.abs_step,ha,hf],hM'⟩
theorem mdo_send (w:World) (m:Mc) (l:Ln) (R:List Ch) (h:Mem w (m.ps++(l.ps++R))) (ho:m.Ok) (hl:l.Ok) (hb:m.cnt≤1000000) (hlb:l.se≤100000000) (ht:m.t<m.f.c.st) (x:It) (hx:m.its[m.next]?=some x) (hk:x.kind=3) (a1:Option Addr) :
  Calls Tryz.prog 195 #[.pointer (some ⟨m.f.g,0,none⟩),.pointer a1,.pointer (some ⟨l.g,0,none⟩)] w fun e w' =>
   (l.q.length=l.cap∧e=.returned (.int .i64 11)∧Mem w' (m.ps++(l.ps++R))) ∨
   (l.q.length<l.cap∧e=.returned (.int .i64 0)∧∃ (m':Mc) (l':Ln),m'.Ok∧m'.f=m.f∧m'.abs=stepA m.f m.abs∧l'.Ok∧l'.g=l.g∧l'.cap=l.cap∧l'.se=l.se+1∧l'.q=l.q++[(tgOf x.a,subL m.G x.a.lo x.a.hi)]∧Mem w' (m'.ps++(l'.ps++R))):=by
 have h1:=ho.ok1 ht
 obtain ⟨x',hx',hxo⟩:=ho.at_ ht
 rw [hx] at hx'
 injection hx' with hx'
 subst hx'
 obtain ⟨hst,hkind⟩:=hxo
 have hac:AcOk m.f.p (plBs m.f.c m.f.p).length m.f.c.k m.t x.a:=by
  rcases hkind with ⟨e,_⟩ | ⟨e,_⟩ | ⟨_,ha⟩ | ⟨e,_⟩ | ⟨e,_⟩ | e
  · omega
  · omega
  · exact ha
  · omega
  · omega
  · omega
 have hql:l.q.length=l.se-l.re:=qL_len _ _ _ _
 have hroom:=hl.ok.room
 rw [hql]
 have hvl:(subL m.G x.a.lo x.a.hi).length=x.a.hi-x.a.lo:=subL_len (Nat.le_of_lt hac.lt) (by rw [ho.G.1];exact hac.hi)
 have hp60:=ho.f.p.2
 have hhi:=hac.hi
 have perm:∀ (W:World) (X Y Z:List Ch),Mem W (X++(Y++(Z++R)))→Mem W (X++(Z++(Y++R))):=fun W X Y Z hM=>hM.perm (List.Perm.append_left X (by
  rw [← List.append_assoc,← List.append_assoc]
  exact List.Perm.append_right R List.perm_append_comm))
 by_cases hfull:l.se-l.re=l.cap
 · refine (mdo_any w m (l.ps++R) h ho.f x hx (itsAt_le ho.f _) hst (by have:=ho.f.c.st;omega) hb (by omega) a1 _ 11 (fun m' R'=>m'=m∧R'=l.ps++R) (fun m' R' hK=>by rw [hK.1];exact ⟨rfl,rfl,rfl,rfl⟩) (fun W Y hM=>?_)).mono ?_
   · rw [show kindId x.kind=201 by rw [hk];rfl]
     refine (msend_any W m l (Y++R) (perm _ _ _ _ hM) ho x ⟨hac.lt,hac.hi⟩ _ 11 (fun l'=>l'=l) (fun W' R' hM' _=>(send_full W' l R' hM' hl hlb hfull _ _ _ _).mono fun e w' ⟨h1,h2⟩=>⟨h1,l,rfl,h2⟩)).mono ?_
     rintro e w' ⟨rfl,l',rfl,hM'⟩
     exact ⟨rfl,m,l'.ps++R,⟨rfl,rfl⟩,perm _ _ _ _ hM'⟩
   · rintro e w' ⟨rfl,m',R',⟨rfl,rfl⟩,⟨_,hM'⟩ | ⟨h0,_⟩⟩
     · exact .inl ⟨hfull,rfl,hM'⟩
     · exact absurd h0 (by omega)
 · have hlt:l.se-l.re<l.cap:=by omega
   refine (mdo_any w m (l.ps++R) h ho.f x hx (itsAt_le ho.f _) hst (by have:=ho.f.c.st;omega) hb (by omega) a1 _ 0 (fun m' R'=>m'=m∧∃ l':Ln,R'=l'.ps++R∧l'.Ok∧l'.g=l.g∧l'.cap=l.cap∧l'.se=l.se+1∧l'.q=l.q++[(tgOf x.a,subL m.G x.a.lo x.a.hi)]) (fun m' R' hK=>by rw [hK.1];exact ⟨rfl,rfl,rfl,rfl⟩) (fun W Y hM=>?_)).mono ?_
   · rw [show kindId x.kind=201 by rw [hk];rfl]
     refine (msend_any W m l (Y++R) (perm _ _ _ _ hM) ho x ⟨hac.lt,hac.hi⟩ _ 0 (fun l'=>l'.Ok∧l'.g=l.g∧l'.cap=l.cap∧l'.se=l.se+1∧l'.q=l.q++[(tgOf x.a,subL m.G x.a.lo x.a.hi)]) (fun W' R' hM' hR=>(send_any W' l R' hM' hl hlb hlt _ _ _ _ _ hR hvl (by omega)).mono fun e w' hh=>?_)).mono ?_
     · obtain ⟨h2,A',c',Am,cm,hcm,hM2⟩:=hh
       have hin:In64 (subL m.G x.a.lo x.a.hi):=fun z hz=>ho.G.2 z (subL_mem hz)
       have hs:=hl.ok.send hlt ⟨tgOf x.a,Am,cm,subL m.G x.a.lo x.a.hi⟩ ⟨by dsimp only;omega,by dsimp only;omega,hin⟩
       exact ⟨h2,{ l with A:=A',n:=min (l.se+1) l.cap,c:=c',se:=l.se+1,pk:=max l.pk (l.se+1-l.re),ms:=putMs l.cap l.se l.ms ⟨tgOf x.a,Am,cm,subL m.G x.a.lo x.a.hi⟩ },⟨⟨hs.1,by have:=hl.pk;have:=hl.ok.le;show max l.pk (l.se+1-l.re)≤l.cap;omega⟩,rfl,rfl,rfl,hs.2⟩,hM2⟩
     · rintro e w' ⟨rfl,l',hK,hM'⟩
       exact ⟨rfl,m,l'.ps++R,⟨rfl,l',rfl,hK⟩,perm _ _ _ _ hM'⟩
   · rintro e w' ⟨rfl,m',R',⟨rfl,l',rfl,hK⟩,⟨h0,_⟩ | ⟨_,Ai,ci,hc,hM'⟩⟩
     · exact absurd rfl h0
     · exact .inr ⟨hlt,rfl,_,l',h1.step hc,Mc.step_f _ _ _,Mc.abs_step _ _ _,hK.1,hK.2.1,hK.2.2.1,hK.2.2.2.1,hK.2.2.2.2,hM'⟩
theorem splice_in64 {G v:List Int} (lo:Nat) (hG:In64 G) (hv:In64 v):In64 (splice G lo v):=fun z hz=>by
 unfold splice at hz
 rcases List.mem_append.1 hz with hz | hz
 · first
    | exact hG z (List.mem_of_mem_take hz)
    | (rcases List.mem_append.1 hz with hz | hz
       · exact hG z (List.mem_of_mem_take hz)
       · exact hv z hz)
 · first
    | exact hG z (List.mem_of_mem_drop hz)
    | (rcases List.mem_append.1 hz with hz | hz
       · exact hv z hz
       · exact hG z (List.mem_of_mem_drop hz))
def recvA (a:Am) (x:It) (v:List Int):Am:={ a with G:=if x.a.add then addTo x.a.lo v a.G (x.a.hi-x.a.lo) else splice a.G x.a.lo v }
theorem mdo_recv (w:World) (m:Mc) (l:Ln) (R:List Ch) (h:Mem w (m.ps++(l.ps++R))) (ho:m.Ok) (hl:l.Ok) (hb:m.cnt≤1000000) (hlb:l.se≤100000000) (ht:m.t<m.f.c.st) (x:It) (hx:m.its[m.next]?=some x) (hk:x.kind=4) (a2:Option Addr)
  (hv:∀ v r,l.q=(tgOf x.a,v)::r→v.length=x.a.hi-x.a.lo) :
  Calls Tryz.prog 195 #[.pointer (some ⟨m.f.g,0,none⟩),.pointer (some ⟨l.g,0,none⟩),.pointer a2] w fun e w' =>
   (l.q=[]∧e=.returned (.int .i64 12)∧Mem w' (m.ps++(l.ps++R)))∨(∃ t v r,l.q=(t,v)::r∧t≠tgOf x.a∧e=.returned (.int .i64 10)∧Mem w' (m.ps++(l.ps++R))) ∨
   (∃ v r,l.q=(tgOf x.a,v)::r∧e=.returned (.int .i64 0)∧∃ (m':Mc) (l':Ln),m'.Ok∧m'.f=m.f∧m'.abs=stepA m.f (recvA m.abs x v)∧l'.Ok∧l'.g=l.g∧l'.cap=l.cap∧l'.se=l.se∧l'.q=r∧Mem w' (m'.ps++(l'.ps++R))):=by
 have h1:=ho.ok1 ht
 obtain ⟨x',hx',hxo⟩:=ho.at_ ht
 rw [hx] at hx'
 injection hx' with hx'
 subst hx'
 obtain ⟨hst,hkind⟩:=hxo
 have hac:AcOk m.f.p (plBs m.f.c m.f.p).length m.f.c.k m.t x.a:=by
  rcases hkind with ⟨e,_⟩ | ⟨e,_⟩ | ⟨e,_⟩ | ⟨_,ha⟩ | ⟨e,_⟩ | e
  · omega
  · omega
  · omega
  · exact ha
  · omega
  · omega
 have hre:=hl.ok.le
 have perm:∀ (W:World) (X Y Z:List Ch),Mem W (X++(Y++(Z++R)))→Mem W (X++(Z++(Y++R))):=fun W X Y Z hM=>hM.perm (List.Perm.append_left X (by
  rw [← List.append_assoc,← List.append_assoc]
  exact List.Perm.append_right R List.perm_append_comm))
 have err:∀ (code:Int),(code != 0)=true→code≠0→(∀ (W:World) (R':List Ch),Mem W (l.ps++R')→Calls Tryz.prog 211 #[.pointer (some ⟨l.g,0,none⟩),.agg (tgOf x.a).cells.toArray] W fun e w'=>e=.returned (.tuple #[msZero,.int .i64 code])∧Mem w' (l.ps++R')) →
   Calls Tryz.prog 195 #[.pointer (some ⟨m.f.g,0,none⟩),.pointer (some ⟨l.g,0,none⟩),.pointer a2] w fun e w'=>e=.returned (.int .i64 code)∧Mem w' (m.ps++(l.ps++R)):=fun code hc0 hcn CR=>by
  refine (mdo_any w m (l.ps++R) h ho.f x hx (itsAt_le ho.f _) hst (by have:=ho.f.c.st;omega) hb (by omega) _ a2 code (fun m' R'=>m'=m∧R'=l.ps++R) (fun m' R' hK=>by rw [hK.1];exact ⟨rfl,rfl,rfl,rfl⟩) (fun W Y hM=>?_)).mono ?_
  · rw [show kindId x.kind=202 by rw [hk];rfl]
    refine (mreceive_err W m l (Y++R) (perm _ _ _ _ hM) x _ code hc0 CR).mono ?_
    rintro e w' ⟨rfl,hM'⟩
    exact ⟨rfl,m,l.ps++R,⟨rfl,rfl⟩,perm _ _ _ _ hM'⟩
  · rintro e w' ⟨rfl,m',R',⟨rfl,rfl⟩,⟨_,hM'⟩ | ⟨h0,_⟩⟩
    · exact ⟨rfl,hM'⟩
    · exact absurd h0 hcn
 rcases Nat.lt_or_ge l.re l.se with hlt | hge
 · obtain ⟨y,hy,hq⟩:=hl.ok.first hlt
   have hq':l.q=(y.t,y.v)::qL l.cap l.se (l.re+1) l.ms:=hq
   by_cases hteq:y.t=tgOf x.a
   · have hvl:y.v.length=x.a.hi-x.a.lo:=hv y.v _ (by rw [hq',hteq])
     have hyv:=hl.ok.vals y (List.mem_of_getElem? hy)
     refine (mdo_any w m (l.ps++R) h ho.f x hx (itsAt_le ho.f _) hst (by have:=ho.f.c.st;omega) hb (by omega) _ a2 0 (fun m' R'=>(m'.f=m.f∧m'.t=m.t∧m'.next=m.next∧m'.cnt=m.cnt∧m'.abs=recvA m.abs x y.v∧m'.Ok1)∧R'=({ l with re:=l.re+1 }:Ln).ps++R) (fun m' R' hK=>⟨hK.1.1,hK.1.2.1,hK.1.2.2.1,hK.1.2.2.2.1⟩) (fun W Y hM=>?_)).mono ?_
     · rw [show kindId x.kind=202 by rw [hk];rfl]
       refine (mreceive_any W m l { l with re:=l.re+1 } (Y++R) (perm _ _ _ _ hM) ho x ⟨hac.lt,hac.hi⟩ _ y hvl hyv.2.1 (lfam_mem hy) (fun W' R' hM'=>by rw [← hteq];exact receive_any W' l R' hM' hl (by omega) hlt y hy)).mono ?_
       rintro e w' ⟨rfl,hM'⟩
       refine ⟨rfl,{ m with G:=if x.a.add then addTo x.a.lo y.v m.G (x.a.hi-x.a.lo) else splice m.G x.a.lo y.v },_,⟨⟨rfl,rfl,rfl,rfl,rfl,⟨h1.f,h1.P,h1.M,?_,h1.cP,h1.cM,h1.rcds,h1.next,h1.t,h1.recs,h1.opns,h1.ci⟩⟩,rfl⟩,perm _ _ _ _ hM'⟩
       dsimp only
       split
       · exact ⟨(addTo_len _ _ _ _).trans h1.G.1,addTo_in h1.G.2 _⟩
       · refine ⟨?_,splice_in64 _ h1.G.2 hyv.2.2⟩
         rw [length_splice _ _ _ (by rw [h1.G.1,hvl];have:=hac.hi;have:=hac.lt;omega)]
         exact h1.G.1
     · rintro e w' ⟨rfl,m',R',⟨⟨hf,_,_,_,ha,ho1⟩,rfl⟩,⟨h0,_⟩ | ⟨_,Ai,ci,hc,hM'⟩⟩
       · exact absurd rfl h0
       · exact .inr (.inr ⟨y.v,qL l.cap l.se (l.re+1) l.ms,by rw [hq',hteq],rfl,_,{ l with re:=l.re+1 },ho1.step hc,(Mc.step_f _ _ _).trans hf,by rw [Mc.abs_step,ha,hf],⟨hl.ok.recv hlt,hl.pk⟩,rfl,rfl,rfl,rfl,hM'⟩)
   · refine (err 10 rfl (by decide) (fun W' R' hM'=>receive_tag W' l R' hM' hl (by omega) hlt y hy _ hteq)).mono ?_
     rintro e w' ⟨rfl,hM'⟩
     exact .inr (.inl ⟨_,_,_,hq',hteq,rfl,hM'⟩)
 · have e0:l.re=l.se:=by omega
   refine (err 12 rfl (by decide) (fun W' R' hM'=>receive_none W' l R' hM' (by omega) e0 _)).mono ?_
   rintro e w' ⟨rfl,hM'⟩
   refine .inl ⟨?_,rfl,hM'⟩
   unfold Ln.q
   rw [e0]
   exact qL_nil _ _ _
structure Wv where
 g:Nat
 Aw:Option Addr
 cw:Nat
 Al:Option Addr
 cl:Nat
 ms:List Mc
 ls:List Ln
 count:Nat
def ifV (g:Nat):Value:=.iface 95 (.pointer (some ⟨g,0,none⟩))
def ptV (g:Nat):Value:=.pointer (some ⟨g,0,none⟩)
def Wv.cells (x:Wv):List Value:=[.slice x.Aw x.ms.length x.cw,.slice x.Al x.ls.length x.cl,.int .i64 x.count]
def Wv.hd (x:Wv):List Ch:=[.obj x.g (.cells x.cells.toArray 94 (0,0)),.rd x.Aw (x.ms.map fun m=>ifV m.f.g),.rd x.Al (x.ls.map fun l=>ptV l.g)]
def Wv.ps (x:Wv):List Ch:=x.hd++(x.ms.flatMap Mc.ps++x.ls.flatMap Ln.ps)
theorem flat_perm {α β:Type} (f:α→List β):∀ (l:List α) (u:Nat) (a:α),l[u]?=some a→(l.flatMap f).Perm (f a++(l.eraseIdx u).flatMap f)
 | [],_,_,h=>by simp at h
 | x::r,0,a,h=>by
   simp at h;subst h
   exact List.Perm.refl _
 | x::r,u+1,a,h=>by
   have ih:=flat_perm f r u a (by simpa using h)
   rw [List.flatMap_cons,List.eraseIdx_cons_succ,List.flatMap_cons]
   refine (List.Perm.append_left (f x) ih).trans ?_
   rw [← List.append_assoc,← List.append_assoc]
   exact List.Perm.append_right _ List.perm_append_comm
theorem erase_set {α:Type}:∀ (l:List α) (u:Nat) (a:α),(l.set u a).eraseIdx u=l.eraseIdx u
 | [],_,_=>rfl
 | x::r,0,a=>rfl
 | x::r,u+1,a=>by
   rw [List.set_cons_succ,List.eraseIdx_cons_succ,List.eraseIdx_cons_succ,erase_set r u a]
theorem perm_swap_mid {α:Type} (A B C:List α):(A++(B++C)).Perm (B++(A++C)):=by
 rw [← List.append_assoc,← List.append_assoc]
 exact List.Perm.append_right C List.perm_append_comm
theorem Wv.perm1 (x:Wv) (R:List Ch) {u:Nat} {m:Mc} (h:x.ms[u]?=some m):(x.ps++R).Perm (m.ps++(x.hd++((x.ms.eraseIdx u).flatMap Mc.ps++(x.ls.flatMap Ln.ps++R)))):=by
 have h1:=flat_perm Mc.ps x.ms u m h
 unfold Wv.ps
 rw [List.append_assoc,List.append_assoc]
 refine (List.Perm.append_left x.hd (List.Perm.append_right _ h1)).trans ?_
 have:=perm_swap_mid x.hd m.ps ((x.ms.eraseIdx u).flatMap Mc.ps++(x.ls.flatMap Ln.ps++R))
 simpa only [List.append_assoc] using this
theorem Wv.perm2 (x:Wv) (R:List Ch) {u v:Nat} {m:Mc} {l:Ln} (h:x.ms[u]?=some m) (k:x.ls[v]?=some l):(x.ps++R).Perm (m.ps++(l.ps++(x.hd++((x.ms.eraseIdx u).flatMap Mc.ps++((x.ls.eraseIdx v).flatMap Ln.ps++R))))):=by
 refine (x.perm1 R h).trans (List.Perm.append_left m.ps ?_)
 have h2:=flat_perm Ln.ps x.ls v l k
 refine (List.Perm.append_left x.hd (List.Perm.append_left _ (List.Perm.append_right R h2))).trans ?_
 simp only [List.append_assoc]
 exact (List.Perm.append_left x.hd (perm_swap_mid _ l.ps _)).trans (perm_swap_mid x.hd l.ps _)
theorem Wv.hd_set (x:Wv) {u:Nat} {m m':Mc} (h:x.ms[u]?=some m) (hf:m'.f=m.f):({ x with ms:=x.ms.set u m' }:Wv).hd=x.hd:=by
 have e:(x.ms.set u m').map (fun m=>ifV m.f.g)=x.ms.map fun m=>ifV m.f.g:=by
  rw [List.map_set]
  apply List.ext_getElem?
  intro j
  by_cases hj:u=j
  · subst hj
    rw [List.getElem?_set_self (by rw [List.length_map];exact (List.getElem?_eq_some_iff.1 h).1),List.getElem?_map,h,hf]
    rfl
  · rw [List.getElem?_set_ne hj]
 unfold Wv.hd Wv.cells
 dsimp only
 rw [e,List.length_set]
theorem Wv.hd_set2 (x:Wv) {u:Nat} {l l':Ln} (h:x.ls[u]?=some l) (hf:l'.g=l.g):({ x with ls:=x.ls.set u l' }:Wv).hd=x.hd:=by
 have e:(x.ls.set u l').map (fun l=>ptV l.g)=x.ls.map fun l=>ptV l.g:=by
  rw [List.map_set]
  apply List.ext_getElem?
  intro j
  by_cases hj:u=j
  · subst hj
    rw [List.getElem?_set_self (by rw [List.length_map];exact (List.getElem?_eq_some_iff.1 h).1),List.getElem?_map,h,hf]
    rfl
  · rw [List.getElem?_set_ne hj]
 unfold Wv.hd Wv.cells
 dsimp only
 rw [e,List.length_set]
theorem Mem.back1 {W:World} {x:Wv} {R:List Ch} {u:Nat} {m m':Mc} (h:x.ms[u]?=some m) (hf:m'.f=m.f) (hM:Mem W (m'.ps++(x.hd++((x.ms.eraseIdx u).flatMap Mc.ps++(x.ls.flatMap Ln.ps++R))))):Mem W (({ x with ms:=x.ms.set u m' }:Wv).ps++R):=by
 have hp:=Wv.perm1 { x with ms:=x.ms.set u m' } R (u:=u) (m:=m') (List.getElem?_set_self (List.getElem?_eq_some_iff.1 h).1)
 rw [x.hd_set h hf] at hp
 dsimp only at hp
 rw [erase_set] at hp
 exact hM.perm hp.symm
theorem Mem.back2 {W:World} {x:Wv} {R:List Ch} {u v:Nat} {m m':Mc} {l l':Ln} (h:x.ms[u]?=some m) (k:x.ls[v]?=some l) (hf:m'.f=m.f) (hg:l'.g=l.g) (hM:Mem W (m'.ps++(l'.ps++(x.hd++((x.ms.eraseIdx u).flatMap Mc.ps++((x.ls.eraseIdx v).flatMap Ln.ps++R)))))):Mem W (({ x with ms:=x.ms.set u m',ls:=x.ls.set v l' }:Wv).ps++R):=by
 have hp:=Wv.perm2 { x with ms:=x.ms.set u m',ls:=x.ls.set v l' } R (u:=u) (v:=v) (m:=m') (l:=l') (List.getElem?_set_self (List.getElem?_eq_some_iff.1 h).1) (List.getElem?_set_self (List.getElem?_eq_some_iff.1 k).1)
 have e1:=Wv.hd_set2 { x with ms:=x.ms.set u m' } (u:=v) (l:=l) (l':=l') k hg
 dsimp only at e1 hp
 rw [e1,x.hd_set h hf,erase_set,erase_set] at hp
 exact hM.perm hp.symm
theorem st_at {W:World} {B b o j:Nat} {vs:List Value} {v:Value} (h:Rd W B (some ⟨b,o,none⟩) vs) (hv:vs[j]?=some v):W.cell? ⟨b,o+j,none⟩=some v:=by
 obtain ⟨b',o',e,_,hc⟩:=h (by have:=(List.getElem?_eq_some_iff.1 hv).1;omega)
 injection e with e
 injection e with e1 e2
 subst e1;subst e2
 exact hc j v hv
set_option maxRecDepth 100000 in
theorem at_any (w:World) (x:Wv) (R:List Ch) (h:Mem w (x.hd++R)) (k:Nat) (hm:x.ms.length=k) (hl:x.ls.length=k) (hk:1≤k∧k≤8) (u:Nat) (hu:u<k) (m:Mc) (li lo:Ln) (h1:x.ms[u]?=some m) (h2:x.ls[(u+k-1) % k]?=some li) (h3:x.ls[u]?=some lo) :
  Calls Tryz.prog 47 #[.pointer (some ⟨x.g,0,none⟩),.int .i64 u] w fun e w'=>e=.returned (.tuple #[ifV m.f.g,ptV li.g,ptV lo.g,.bool true])∧∃ q,w'=w.drewN q:=by
 obtain ⟨bw,ow,hAw,_,_⟩:=h.rd 1 rfl (by rw [List.length_map];omega)
 obtain ⟨bl,ol,hAl,_,_⟩:=h.rd 2 rfl (by rw [List.length_map];omega)
 obtain ⟨s,hs⟩:∃ s,s=u+k:=⟨_,rfl⟩
 obtain ⟨d,hd⟩:∃ d,d=u+k-1:=⟨_,rfl⟩
 obtain ⟨r,hr⟩:∃ r,r=d % k:=⟨_,rfl⟩
 have e1:(u:Int)+(k:Int)=(s:Int):=by omega
 have e2:(s:Int)-1=(d:Int):=by omega
 have e3:(d:Int).tmod (k:Int)=(r:Int):=by rw [hr];exact (Int.ofNat_tmod _ _).symm
 have hrk:r<k:=by rw [hr];exact Nat.mod_lt _ (by omega)
 have w1:IntKind.i64.wrap (s:Int)=(s:Int):=IntWalk.i64_in _ (by omega)
 have w2:IntKind.i64.wrap (d:Int)=(d:Int):=IntWalk.i64_in _ (by omega)
 have w3:IntKind.i64.wrap (r:Int)=(r:Int):=IntWalk.i64_in _ (by omega)
 have hz:¬ k=0:=by omega
 have hzi:((k:Int) == 0)=false:=beq_eq_false_iff_ne.2 (by omega)
 have hnu:¬ k≤u:=by omega
 rw [← hd,← hr] at h2
 have HS:=K1 (show ∀ (W:World) (q:Nat),W=w.drewN q→W.cell? ⟨x.g,0,none⟩=some (.slice (some ⟨bw,ow,none⟩) k x.cw)∧W.cell? ⟨x.g,1,none⟩=some (.slice (some ⟨bl,ol,none⟩) k x.cl)∧W.cell? ⟨bw,ow+u,none⟩=some (ifV m.f.g)∧W.cell? ⟨bl,ol+r,none⟩=some (ptV li.g)∧W.cell? ⟨bl,ol+u,none⟩=some (ptV lo.g) from fun W q hW=>by
  subst hW
  have h':=h.drewN q
  have hr1:=h'.rd 1 rfl
  have hr2:=h'.rd 2 rfl
  rw [hAw] at hr1
  rw [hAl] at hr2
  refine ⟨?_,?_,st_at hr1 (by rw [List.getElem?_map,h1];rfl),st_at hr2 (by rw [List.getElem?_map,h2];rfl),st_at hr2 (by rw [List.getElem?_map,h3];rfl)⟩
  · rw [← hAw,← hm];exact blk_cells (h'.obj 0 rfl) 0
  · rw [← hAl,← hl];exact blk_cells (h'.obj 0 rfl) 1)
 have ⟨c0,_,_,_,_⟩:=HS.out w 0 rfl
 have hkb:k≤8:=hk.2
 dsimp only [ifV,ptV] at *
 clear h hm hl h1 h2 h3 hs hd hr hAw hAl hk
 go_enter Tryz.func47,Tryz.ntmps47
 go_wp2_with fail
 clear c0
 refine wp_region_stage (.reads [0,1,2,3,4,5,6,7,8,9,10,11,12,13,14,15,16,17,18,19,20,21,22,23,24,25,26,27,28,29] .fin) 30 (fun W'=>W'.cell? ⟨x.g,0,none⟩=some (.slice (some ⟨bw,ow,none⟩) k x.cw)∧W'.cell? ⟨x.g,1,none⟩=some (.slice (some ⟨bl,ol,none⟩) k x.cl)∧W'.cell? ⟨bw,ow+u,none⟩=some (.iface 95 (.pointer (some ⟨m.f.g,0,none⟩)))∧W'.cell? ⟨bl,ol+r,none⟩=some (.pointer (some ⟨li.g,0,none⟩))∧W'.cell? ⟨bl,ol+u,none⟩=some (.pointer (some ⟨lo.g,0,none⟩)))
  (by kernel_rfl) (by kernel_rfl) (by intro d v c a w h;cases d <;> exact h) ?_
 refine PlS.reads_ (HS.out w.drew 1 rfl) (by kernel_rfl) ?_
 simp only [pickO,p1,p2,p3,p4]
 apply Exists.intro
 apply And.intro
 · intro W' hS
   obtain ⟨s1,s2,s3,s4,s5⟩:=hS
   repeat still_step
   exact wpStill_nil rfl
 refine PlS.fin_ ?_
 go_wp2_with fail
 refine bodyPost_ret (v:=.tuple #[.iface 95 (.pointer (some ⟨m.f.g,0,none⟩)),.pointer (some ⟨li.g,0,none⟩),.pointer (some ⟨lo.g,0,none⟩),.bool true]) ?_ rfl ⟨rfl,1,rfl⟩
 simp [results,Tryz.results47,go_sem]
theorem at_none (w:World) (x:Wv) (R:List Ch) (h:Mem w (x.hd++R)) (k:Nat) (hm:x.ms.length=k) (z:Int) (hz:z<0∨(k:Int)≤z) :
  Calls Tryz.prog 47 #[.pointer (some ⟨x.g,0,none⟩),.int .i64 z] w fun e w'=>e=.returned (.tuple #[.nilIface,.pointer none,.pointer none,.bool false])∧w'=w:=by
 have c0:w.cell? ⟨x.g,0,none⟩=some (.slice x.Aw k x.cw):=by rw [← hm];exact blk_cells (h.obj 0 rfl) 0
 clear h hm
 by_cases hn:z<0
 · clear hz
   go_enter Tryz.func47,Tryz.ntmps47
   go_wp2_with fail
   refine bodyPost_ret (v:=.tuple #[.nilIface,.pointer none,.pointer none,.bool false]) ?_ rfl ⟨rfl,rfl⟩
   simp [results,Tryz.results47,go_sem]
 · have hz2:(k:Int)≤z:=by omega
   clear hz
   go_enter Tryz.func47,Tryz.ntmps47
   go_wp2_with fail
   refine bodyPost_ret (v:=.tuple #[.nilIface,.pointer none,.pointer none,.bool false]) ?_ rfl ⟨rfl,rfl⟩
   simp [results,Tryz.results47,go_sem]
end Go.Proofs.YtdpojpcoghcieaaGreat
