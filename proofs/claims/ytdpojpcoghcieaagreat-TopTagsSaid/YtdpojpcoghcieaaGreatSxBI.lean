/- A part of the proof of TopTags: MachStep, Wdo, Pick, Run, Stat, StatH. Conditions: none. -/
import Derived.Test.YtdpojpcoghcieaaGreatSxBE
import Derived.Test.YtdpojpcoghcieaaGreatSxAW
import Derived.Test.YtdpojpcoghcieaaGreatSxBB
import Derived.Test.YtdpojpcoghcieaaGreatSxBA
set_option maxHeartbeats 8000000
set_option linter.all false
namespace Go.Proofs.YtdpojpcoghcieaaGreat
open Lib renaming hid → K1
open Go.RowKit
set_option maxRecDepth 100000
open Value renaming int → U
open IntKind renaming i64 → O
open List renaming append_assoc → Af0, length_append → Af2, length_singleton → Af4, mem_of_getElem? → Af5, length_set → Af6, getElem?_set_self → Af7, getElem?_set_ne → Af8, perm_append_comm → Af9, mem_of_mem_take → Aga, mem_of_mem_drop → Agb
open And renaming intro → Af1
open Nat renaming le_of_lt → Af3
section
structure Am where
 P:List Int
 M:List Int
 G:List Int
 rcd:List (List Int × List Int)
 t:Nat
 next:Nat
 cnt:Nat
 opn:List Nat
def Mc.abs (m:Mc):Am:=⟨m.P,m.M,m.G,m.rcd.map Ex.nums,m.t,m.next,m.cnt,m.opn⟩
def BZ (f:Mf) (a:Am):Am:=if a.next+1=(Bo f a.t).length then { a with cnt:=a.cnt+1,next:=0,t:=a.t+1 } else { a with cnt:=a.cnt+1,next:=a.next+1 }
theorem Mc.abs_step (m:Mc) (Ai:Option Addr) (ci:Nat):(m.step Ai ci).abs=BZ m.f m.abs:=by
 unfold Mc.step BZ
 by_cases h:m.next+1=m.its.length
 . rw [if_pos h,if_pos (show m.abs.next+1=(Bo m.f m.abs.t).length from h)];rfl
 . rw [if_neg h,if_neg (show ¬ m.abs.next+1=(Bo m.f m.abs.t).length from h)];rfl
theorem Mc.step_f (m:Mc) (Ai:Option Addr) (ci:Nat):(m.step Ai ci).f=m.f:=by
 unfold Mc.step;split <;> rfl
structure Mc.Ok1 (m:Mc):Prop where
 f:m.f.Ok
 P:m.P.length=m.f.p/\In64 m.P
 M:m.M.length=m.f.p/\In64 m.M
 G:m.G.length=m.f.p/\In64 m.G
 cP:m.f.p<=m.cP
 cM:m.f.p<=m.cM
 rcds:∀ e∈m.rcd,e.xs.length=m.f.p/\e.ys.length=m.f.p
 next:m.next<m.its.length
 t:m.t<m.f.c.st
 recs:m.rcd.length<=m.cnt+2
 opns:m.opn.length<=m.cnt+1
 ci:m.its.length<=m.ci
theorem Mc.Ok1.step {m:Mc} (h:m.Ok1) {Ai:Option Addr} {ci:Nat} (hc:m.next+1=m.its.length->(Bo m.f (m.t+1)).length<=ci):(m.step Ai ci).Ok:=by
 have hn:=h.next;have ht:=h.t;unfold Mc.step
 by_cases hl:m.next+1=m.its.length
 . rw [if_pos hl];refine ⟨h.f,h.P,h.M,h.G,h.cP,h.cM,h.rcds,fun h1=>?_,fun _=>rfl,ht,h.recs,h.opns,hc hl⟩;show 0<(Bo m.f (m.t+1)).length;unfold Bo;rw [if_pos (show m.t+1<m.f.c.st from h1)];exact He _ _ _ _
 . rw [if_neg hl];refine ⟨h.f,h.P,h.M,h.G,h.cP,h.cM,h.rcds,fun _=>?_,fun h1=>absurd ht (Nat.not_lt.2 h1),Af3 ht,h.recs,h.opns,h.ci⟩;show m.next+1<m.its.length;omega
theorem Mc.Ok.ok1 {m:Mc} (h:m.Ok) (ht:m.t<m.f.c.st):m.Ok1:=⟨h.f,h.P,h.M,h.G,h.cP,h.cM,h.rcds,h.next ht,ht,by have:=h.recs;omega,by have:=h.opns;omega,h.ci⟩
theorem Tn {c:Kf} (hc:c.Ok) {p:Nat} (hp:p<=60) (t u:Nat):(AS c p t u).length<=1000000000:=by
 obtain ⟨h1,h2,h3,h4⟩:=DU hc hp;have h5:=FS (s:=c.s) (t:=t) (w:=u) h1 h2 hc.k h3 (plGs c p).length (Nat.le_refl _)
 have e:Bx (plBs c p) (plGs c p) c.k c.s t u (plGs c p).length=(plGs c p).flatMap (CJ (plBs c p) c.k c.s t u):=by
  unfold Bx;rw [List.take_length]
 rw [e] at h5;have hm:=hc.mi;unfold AS Cv;rw [Af2,Af2,Co,Af4];omega
theorem F4 {f:Mf} (hf:f.Ok) (t:Nat):(Bo f t).length<=1000000000:=by
 unfold Bo
 split
 . exact Tn hf.c hf.p.2 _ _
 . simp
def ownA (f:Mf) (a:Am) (x:It):Am :=
 if x.kind=1 then { a with G:=BH f.ns f.c.sh a.P f.p (exAt f.xs (Ci f.ds f.n f.c.ba a.t f.u f.c.k x.n f.c.mi)) a.G }
 else if x.kind=2 then { a with opn:=a.opn++[x.n] }
 else if x.kind=5 then { a with P:=(Bw f.ru a.G ((plBs f.c f.p)[x.n]?.getD (0,0)).1 a.P a.M (((plBs f.c f.p)[x.n]?.getD (0,0)).2-((plBs f.c f.p)[x.n]?.getD (0,0)).1)).1,M:=(Bw f.ru a.G ((plBs f.c f.p)[x.n]?.getD (0,0)).1 a.P a.M (((plBs f.c f.p)[x.n]?.getD (0,0)).2-((plBs f.c f.p)[x.n]?.getD (0,0)).1)).2,opn:=a.opn.filter fun y=>!(y == x.n) }
 else { a with rcd:=a.rcd++[(a.P,a.M)],G:=AE f.p }
theorem MW (p:Nat):(AE p).length=p/\In64 (AE p):=by
 refine ⟨by simp [AE],fun z hz=>?_⟩;have:z=0:=List.eq_of_mem_replicate (by simpa [AE] using hz);subst this;omega
theorem To (w:World) (m:Mc) (R:List Ch) (h:Mem w (m.ps++R)) (ho:m.Ok) (hb:m.cnt<=1000000) (ht:m.t<m.f.c.st) (x:It) (hx:m.its[m.next]?=some x) (hk:x.kind≠3/\x.kind≠4) (a1 a2:Option Addr) :
  Calls Tryz.prog 195 #[.pointer (some ⟨m.f.g,0,none⟩),.pointer a1,.pointer a2] w fun e w'=>e=.returned (U O 0)/\∃ m':Mc,m'.Ok/\m'.f=m.f/\m'.abs=BZ m.f (ownA m.f m.abs x)/\Mem w' (m'.ps++R):=by
 have h1:=ho.ok1 ht;obtain ⟨x',hx',hxo⟩:=ho.at_ ht;rw [hx] at hx';injection hx' with hx'
 subst hx';obtain ⟨hst,hkind⟩:=hxo;refine (G1 w m R h ho.f x hx (F4 ho.f _) hst (by have:=ho.f.c.st;omega) hb (by omega) a1 a2 0 (fun m' R'=>R'=R/\m'.f=m.f/\m'.t=m.t/\m'.next=m.next/\m'.cnt=m.cnt/\m'.abs=ownA m.f m.abs x/\m'.Ok1) (fun m' R' hK=>⟨hK.2.1,hK.2.2.1,hK.2.2.2.1,hK.2.2.2.2.1⟩) (fun W Y hM=>?_)).mono ?_
 . rcases hkind with ⟨e,hn⟩ | ⟨e,hn⟩ | ⟨e,_⟩ | ⟨e,_⟩ | ⟨e,hn⟩ | e
   . rw [show Dg x.kind=199 by rw [e];rfl];refine (RP W m (Y++R) hM ho x ht hst hn _ _).mono ?_;rintro r W' ⟨rfl,hM'⟩;refine ⟨rfl,{ m with G:=BH m.f.ns m.f.c.sh m.P m.f.p (m.micro x.n) m.G },R,⟨rfl,rfl,rfl,rfl,rfl,?_,⟨h1.f,h1.P,h1.M,⟨(Gu _ _ _ _ _ _).trans h1.G.1,Ih _ _ _ _ _ _ h1.G.2⟩,h1.cP,h1.cM,h1.rcds,h1.next,h1.t,h1.recs,h1.opns,h1.ci⟩⟩,hM'⟩;unfold ownA;rw [if_pos e];rfl
   . rw [show Dg x.kind=200 by rw [e];rfl];refine (RK W m (Y++R) hM ho hb x _ _).mono ?_;rintro r W' ⟨rfl,A',c',hM'⟩;refine ⟨rfl,{ m with Ao:=A',co:=c',opn:=m.opn++[x.n] },R,⟨rfl,rfl,rfl,rfl,rfl,?_,⟨h1.f,h1.P,h1.M,h1.G,h1.cP,h1.cM,h1.rcds,h1.next,h1.t,h1.recs,?_,h1.ci⟩⟩,hM'⟩
     . unfold ownA;rw [if_neg (by omega),if_pos e];rfl
     . show (m.opn++[x.n]).length<=m.cnt+1;rw [Af2,Af4];have:=ho.opns;omega
   . exact absurd e hk.1
   . exact absurd e hk.2
   . rw [show Dg x.kind=203 by rw [e];rfl];obtain ⟨⟨lo,hi⟩,hbk⟩:=Au _ x.n hn;refine (RN W m (Y++R) hM ho x lo hi hbk hb _ _).mono ?_;rintro r W' ⟨rfl,hM'⟩;have hlen:=Jm m.f.ru m.G lo m.P m.M (hi-lo);have hin:=Jn (r:=m.f.ru) (gs:=m.G) (x:=lo) ho.P.2 ho.M.2 (hi-lo);refine ⟨rfl,{ m with P:=(Bw m.f.ru m.G lo m.P m.M (hi-lo)).1,M:=(Bw m.f.ru m.G lo m.P m.M (hi-lo)).2,opn:=m.opn.filter fun y=>!(y == x.n) },R,⟨rfl,rfl,rfl,rfl,rfl,?_,⟨h1.f,⟨hlen.1.trans h1.P.1,hin.1⟩,⟨hlen.2.trans h1.M.1,hin.2⟩,h1.G,h1.cP,h1.cM,h1.rcds,h1.next,h1.t,h1.recs,?_,h1.ci⟩⟩,hM'⟩
     . unfold ownA;rw [if_neg (by omega),if_neg (by omega),if_pos e,hbk];rfl
     . have:=ho.opns;have:=List.length_filter_le (fun y=>!(y == x.n)) m.opn;show (m.opn.filter _).length<=m.cnt+1;omega
   . rw [show Dg x.kind=204 by rw [e];rfl];refine (RQ W m (Y++R) hM ho x hb _ _).mono ?_;rintro r W' ⟨rfl,A',c',Ap,cp,Am,cm,hM'⟩;have hz:=MW m.f.p;refine ⟨rfl,{ m with Ar:=A',cr:=c',rcd:=m.rcd++[⟨Ap,m.P,cp,Am,m.M,cm⟩],G:=AE m.f.p },R,⟨rfl,rfl,rfl,rfl,rfl,?_,⟨h1.f,h1.P,h1.M,hz,h1.cP,h1.cM,fun e' he=>?_,h1.next,h1.t,?_,h1.opns,h1.ci⟩⟩,hM'⟩
     . unfold ownA;rw [if_neg (by omega),if_neg (by omega),if_neg (by omega)];simp [Mc.abs,Ex.nums]
     . rcases List.mem_append.1 he with he | he
       . exact h1.rcds e' he
       . rw [List.mem_singleton.1 he];exact ⟨h1.P.1,h1.M.1⟩
     . show (m.rcd++[_]).length<=m.cnt+2;rw [Af2,Af4];have:=ho.recs;omega
 . rintro e w' ⟨rfl,m',R',⟨rfl,hf,_,_,_,ha,ho1⟩,⟨h0,_⟩ | ⟨_,Ai,ci,hc,hM'⟩⟩
   . exact absurd rfl h0
   . exact ⟨rfl,_,ho1.step hc,(Mc.step_f _ _ _).trans hf,by rw [Mc.abs_step,ha,hf],hM'⟩
theorem Tp (w:World) (m:Mc) (l:Ln) (R:List Ch) (h:Mem w (m.ps++(l.ps++R))) (ho:m.Ok) (hl:l.Ok) (hb:m.cnt<=1000000) (hlb:l.se<=100000000) (ht:m.t<m.f.c.st) (x:It) (hx:m.its[m.next]?=some x) (hk:x.kind=3) (a1:Option Addr) :
  Calls Tryz.prog 195 #[.pointer (some ⟨m.f.g,0,none⟩),.pointer a1,.pointer (some ⟨l.g,0,none⟩)] w fun e w' =>
   (l.q.length=l.cap/\e=.returned (U O 11)/\Mem w' (m.ps++(l.ps++R))) \/
   (l.q.length<l.cap/\e=.returned (U O 0)/\∃ (m':Mc) (l':Ln),m'.Ok/\m'.f=m.f/\m'.abs=BZ m.f m.abs/\l'.Ok/\l'.g=l.g/\l'.cap=l.cap/\l'.se=l.se+1/\l'.q=l.q++[(tgOf x.a,subL m.G x.a.lo x.a.hi)]/\Mem w' (m'.ps++(l'.ps++R))):=by
 have h1:=ho.ok1 ht;obtain ⟨x',hx',hxo⟩:=ho.at_ ht;rw [hx] at hx';injection hx' with hx'
 subst hx';obtain ⟨hst,hkind⟩:=hxo
 have hac:AcOk m.f.p (plBs m.f.c m.f.p).length m.f.c.k m.t x.a:=by
  rcases hkind with ⟨e,_⟩ | ⟨e,_⟩ | ⟨_,ha⟩ | ⟨e,_⟩ | ⟨e,_⟩ | e
  . omega
  . omega
  . exact ha
  . omega
  . omega
  . omega
 have hql:l.q.length=l.se-l.re:=Jo _ _ _ _;have hroom:=hl.ok.room;rw [hql];have hvl:(subL m.G x.a.lo x.a.hi).length=x.a.hi-x.a.lo:=Dc (Af3 hac.lt) (by rw [ho.G.1];exact hac.hi);have hp60:=ho.f.p.2;have hhi:=hac.hi
 have perm:∀ (W:World) (X Y Z:List Ch),Mem W (X++(Y++(Z++R)))->Mem W (X++(Z++(Y++R))):=fun W X Y Z hM=>hM.perm (List.Perm.append_left X (by
  rw [<- Af0,<- Af0]
  exact List.Perm.append_right R Af9))
 by_cases hfull:l.se-l.re=l.cap
 . refine (G1 w m (l.ps++R) h ho.f x hx (F4 ho.f _) hst (by have:=ho.f.c.st;omega) hb (by omega) a1 _ 11 (fun m' R'=>m'=m/\R'=l.ps++R) (fun m' R' hK=>by rw [hK.1];exact ⟨rfl,rfl,rfl,rfl⟩) (fun W Y hM=>?_)).mono ?_
   . rw [show Dg x.kind=201 by rw [hk];rfl];refine (Mk W m l (Y++R) (perm _ _ _ _ hM) ho x ⟨hac.lt,hac.hi⟩ _ 11 (fun l'=>l'=l) (fun W' R' hM' _=>(R1 W' l R' hM' hl hlb hfull _ _ _ _).mono fun e w' ⟨h1,h2⟩=>⟨h1,l,rfl,h2⟩)).mono ?_;rintro e w' ⟨rfl,l',rfl,hM'⟩;exact ⟨rfl,m,l'.ps++R,⟨rfl,rfl⟩,perm _ _ _ _ hM'⟩
   . rintro e w' ⟨rfl,m',R',⟨rfl,rfl⟩,⟨_,hM'⟩ | ⟨h0,_⟩⟩
     . exact .inl ⟨hfull,rfl,hM'⟩
     . exact absurd h0 (by omega)
 . have hlt:l.se-l.re<l.cap:=by omega
   refine (G1 w m (l.ps++R) h ho.f x hx (F4 ho.f _) hst (by have:=ho.f.c.st;omega) hb (by omega) a1 _ 0 (fun m' R'=>m'=m/\∃ l':Ln,R'=l'.ps++R/\l'.Ok/\l'.g=l.g/\l'.cap=l.cap/\l'.se=l.se+1/\l'.q=l.q++[(tgOf x.a,subL m.G x.a.lo x.a.hi)]) (fun m' R' hK=>by rw [hK.1];exact ⟨rfl,rfl,rfl,rfl⟩) (fun W Y hM=>?_)).mono ?_
   . rw [show Dg x.kind=201 by rw [hk];rfl];refine (Mk W m l (Y++R) (perm _ _ _ _ hM) ho x ⟨hac.lt,hac.hi⟩ _ 0 (fun l'=>l'.Ok/\l'.g=l.g/\l'.cap=l.cap/\l'.se=l.se+1/\l'.q=l.q++[(tgOf x.a,subL m.G x.a.lo x.a.hi)]) (fun W' R' hM' hR=>(R3 W' l R' hM' hl hlb hlt _ _ _ _ _ hR hvl (by omega)).mono fun e w' hh=>?_)).mono ?_
     . obtain ⟨h2,A',c',Am,cm,hcm,hM2⟩:=hh;have hin:In64 (subL m.G x.a.lo x.a.hi):=fun z hz=>ho.G.2 z (Gt hz)
       have hs:=hl.ok.send hlt ⟨tgOf x.a,Am,cm,subL m.G x.a.lo x.a.hi⟩ ⟨by dsimp only;omega,by dsimp only;omega,hin⟩;exact ⟨h2,{ l with A:=A',n:=min (l.se+1) l.cap,c:=c',se:=l.se+1,pk:=max l.pk (l.se+1-l.re),ms:=Df l.cap l.se l.ms ⟨tgOf x.a,Am,cm,subL m.G x.a.lo x.a.hi⟩ },⟨⟨hs.1,by have:=hl.pk;have:=hl.ok.le;show max l.pk (l.se+1-l.re)<=l.cap;omega⟩,rfl,rfl,rfl,hs.2⟩,hM2⟩
     . rintro e w' ⟨rfl,l',hK,hM'⟩;exact ⟨rfl,m,l'.ps++R,⟨rfl,l',rfl,hK⟩,perm _ _ _ _ hM'⟩
   . rintro e w' ⟨rfl,m',R',⟨rfl,l',rfl,hK⟩,⟨h0,_⟩ | ⟨_,Ai,ci,hc,hM'⟩⟩
     . exact absurd rfl h0
     . exact .inr ⟨hlt,rfl,_,l',h1.step hc,Mc.step_f _ _ _,Mc.abs_step _ _ _,hK.1,hK.2.1,hK.2.2.1,hK.2.2.2.1,hK.2.2.2.2,hM'⟩
theorem Tq {G v:List Int} (lo:Nat) (hG:In64 G) (hv:In64 v):In64 (splice G lo v):=fun z hz=>by
 unfold splice at hz
 rcases List.mem_append.1 hz with hz | hz
 . first
    | exact hG z (Aga hz)
    | (rcases List.mem_append.1 hz with hz | hz
       . exact hG z (Aga hz)
       . exact hv z hz)
 . first
    | exact hG z (Agb hz)
    | (rcases List.mem_append.1 hz with hz | hz
       . exact hv z hz
       . exact hG z (Agb hz))
def Ip (a:Am) (x:It) (v:List Int):Am:={ a with G:=if x.a.add then Bn x.a.lo v a.G (x.a.hi-x.a.lo) else splice a.G x.a.lo v }
theorem Tr (w:World) (m:Mc) (l:Ln) (R:List Ch) (h:Mem w (m.ps++(l.ps++R))) (ho:m.Ok) (hl:l.Ok) (hb:m.cnt<=1000000) (hlb:l.se<=100000000) (ht:m.t<m.f.c.st) (x:It) (hx:m.its[m.next]?=some x) (hk:x.kind=4) (a2:Option Addr)
  (hv:∀ v r,l.q=(tgOf x.a,v)::r->v.length=x.a.hi-x.a.lo) :
  Calls Tryz.prog 195 #[.pointer (some ⟨m.f.g,0,none⟩),.pointer (some ⟨l.g,0,none⟩),.pointer a2] w fun e w' =>
   (l.q=[]/\e=.returned (U O 12)/\Mem w' (m.ps++(l.ps++R)))\/(∃ t v r,l.q=(t,v)::r/\t≠tgOf x.a/\e=.returned (U O 10)/\Mem w' (m.ps++(l.ps++R))) \/
   (∃ v r,l.q=(tgOf x.a,v)::r/\e=.returned (U O 0)/\∃ (m':Mc) (l':Ln),m'.Ok/\m'.f=m.f/\m'.abs=BZ m.f (Ip m.abs x v)/\l'.Ok/\l'.g=l.g/\l'.cap=l.cap/\l'.se=l.se/\l'.q=r/\Mem w' (m'.ps++(l'.ps++R))):=by
 have h1:=ho.ok1 ht;obtain ⟨x',hx',hxo⟩:=ho.at_ ht;rw [hx] at hx';injection hx' with hx'
 subst hx';obtain ⟨hst,hkind⟩:=hxo
 have hac:AcOk m.f.p (plBs m.f.c m.f.p).length m.f.c.k m.t x.a:=by
  rcases hkind with ⟨e,_⟩ | ⟨e,_⟩ | ⟨e,_⟩ | ⟨_,ha⟩ | ⟨e,_⟩ | e
  . omega
  . omega
  . omega
  . exact ha
  . omega
  . omega
 have hre:=hl.ok.le
 have perm:∀ (W:World) (X Y Z:List Ch),Mem W (X++(Y++(Z++R)))->Mem W (X++(Z++(Y++R))):=fun W X Y Z hM=>hM.perm (List.Perm.append_left X (by
  rw [<- Af0,<- Af0]
  exact List.Perm.append_right R Af9))
 have err:∀ (code:Int),(code != 0)=true->code≠0->(∀ (W:World) (R':List Ch),Mem W (l.ps++R')->Calls Tryz.prog 211 #[.pointer (some ⟨l.g,0,none⟩),.agg (tgOf x.a).cells.toArray] W fun e w'=>e=.returned (.tuple #[Fu,U O code])/\Mem w' (l.ps++R')) ->
   Calls Tryz.prog 195 #[.pointer (some ⟨m.f.g,0,none⟩),.pointer (some ⟨l.g,0,none⟩),.pointer a2] w fun e w'=>e=.returned (U O code)/\Mem w' (m.ps++(l.ps++R)):=fun code hc0 hcn CR=>by
  refine (G1 w m (l.ps++R) h ho.f x hx (F4 ho.f _) hst (by have:=ho.f.c.st;omega) hb (by omega) _ a2 code (fun m' R'=>m'=m/\R'=l.ps++R) (fun m' R' hK=>by rw [hK.1];exact ⟨rfl,rfl,rfl,rfl⟩) (fun W Y hM=>?_)).mono ?_
  . rw [show Dg x.kind=202 by rw [hk];rfl];refine (RH W m l (Y++R) (perm _ _ _ _ hM) x _ code hc0 CR).mono ?_;rintro e w' ⟨rfl,hM'⟩;exact ⟨rfl,m,l.ps++R,⟨rfl,rfl⟩,perm _ _ _ _ hM'⟩
  . rintro e w' ⟨rfl,m',R',⟨rfl,rfl⟩,⟨_,hM'⟩ | ⟨h0,_⟩⟩
    . exact ⟨rfl,hM'⟩
    . exact absurd h0 hcn
 rcases Nat.lt_or_ge l.re l.se with hlt | hge
 . obtain ⟨y,hy,hq⟩:=hl.ok.first hlt;have hq':l.q=(y.t,y.v)::qL l.cap l.se (l.re+1) l.ms:=hq
   by_cases hteq:y.t=tgOf x.a
   . have hvl:y.v.length=x.a.hi-x.a.lo:=hv y.v _ (by rw [hq',hteq]);have hyv:=hl.ok.vals y (Af5 hy);refine (G1 w m (l.ps++R) h ho.f x hx (F4 ho.f _) hst (by have:=ho.f.c.st;omega) hb (by omega) _ a2 0 (fun m' R'=>(m'.f=m.f/\m'.t=m.t/\m'.next=m.next/\m'.cnt=m.cnt/\m'.abs=Ip m.abs x y.v/\m'.Ok1)/\R'=({ l with re:=l.re+1 }:Ln).ps++R) (fun m' R' hK=>⟨hK.1.1,hK.1.2.1,hK.1.2.2.1,hK.1.2.2.2.1⟩) (fun W Y hM=>?_)).mono ?_
     . rw [show Dg x.kind=202 by rw [hk];rfl];refine (RI W m l { l with re:=l.re+1 } (Y++R) (perm _ _ _ _ hM) ho x ⟨hac.lt,hac.hi⟩ _ y hvl hyv.2.1 (LY hy) (fun W' R' hM'=>by rw [<- hteq];exact Rv W' l R' hM' hl (by omega) hlt y hy)).mono ?_;rintro e w' ⟨rfl,hM'⟩;refine ⟨rfl,{ m with G:=if x.a.add then Bn x.a.lo y.v m.G (x.a.hi-x.a.lo) else splice m.G x.a.lo y.v },_,⟨⟨rfl,rfl,rfl,rfl,rfl,⟨h1.f,h1.P,h1.M,?_,h1.cP,h1.cM,h1.rcds,h1.next,h1.t,h1.recs,h1.opns,h1.ci⟩⟩,rfl⟩,perm _ _ _ _ hM'⟩;dsimp only
       split
       . exact ⟨(D4 _ _ _ _).trans h1.G.1,FX h1.G.2 _⟩
       . refine ⟨?_,Tq _ h1.G.2 hyv.2.2⟩;rw [length_splice _ _ _ (by rw [h1.G.1,hvl];have:=hac.hi;have:=hac.lt;omega)];exact h1.G.1
     . rintro e w' ⟨rfl,m',R',⟨⟨hf,_,_,_,ha,ho1⟩,rfl⟩,⟨h0,_⟩ | ⟨_,Ai,ci,hc,hM'⟩⟩
       . exact absurd rfl h0
       . exact .inr (.inr ⟨y.v,qL l.cap l.se (l.re+1) l.ms,by rw [hq',hteq],rfl,_,{ l with re:=l.re+1 },ho1.step hc,(Mc.step_f _ _ _).trans hf,by rw [Mc.abs_step,ha,hf],⟨hl.ok.recv hlt,hl.pk⟩,rfl,rfl,rfl,rfl,hM'⟩)
   . refine (err 10 rfl (by decide) (fun W' R' hM'=>Ry W' l R' hM' hl (by omega) hlt y hy _ hteq)).mono ?_;rintro e w' ⟨rfl,hM'⟩;exact .inr (.inl ⟨_,_,_,hq',hteq,rfl,hM'⟩)
 . have e0:l.re=l.se:=by omega
   refine (err 12 rfl (by decide) (fun W' R' hM'=>Rx W' l R' hM' (by omega) e0 _)).mono ?_;rintro e w' ⟨rfl,hM'⟩;refine .inl ⟨?_,rfl,hM'⟩;unfold Ln.q;rw [e0];exact LZ _ _ _
structure Rn where
 c:Kf
 p:Nat
 ns:List Nat
 n:Nat
 ds:List Nat
 dat:List (List Int × List Int)
structure Mf.Of (f:Mf) (r:Rn):Prop where
 c:f.c=r.c
 p:f.p=r.p
 ns:f.ns=r.ns
 n:f.n=r.n
 ds:f.ds=r.ds
 dat:f.xs.map Ex.nums=r.dat
def JA (r:Rn) (u:Nat) (l:Ln):Prop:=∀ t v,(t,v)∈l.q->∃ a b,Gr (plBs r.c r.p) r.c.k r.c.s u t=some (a,b)/\v.length=b-a
structure Wv.Ok (x:Wv) (r:Rn):Prop where
 c:r.c.Ok
 lm:x.ms.length=r.c.k
 ll:x.ls.length=r.c.k
 m:∀ (u:Nat) (m:Mc),x.ms[u]?=some m->m.Ok/\m.f.u=u/\m.f.Of r/\m.cnt<=x.count
 l:∀ (u:Nat) (l:Ln),x.ls[u]?=some l->l.Ok/\l.cap=r.c.ca/\l.se<=x.count/\JA r u l
def Moved (r:Rn) (x:Wv) (u:Nat) (x':Wv):Prop:=∃ (m m':Mc) (it:It),x.ms[u]?=some m/\m.its[m.next]?=some it/\m'.f=m.f/\x'.ms=x.ms.set u m'/\x'.count=x.count+1 /\
 ((it.kind≠3/\it.kind≠4/\x'.ls=x.ls/\m'.abs=BZ m.f (ownA m.f m.abs it)) \/
  (it.kind=3/\∃ l l':Ln,x.ls[u]?=some l/\x'.ls=x.ls.set u l'/\l.q.length<l.cap/\l'.cap=l.cap/\l'.q=l.q++[(tgOf it.a,subL m.G it.a.lo it.a.hi)]/\m'.abs=BZ m.f m.abs) \/
  (it.kind=4/\∃ (l l':Ln) (v:List Int) (q:List (Tg × List Int)),x.ls[(u+r.c.k-1) % r.c.k]?=some l/\l.q=(tgOf it.a,v)::q/\x'.ls=x.ls.set ((u+r.c.k-1) % r.c.k) l'/\l'.cap=l.cap/\l'.q=q/\m'.abs=BZ m.f (Ip m.abs it v)))
def Stuck (r:Rn) (x:Wv) (u:Nat):Prop:=∃ m:Mc,x.ms[u]?=some m/\(m.its[m.next]?=none\/∃ it:It,m.its[m.next]?=some it /\
 ((it.kind=3/\∃ l:Ln,x.ls[u]?=some l/\l.q.length=l.cap)\/(it.kind=4/\∃ l:Ln,x.ls[(u+r.c.k-1) % r.c.k]?=some l/\∀ v q,l.q≠(tgOf it.a,v)::q)))
theorem ES (f:Mf) (a:Am):(BZ f a).cnt=a.cnt+1:=by unfold BZ;split <;> rfl
theorem JB (f:Mf) (a:Am) (x:It):(ownA f a x).cnt=a.cnt:=by
 unfold ownA
 split
 . rfl
 . split
   . rfl
   . split <;> rfl
theorem Ts (w:World) (m:Mc) (R:List Ch) (h:Mem w (m.ps++R)) (hx:m.its=[]) (hn:m.next=0) (a1 a2:Option Addr) :
  Calls Tryz.prog 195 #[.pointer (some ⟨m.f.g,0,none⟩),.pointer a1,.pointer a2] w fun e w'=>e=.returned (U O 13)/\Mem w' (m.ps++R):=by
 have CN:=K1 (Mj w m R h hx hn);have HM:=K1 h;dsimp only [EP] at CN;clear h hx hn;go_enter Tryz.func195,Tryz.ntmps195;go_wp2_with fail;refine CN.out.mono ?_;rintro e w1 ⟨rfl,hb⟩;have HF:=K1 (((HM.out.below hb).alloc (.cells #[U O 0,U O 0,U O 0,.bool false,.bool false,U O 0,U O 0,U O 0,U O 0,U O 0,U O 0,U O 0] 146)).fA);clear hb HM CN;go_wp2_with fail;go_ret;exact ⟨rfl,HF.out.mid⟩
theorem Wv.Ok.turn {x x':Wv} {r:Rn} (h:x.Ok r) {u:Nat} {m m':Mc} (hm:x.ms[u]?=some m) (hf:m'.f=m.f) (ho:m'.Ok) (hc:m'.cnt=m.cnt+1) (hms:x'.ms=x.ms.set u m') (hcn:x'.count=x.count+1) (hll:x'.ls.length=x.ls.length)
  (hls:∀ (v:Nat) (l:Ln),x'.ls[v]?=some l->l.Ok/\l.cap=r.c.ca/\l.se<=x.count+1/\JA r v l):x'.Ok r:=by
 obtain ⟨h1,h2,h3,h4⟩:=h.m u m hm;refine ⟨h.c,by rw [hms,Af6];exact h.lm,hll.trans h.ll,fun v n hv=>?_,fun v l hv=>by rw [hcn];exact hls v l hv⟩;rw [hms] at hv
 by_cases hvu:u=v
 . subst hvu;rw [Af7 (List.getElem?_eq_some_iff.1 hm).1] at hv;injection hv with hv
   subst hv;rw [hf];exact ⟨ho,h2,h3,by omega⟩
 . rw [Af8 hvu] at hv;obtain ⟨k1,k2,k3,k4⟩:=h.m v n hv;exact ⟨k1,k2,k3,by omega⟩
theorem Wv.Ok.links {x:Wv} {r:Rn} (h:x.Ok r) (v:Nat) (l:Ln) (hv:x.ls[v]?=some l):l.Ok/\l.cap=r.c.ca/\l.se<=x.count+1/\JA r v l:=by
 obtain ⟨h1,h2,h3,h4⟩:=h.l v l hv;exact ⟨h1,h2,by omega,h4⟩
theorem Tt (w:World) (x:Wv) (r:Rn) (R:List Ch) (h:Mem w (x.ps++R)) (ho:x.Ok r) (hb:x.count<=1000000) (u:Nat) (m:Mc) (li lo:Ln) (h1:x.ms[u]?=some m) (h2:x.ls[(u+r.c.k-1) % r.c.k]?=some li) (h3:x.ls[u]?=some lo) :
  Calls Tryz.prog 195 #[.pointer (some ⟨m.f.g,0,none⟩),.pointer (some ⟨li.g,0,none⟩),.pointer (some ⟨lo.g,0,none⟩)] w fun e w' =>
   (∃ code:Int,(code != 0)=true/\e=.returned (U O code)/\Stuck r x u/\Mem w' (x.ps++R))\/(e=.returned (U O 0)/\∃ x':Wv,Moved r x u { x' with count:=x.count+1 }/\({ x' with count:=x.count+1 }:Wv).Ok r/\x'.count=x.count/\x'.g=x.g/\Mem w' (x'.ps++R)):=by
 obtain ⟨hm1,hmu,hmr,hmc⟩:=ho.m u m h1
 by_cases ht:m.t<m.f.c.st
 . obtain ⟨it,hit,_⟩:=hm1.at_ ht
   have hin:it∈AS m.f.c m.f.p m.t m.f.u:=by
    have:=Af5 hit;unfold Mc.its Bo at this
    rwa [if_pos ht] at this
   have hrng:=Ie _ _ _ _ it hin;rw [hmr.c,hmr.p,hmu] at hrng
   by_cases k3:it.kind=3
   . obtain ⟨q1,q2,q3,q4⟩:=ho.l u lo h3;refine (Tp w m lo _ (h.perm (x.perm2 R h1 h3)) hm1 q1 (by omega) (by omega) ht it hit k3 _).mono ?_;rintro e w' (⟨hf,rfl,hM⟩ | ⟨hlt,rfl,m',l',ho',hf',ha',hlo',hg',hcp',hse',hq',hM⟩)
     . exact .inl ⟨11,rfl,rfl,⟨m,h1,.inr ⟨it,hit,.inl ⟨k3,lo,h3,hf⟩⟩⟩,hM.perm (x.perm2 R h1 h3).symm⟩
     . refine .inr ⟨rfl,{ x with ms:=x.ms.set u m',ls:=x.ls.set u l' },⟨m,m',it,h1,hit,hf',rfl,rfl,.inr (.inl ⟨k3,lo,l',h3,rfl,hlt,hcp',hq',ha'⟩)⟩,?_,rfl,rfl,Mem.back2 h1 h3 hf' hg' hM⟩;have hcnt:m'.cnt=m.cnt+1:=(congrArg Am.cnt ha').trans (ES _ _);refine ho.turn h1 hf' ho' hcnt rfl rfl (Af6 ..) (fun v l hv=>?_);dsimp only at hv
       by_cases hvu:u=v
       . subst hvu;rw [Af7 (List.getElem?_eq_some_iff.1 h3).1] at hv;injection hv with hv
         subst hv;refine ⟨hlo',hcp'.trans q2,by omega,fun t v htv=>?_⟩;rw [hq'] at htv
         rcases List.mem_append.1 htv with htv | htv
         . exact q4 t v htv
         . have htv:=List.mem_singleton.1 htv;injection htv with e1 e2
           subst e1;subst e2
           have hr3:=hrng.1 k3;refine ⟨_,_,hr3,?_⟩;obtain ⟨_,hkd⟩:=FY hm1.f.c hm1.f.p.2 it hin
           have hac:it.a.lo<it.a.hi/\it.a.hi<=m.f.p:=by
            rcases hkd with ⟨e,_⟩ | ⟨e,_⟩ | ⟨_,a⟩ | ⟨e,_⟩ | ⟨e,_⟩ | e
            . omega
            . omega
            . exact ⟨a.lt,a.hi⟩
            . omega
            . omega
            . omega
           exact Dc (Af3 hac.1) (by rw [hm1.G.1];exact hac.2)
       . rw [Af8 hvu] at hv;exact ho.links v l hv
   . by_cases k4:it.kind=4
     . obtain ⟨q1,q2,q3,q4⟩:=ho.l _ li h2;have hr4:=hrng.2 k4;refine (Tr w m li _ (h.perm (x.perm2 R h1 h2)) hm1 q1 (by omega) (by omega) ht it hit k4 _ (fun v q hq=>?_)).mono ?_
       . obtain ⟨a,b,hab,hl⟩:=q4 (tgOf it.a) v (by rw [hq];exact List.mem_cons_self ..);rw [hr4] at hab;injection hab with hab
         injection hab with e1 e2
         rw [hl,e1,e2]
       . rintro e w' (⟨hq,rfl,hM⟩ | ⟨t,v,q,hq,hne,rfl,hM⟩ | ⟨v,q,hq,rfl,m',l',ho',hf',ha',hlo',hg',hcp',hse',hq',hM⟩)
         . exact .inl ⟨12,rfl,rfl,⟨m,h1,.inr ⟨it,hit,.inr ⟨k4,li,h2,fun v q h=>by rw [hq] at h;cases h⟩⟩⟩,hM.perm (x.perm2 R h1 h2).symm⟩
         . exact .inl ⟨10,rfl,rfl,⟨m,h1,.inr ⟨it,hit,.inr ⟨k4,li,h2,fun v q h=>by
            rw [hq] at h;injection h with h _
            injection h with h _
            exact hne h⟩⟩⟩,hM.perm (x.perm2 R h1 h2).symm⟩
         . refine .inr ⟨rfl,{ x with ms:=x.ms.set u m',ls:=x.ls.set ((u+r.c.k-1) % r.c.k) l' },⟨m,m',it,h1,hit,hf',rfl,rfl,.inr (.inr ⟨k4,li,l',v,q,h2,hq,rfl,hcp',hq',ha'⟩)⟩,?_,rfl,rfl,Mem.back2 h1 h2 hf' hg' hM⟩;have hcnt:m'.cnt=m.cnt+1:=(congrArg Am.cnt ha').trans (ES _ _);refine ho.turn h1 hf' ho' hcnt rfl rfl (Af6 ..) (fun v' l hv=>?_);dsimp only at hv
           by_cases hvu:(u+r.c.k-1) % r.c.k=v'
           . subst hvu;rw [Af7 (List.getElem?_eq_some_iff.1 h2).1] at hv;injection hv with hv
             subst hv;refine ⟨hlo',hcp'.trans q2,by omega,fun t v2 htv=>q4 t v2 ?_⟩;rw [hq'] at htv;rw [hq];exact List.mem_cons_of_mem _ htv
           . rw [Af8 hvu] at hv;exact ho.links v' l hv
     . refine (To w m _ (h.perm (x.perm1 R h1)) hm1 (by omega) ht it hit ⟨k3,k4⟩ _ _).mono ?_;rintro e w' ⟨rfl,m',ho',hf',ha',hM⟩;refine .inr ⟨rfl,{ x with ms:=x.ms.set u m' },⟨m,m',it,h1,hit,hf',rfl,rfl,.inl ⟨k3,k4,rfl,ha'⟩⟩,?_,rfl,rfl,Mem.back1 h1 hf' hM⟩;have hcnt:m'.cnt=m.cnt+1:=(congrArg Am.cnt ha').trans ((ES _ _).trans (congrArg (·+1) (JB _ _ _)));exact ho.turn h1 hf' ho' hcnt rfl rfl rfl (fun v l hv=>ho.links v l hv)
 . obtain ⟨e1,e2⟩:=hm1.none_ ht;refine (Ts w m _ (h.perm (x.perm1 R h1)) e1 e2 _ _).mono ?_;rintro e w' ⟨rfl,hM⟩;exact .inl ⟨13,rfl,rfl,⟨m,h1,.inl (by rw [e1];rfl)⟩,hM.perm (x.perm1 R h1).symm⟩
def Cj (r:Rn) (x:Wv) (z:Int) (b:Bool) (x':Wv):Prop :=
 (b=false/\x'=x/\(z<0\/(r.c.k:Int)<=z\/∃ u:Nat,z=u/\Stuck r x u))\/(b=true/\x'.Ok r/\∃ u:Nat,z=u/\Moved r x u x')
theorem MX (w:World) (x:Wv) (r:Rn) (R:List Ch) (h:Mem w (x.ps++R)) (ho:x.Ok r) (hb:x.count<=1000000) (z:Int) :
  Calls Tryz.prog 18 #[.pointer (some ⟨x.g,0,none⟩),U O z] w fun e w'=>∃ (b:Bool) (x':Wv),e=.returned (.bool b)/\x'.Ok r/\x'.g=x.g/\Cj r x z b x'/\Mem w' (x'.ps++R):=by
 have hk:=ho.c.k
 by_cases hz:z<0\/(r.c.k:Int)<=z
 . have CA:=K1 (RG w x _ (by have:=h;unfold Wv.ps at this;rw [Af0] at this;exact this) r.c.k ho.lm z hz);have H:=K1 (Af1 h (Af1 ho hz));clear h ho hz;go_enter Tryz.func18,Tryz.ntmps18;go_wp2_with fail;refine CA.out.mono ?_;rintro e w1 ⟨rfl,rfl⟩;clear CA;go_wp2_with fail;go_ret;refine ⟨false,x,rfl,H.out.2.1,rfl,.inl ⟨rfl,rfl,?_⟩,H.out.1⟩
   rcases H.out.2.2 with h | h
   . exact .inl h
   . exact .inr (.inl h)
 . obtain ⟨u,rfl⟩:∃ u:Nat,z=(u:Int):=⟨z.toNat,by omega⟩
   have hu:u<r.c.k:=by omega
   obtain ⟨m,h1⟩:=Au x.ms u (by rw [ho.lm];exact hu);obtain ⟨li,h2⟩:=Au x.ls ((u+r.c.k-1) % r.c.k) (by rw [ho.ll];exact Nat.mod_lt _ (by omega));obtain ⟨lo,h3⟩:=Au x.ls u (by rw [ho.ll];exact hu);have CA:=K1 (Jv w x _ (by have:=h;unfold Wv.ps at this;rw [Af0] at this;exact this) r.c.k ho.lm ho.ll hk u hu m li lo h1 h2 h3);have CD:=K1 (fun (W:World) hM=>Tt W x r R hM ho hb u m li lo h1 h2 h3);have HM:=K1 h;have HO:=K1 ho;dsimp only [ifV,ptV] at CA;clear h ho hz h1 h2 h3 hk;go_enter Tryz.func18,Tryz.ntmps18;go_wp2_with fail;refine CA.out.mono ?_;rintro e w1 ⟨rfl,q,rfl⟩
   replace HM:=K1 (HM.out.drewN q);clear CA;go_wp2_with fail;refine (CD.out _ HM.out).mono ?_;rintro e w2 (⟨code,hc,rfl,hs,hm2⟩ | ⟨rfl,x',hmv,hok,hcn,hg,hm2⟩)
   . have H:=K1 (Af1 hs hm2);clear hs hm2 CD HM;go_wp2_with fail;go_ret;exact ⟨false,x,rfl,HO.out,rfl,.inl ⟨rfl,rfl,.inr (.inr ⟨u,rfl,H.out.1⟩)⟩,H.out.2⟩
   . have H:=K1 (Af1 hmv hok)
     obtain ⟨cn1,hcn1⟩:∃ cn1,cn1=x.count+1:=⟨_,rfl⟩
     have hcn1i:(x.count:Int)+1=(cn1:Int):=by omega
     have wcn1:IntKind.i64.wrap (cn1:Int)=(cn1:Int):=IntWalk.i64_in _ (by omega)
     have hm3:Mem w2 (x'.hd++((x'.ms.flatMap Mc.ps++x'.ls.flatMap Ln.ps)++R)):=by
      have:=hm2;unfold Wv.ps at this
      rwa [Af0] at this
     have c2:w2.cell? ⟨x.g,2,none⟩=some (U O x.count):=by rw [<- hg,<- hcn];exact Af (hm3.obj 0 rfl) 2
     have f2:∀ j,w2.frozen? ⟨x.g,j,none⟩=false:=fun j=>by rw [<- hg];exact hm3.frozen 0 j rfl
     have hm4:=hm3.set (i:=0) (j:=2) rfl (U O cn1);rw [hg] at hm4;have HF:=K1 hm4;have HC:=K1 (Af1 hcn (Af1 hg hcn1));clear hmv hok hm2 hm3 hm4 CD HM hcn hg hcn1;go_wp2_with fail;go_ret;refine ⟨true,{ x' with count:=x.count+1 },rfl,H.out.2,HC.out.2.1,.inr ⟨rfl,H.out.2,u,rfl,H.out.1⟩,?_⟩;have h9:=Mem.cast HF.out (show _=({ x' with count:=x.count+1 }:Wv).hd++((x'.ms.flatMap Mc.ps++x'.ls.flatMap Ln.ps)++R) by rw [<- HC.out.2.1,HC.out.2.2];rfl);unfold Wv.ps;rw [Af0];exact h9
theorem Tu {P R:List Ch} {c:Ch}:(P++c::R)[P.length]?=some c:=by simp
def RunR (r:Rn):Wv->List Int->Nat->Wv->Prop
 | x,[],n,x'=>n=0/\x'=x
 | x,z::zs,n,x'=>∃ (b:Bool) (y:Wv) (n':Nat),Cj r x z b y/\RunR r y zs n' x'/\n=n'+b.toNat
theorem RunR.snoc {r:Rn} {z:Int} {b:Bool} {y x':Wv} (hp:Cj r y z b x'):∀ (zs:List Int) {x:Wv} {n:Nat},RunR r x zs n y->RunR r x (zs++[z]) (n+b.toNat) x'
 | [],x,n,h=>by
   obtain ⟨rfl,rfl⟩:=h;exact ⟨b,x',0,hp,⟨rfl,rfl⟩,rfl⟩
 | a::zs,x,n,⟨c,y1,n',h1,h2,h3⟩=>⟨c,y1,n'+b.toNat,h1,RunR.snoc hp zs h2,by omega⟩
theorem Cj.count {r:Rn} {x x':Wv} {z:Int} {b:Bool} (h:Cj r x z b x'):x'.count=x.count+b.toNat:=by
 rcases h with ⟨rfl,rfl,_⟩ | ⟨rfl,_,u,_,m,m',it,_,_,_,_,hc,_⟩
 . rfl
 . exact hc
theorem Cj.ok {r:Rn} {x x':Wv} {z:Int} {b:Bool} (ho:x.Ok r) (h:Cj r x z b x'):x'.Ok r:=by
 rcases h with ⟨_,rfl,_⟩ | ⟨_,h,_⟩
 . exact ho
 . exact h
theorem RunR.count {r:Rn}:∀ (zs:List Int) {x x':Wv} {n:Nat},RunR r x zs n x'->x'.count=x.count+n/\n<=zs.length
 | [],x,x',n,h=>by
   obtain ⟨rfl,rfl⟩:=h;exact ⟨rfl,Nat.le_refl _⟩
 | z::zs,x,x',n,⟨b,y,n',h1,h2,h3⟩=>by
   have c1:=h1.count;have c2:=RunR.count zs h2;have hb:b.toNat<=1:=by cases b <;> decide
   rw [List.length_cons];omega
theorem MY (w:World) (x:Wv) (r:Rn) (R:List Ch) (h:Mem w (x.ps++R)) (ho:x.Ok r) :
  Calls Tryz.prog 27 #[.pointer (some ⟨x.g,0,none⟩)] w fun e w'=>∃ b:Bool,e=.returned (.bool b)/\(b=true↔∀ m∈x.ms,r.c.st<=m.t)/\Below w.heap.size w w':=by
 obtain ⟨k0,hk0⟩:∃ k0,k0=r.c.k:=⟨_,rfl⟩
 have hlm:=ho.lm;rw [<- hk0] at hlm;have hkb:1<=k0/\k0<=8:=by rw [hk0];exact ho.c.k
 have hh:Mem w (x.hd++((x.ms.flatMap Mc.ps++x.ls.flatMap Ln.ps)++R)):=by
  have:=h;unfold Wv.ps at this
  rwa [Af0] at this
 obtain ⟨bw,ow,hAw,_,hcw⟩:=hh.rd 1 rfl (by rw [List.length_map];omega);have c0:w.cell? ⟨x.g,0,none⟩=some (.slice (some ⟨bw,ow,none⟩) k0 x.cw):=by rw [<- hAw,<- hlm];exact Af (hh.obj 0 rfl) 0
 have HC:=K1 (show ∀ (W:World),Below w.heap.size w W->∀ u m,x.ms[u]?=some m->W.cell? ⟨bw,ow+u,none⟩=some (.iface 95 (.pointer (some ⟨m.f.g,0,none⟩))) from fun W hb u m hu=>by
  have h':=(hh.below hb).rd 1 rfl;rw [hAw] at h'
  exact DY h' (by rw [List.getElem?_map,hu];rfl))
 have HM:=K1 h;have HO:=K1 ho;have HL:=K1 hlm;clear h ho hlm hh hAw hcw hk0;go_enter Tryz.func27,Tryz.ntmps27;go_wp2_with fail
 go_loopw [14] (fun s14 wr=>∃ k:Nat,k<=k0/\s14=U O k/\Hid (∀ (u:Nat) (m:Mc),u<k->x.ms[u]?=some m->r.c.st<=m.t)/\Hid (Below w.heap.size w wr)) (fun s14 _=>k0-(intOf s14).toNat)
 case atStart=>exact ⟨0,Nat.zero_le _,rfl,K1 (fun u m hu=>absurd hu (Nat.not_lt_zero _)),K1 (Below.refl _ _)⟩
 case round =>
  clear c0;obtain ⟨k,hk,rfl,HQ,HB⟩:=hrel
  by_cases hlt:k<k0
  . obtain ⟨m,hm⟩:=Au x.ms k (by rw [HL.out];exact hlt);have e1:=HC.out wr HB.out k m hm;obtain ⟨ho1,_,hof,_⟩:=HO.out.m k m hm;have hMm:=(HM.out.below HB.out).perm (x.perm1 R hm)
    by_cases ht:m.t<m.f.c.st
    . obtain ⟨it,hit,_⟩:=ho1.at_ ht;have CN:=K1 (Mi wr m _ hMm it hit (F4 ho1.f _));have HF:=K1 (show m.t<r.c.st/\m∈x.ms by rw [<- hof.c];exact ⟨ht,Af5 hm⟩);obtain ⟨kd,st,n,⟨asn,aa,t1,t2,t3,t4,t5,lo,hi⟩⟩:=it;dsimp only [It.cells,Ac.cells] at CN;simp only [List.cons_append,List.nil_append] at CN;clear hMm ho1 hof hit ht hm;go_wp2_with fail;refine CN.out.mono ?_;rintro e w1 ⟨rfl,hb1⟩;have HB1:=K1 (HB.out.trans (hb1.mono HB.out.size));clear hb1 CN e1;have HB2:=K1 (HB1.out.alloc HB1.out.size (.cells #[U O kd,U O st,U O n,.bool asn,.bool aa,U O t1,U O t2,U O t3,U O t4,U O t5,U O lo,U O hi] 146))
      go_wp2_with fail;go_ret;refine ⟨false,rfl,⟨fun h=>(by cases h),fun h=>absurd (h m HF.out.2) (by have:=HF.out.1;omega)⟩,HB2.out⟩
    . obtain ⟨e2,e3⟩:=ho1.none_ ht;have CN:=K1 (Mj wr m _ hMm e2 e3);dsimp only [EP] at CN;have HF:=K1 (show x.ms[k]?=some m/\r.c.st<=m.t by rw [<- hof.c];exact ⟨hm,by omega⟩);clear hMm ho1 hof ht e2 e3 hm;go_wp2_with fail;refine CN.out.mono ?_;rintro e w1 ⟨rfl,hb1⟩;have HB1:=K1 (HB.out.trans (hb1.mono HB.out.size));clear hb1 CN e1;have HB2:=K1 (HB1.out.alloc HB1.out.size (.cells #[U O 0,U O 0,U O 0,.bool false,.bool false,U O 0,U O 0,U O 0,U O 0,U O 0,U O 0,U O 0] 146));go_wp2_with fail;go_roundw
      case rel =>
       refine ⟨k+1,by omega,by go_num,K1 (fun u m' hu hm'=>?_),HB2⟩
       rcases Nat.lt_or_ge u k with h1 | h1
       . exact HQ.out u m' h1 hm'
       . rw [show u=k by omega,HF.out.1] at hm';injection hm' with hm'
         rw [<- hm'];exact HF.out.2
      case measure=>simp [intOf];omega
  . have hkn:k=k0:=by omega
    go_wp2_with fail;go_ret;refine ⟨true,rfl,⟨fun _ m hm=>?_,fun _=>rfl⟩,HB.out⟩;obtain ⟨u,hu⟩:=List.getElem?_of_mem hm;exact HQ.out u m (by have:=(List.getElem?_eq_some_iff.1 hu).1;have:=HL.out;omega) hu
def dl (k u s:Nat):Nat:=if s<=u then u-s else u+k-s
def exD (dat:List (List Int × List Int)) (js:List Nat):List (List Int × List Int):=js.map fun j=>(dat[j]?).getD ([],[])
end
end Go.Proofs.YtdpojpcoghcieaaGreat
