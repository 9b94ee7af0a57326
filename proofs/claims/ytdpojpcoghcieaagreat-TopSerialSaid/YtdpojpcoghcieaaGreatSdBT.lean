/- A part of the proof of TopSerial: Free, Finish, Small. Conditions: none. -/
import Derived.ScopeJumps
import Derived.Test.YtdpojpcoghcieaaGreatSdBS
import Derived.Test.YtdpojpcoghcieaaGreatSdBR
set_option maxHeartbeats 8000000
namespace Go.Proofs.YtdpojpcoghcieaaGreat
open Lib renaming hid → K1
open Go.RowKit
structure TagOk (r:Rn) (x:Wv):Prop where
 q:∀ (u:Nat) (l:Ln),x.ls[u]?=some l→l.q.map Prod.fst=(sndT ((allIts r.c r.p u).take (cntU x u))).drop (rcvN (allIts r.c r.p) (cntU x) ((u+1) % r.c.k))
 le:∀ u,u<r.c.k→rcvN (allIts r.c r.p) (cntU x) ((u+1) % r.c.k)≤sndN (allIts r.c r.p) (cntU x) u
theorem its_all {r:Rn} {x:Wv} (ho:x.Ok r) {u:Nat} {m:Mc} (hm:x.ms[u]?=some m) (ht:m.t<r.c.st) (i:Nat) (hi:i<lenU r u):(allIts r.c r.p u)[m.t*lenU r u+i]?=m.its[i]?:=by
 obtain ⟨_,k2,k3,_⟩:=ho.m u m hm
 unfold allIts
 rw [flat_get (L:=lenU r u) (fun t=>plIts_len ho.c _ _ _ _) hi _ ht]
 unfold Mc.its itsAt
 rw [if_pos (by rw [k3.c];exact ht),k3.c,k3.p,k2]
theorem cntU_at {x:Wv} {u:Nat} {m:Mc} (hm:x.ms[u]?=some m):cntU x u=m.cnt:=by unfold cntU;rw [hm];rfl
theorem its_next {r:Rn} {x:Wv} (ho:x.Ok r) (hc:CntOk r x) {u:Nat} {m:Mc} (hm:x.ms[u]?=some m):(allIts r.c r.p u)[cntU x u]?=m.its[m.next]?:=by
 obtain ⟨k1,k2,k3,_⟩:=ho.m u m hm
 rw [cntU_at hm,hc.one u m hm]
 rcases Nat.lt_or_ge m.t r.c.st with ht | ht
 · have hn:m.next<lenU r u:=by rw [← its_lenU ho.c k2 k3 ht];exact k1.next (by rw [k3.c];exact ht)
   exact its_all ho hm ht _ hn
 · obtain ⟨e1,e2⟩:=k1.none_ (by rw [k3.c];omega)
   rw [e1,List.getElem?_nil]
   refine List.getElem?_eq_none ?_
   unfold allIts
   rw [flat_sum,sumR_congr (g:=fun _=>lenU r u) (fun i _=>plIts_len ho.c _ _ _ _),sumR_const,e2,Nat.add_zero]
   exact Nat.mul_le_mul_right _ ht
theorem take_snoc {l:List It} {d:Nat} {x:It} (h:l[d]?=some x):l.take (d+1)=l.take d++[x]:=by rw [List.take_add_one,h];rfl
theorem next_tag {r:Rn} {d:Nat→Nat} {u v:Nat} (hu:u<r.c.k) (hv:v=(u+r.c.k-1) % r.c.k) {x:It} (hx:(allIts r.c r.p u)[d u]?=some x) (hk:x.kind=4) (hlt:rcvN (allIts r.c r.p) d u<sndN (allIts r.c r.p) d v) :
  (sndT ((allIts r.c r.p v).take (d v)))[rcvN (allIts r.c r.p) d u]?=some (tgOf x.a):=by
 subst hv
 have hv1:(u+r.c.k-1) % r.c.k<r.c.k:=Nat.mod_lt _ (by omega)
 have ht:=(Sync.all r.c r.p).tags _ hv1
 rw [(around hu).1] at ht
 have e1:rcvT (allIts r.c r.p u)=rcvT ((allIts r.c r.p u).take (d u))++([tgOf x.a]++rcvT ((allIts r.c r.p u).drop (d u+1))):=by
  rw [← rcvT_one hk,← rcvT_app,← rcvT_app]
  congr 1
  have:=List.take_append_drop (d u) (allIts r.c r.p u)
  rw [List.drop_eq_getElem?_toList_append,hx] at this
  exact this.symm
 have e2:sndT (allIts r.c r.p ((u+r.c.k-1) % r.c.k))=sndT ((allIts r.c r.p ((u+r.c.k-1) % r.c.k)).take (d ((u+r.c.k-1) % r.c.k)))++sndT ((allIts r.c r.p ((u+r.c.k-1) % r.c.k)).drop (d ((u+r.c.k-1) % r.c.k))):=by
  rw [← sndT_app,List.take_append_drop]
 have e3:(sndT (allIts r.c r.p ((u+r.c.k-1) % r.c.k)))[rcvN (allIts r.c r.p) d u]?=some (tgOf x.a):=by
  rw [ht,e1]
  unfold rcvN
  rw [List.getElem?_append_right (Nat.le_refl _),Nat.sub_self]
  rfl
 rw [e2,List.getElem?_append_left hlt] at e3
 exact e3
theorem free_not {r:Rn} {x:Wv} (ho:x.Ok r) (hc:CntOk r x) (ht:TagOk r x) {u:Nat} (hu:u<r.c.k) (hf:FreeAt r.c.k (allIts r.c r.p) (cntU x) u):¬ Stuck r x u:=by
 rintro ⟨m,hm,hs⟩
 obtain ⟨y,hy,h3,h4⟩:=hf
 rw [its_next ho hc hm] at hy
 have hca:1≤r.c.ca:=ho.c.ca.1
 rcases hs with h0 | ⟨it,hit,hs⟩
 · rw [h0] at hy;cases hy
 · rw [hit] at hy
   injection hy with hy
   subst hy
   rcases hs with ⟨e,l,hl,hfull⟩ | ⟨e,l,hl,hno⟩
   · have hq:=congrArg List.length (ht.q u l hl)
     rw [List.length_map,List.length_drop] at hq
     have h:=h3 e
     have hcap:=(ho.l u l hl).2.1
     unfold sndN at h
     omega
   · have h:=h4 e
     have hq:=ht.q _ l hl
     rw [(around hu).1] at hq
     have hn:=next_tag (d:=cntU x) hu rfl (by rw [its_next ho hc hm];exact hit) e h
     cases hlq:l.q with
     | nil =>
       rw [hlq] at hq
       have:=congrArg List.length hq
       rw [List.length_drop] at this
       unfold sndN at h
       simp at this
       omega
     | cons a q =>
       rw [hlq] at hq
       have:=congrArg (fun l=>l[0]?) hq
       simp only [List.map_cons,List.getElem?_cons_zero,List.getElem?_drop,Nat.add_zero] at this
       rw [hn] at this
       injection this with this
       obtain ⟨t,v⟩:=a
       dsimp only at this
       subst this
       exact hno v q hlq
theorem cntU_set {x x':Wv} {u:Nat} {m m':Mc} (hm:x.ms[u]?=some m) (hms:x'.ms=x.ms.set u m') (hc:m'.cnt=m.cnt+1):cntU x' u=cntU x u+1∧∀ v,v≠u→cntU x' v=cntU x v:=by
 have hlt:=(List.getElem?_eq_some_iff.1 hm).1
 constructor
 · unfold cntU
   rw [hms,List.getElem?_set_self hlt,hm]
   exact hc
 · intro v hv
   unfold cntU
   rw [hms,List.getElem?_set_ne (Ne.symm hv)]
theorem Moved.cnt1 {r:Rn} {x x':Wv} {u:Nat} (h:Moved r x u x'):∃ (m m':Mc) (it:It),x.ms[u]?=some m∧m.its[m.next]?=some it∧x'.ms=x.ms.set u m'∧m'.cnt=m.cnt+1:=by
 obtain ⟨m,m',it,h1,h2,h3,h4,h5,h6⟩:=h
 refine ⟨m,m',it,h1,h2,h4,?_⟩
 rcases h6 with ⟨_,_,_,ea⟩ | ⟨_,l,l',_,_,_,_,_,ea⟩ | ⟨_,l,l',v,q,_,_,_,_,_,ea⟩
 · exact (congrArg Am.cnt ea).trans ((stepA_cnt _ _).trans (congrArg (·+1) (ownA_cnt _ _ _)))
 · exact (congrArg Am.cnt ea).trans (stepA_cnt _ _)
 · exact (congrArg Am.cnt ea).trans (stepA_cnt _ _)
theorem Moved.tags {r:Rn} {x x':Wv} {u:Nat} (ho:x.Ok r) (hc:CntOk r x) (ht:TagOk r x) (hu:u<r.c.k) (h:Moved r x u x'):TagOk r x':=by
 have hcn:=h.cnt1
 obtain ⟨m,m',it,h1,h2,h3,h4,h5,h6⟩:=h
 obtain ⟨m0,m1,it0,g1,g2,g3,g4⟩:=hcn
 rw [h1] at g1
 injection g1 with g1
 subst g1
 rw [h4] at g3
 have hlt:=(List.getElem?_eq_some_iff.1 h1).1
 have g5:m'=m1:=by
  have:=congrArg (fun l=>l[u]?) g3
  simp only [List.getElem?_set_self hlt] at this
  injection this
 subst g5
 obtain ⟨cu,cv⟩:=cntU_set h1 h4 g4
 have hit:(allIts r.c r.p u)[cntU x u]?=some it:=by rw [its_next ho hc h1];exact h2
 have tk:(allIts r.c r.p u).take (cntU x' u)=(allIts r.c r.p u).take (cntU x u)++[it]:=by rw [cu];exact take_snoc hit
 have tv:∀ v,v≠u→(allIts r.c r.p v).take (cntU x' v)=(allIts r.c r.p v).take (cntU x v):=fun v hv=>by rw [cv v hv]
 have rN:∀ v,v≠u→rcvN (allIts r.c r.p) (cntU x') v=rcvN (allIts r.c r.p) (cntU x) v:=fun v hv=>by unfold rcvN;rw [tv v hv]
 have sN:∀ v,v≠u→sndT ((allIts r.c r.p v).take (cntU x' v))=sndT ((allIts r.c r.p v).take (cntU x v)):=fun v hv=>by rw [tv v hv]
 have inj:∀ v,v<r.c.k→(v+1) % r.c.k=u→v=(u+r.c.k-1) % r.c.k:=fun v hv e=>by rw [← e];exact ((around hv).2).symm
 rcases h6 with ⟨n3,n4,e1,_⟩ | ⟨k3,l,l',e1,e2,e3,_,e4,_⟩ | ⟨k4,l,l',v,q,e1,e2,e3,_,e4,_⟩
 · have sU:sndT ((allIts r.c r.p u).take (cntU x' u))=sndT ((allIts r.c r.p u).take (cntU x u)):=by rw [tk,sndT_app,sndT_no n3,List.append_nil]
   have rU:rcvN (allIts r.c r.p) (cntU x') u=rcvN (allIts r.c r.p) (cntU x) u:=by unfold rcvN;rw [tk,rcvT_app,rcvT_no n4,List.append_nil]
   have sA:∀ v,sndT ((allIts r.c r.p v).take (cntU x' v))=sndT ((allIts r.c r.p v).take (cntU x v)):=fun v=>by
    by_cases e:v=u
    · rw [e];exact sU
    · exact sN v e
   have rA:∀ v,rcvN (allIts r.c r.p) (cntU x') v=rcvN (allIts r.c r.p) (cntU x) v:=fun v=>by
    by_cases e:v=u
    · rw [e];exact rU
    · exact rN v e
   refine ⟨fun v l hl=>?_,fun v hv=>?_⟩
   · rw [e1] at hl
     rw [sA,rA]
     exact ht.q v l hl
   · unfold sndN
     rw [sA,rA]
     exact ht.le v hv
 · have n4:it.kind≠4:=by omega
   have sU:sndT ((allIts r.c r.p u).take (cntU x' u))=sndT ((allIts r.c r.p u).take (cntU x u))++[tgOf it.a]:=by rw [tk,sndT_app,sndT_one k3]
   have rU:rcvN (allIts r.c r.p) (cntU x') u=rcvN (allIts r.c r.p) (cntU x) u:=by unfold rcvN;rw [tk,rcvT_app,rcvT_no n4,List.append_nil]
   have rA:∀ v,rcvN (allIts r.c r.p) (cntU x') v=rcvN (allIts r.c r.p) (cntU x) v:=fun v=>by
    by_cases e:v=u
    · rw [e];exact rU
    · exact rN v e
   refine ⟨fun v n hn=>?_,fun v hv=>?_⟩
   · rw [e2] at hn
     rw [rA]
     by_cases e:u=v
     · subst e
       rw [List.getElem?_set_self (List.getElem?_eq_some_iff.1 e1).1] at hn
       injection hn with hn
       subst hn
       rw [e4,List.map_append,ht.q u l e1,sU,List.drop_append_of_le_length (ht.le u hu)]
       rfl
     · rw [List.getElem?_set_ne e] at hn
       rw [sN v (Ne.symm e)]
       exact ht.q v n hn
   · have:=ht.le v hv
     unfold sndN at *
     rw [rA]
     by_cases e:v=u
     · rw [e] at this ⊢;rw [sU,List.length_append];omega
     · rw [sN v e];exact this
 · have n3:it.kind≠3:=by omega
   have sU:sndT ((allIts r.c r.p u).take (cntU x' u))=sndT ((allIts r.c r.p u).take (cntU x u)):=by rw [tk,sndT_app,sndT_no n3,List.append_nil]
   have rU:rcvN (allIts r.c r.p) (cntU x') u=rcvN (allIts r.c r.p) (cntU x) u+1:=by unfold rcvN;rw [tk,rcvT_app,rcvT_one k4,List.length_append];rfl
   have sA:∀ v,sndT ((allIts r.c r.p v).take (cntU x' v))=sndT ((allIts r.c r.p v).take (cntU x v)):=fun v=>by
    by_cases e:v=u
    · rw [e];exact sU
    · exact sN v e
   have hp:(u+r.c.k-1) % r.c.k<r.c.k:=Nat.mod_lt _ (by omega)
   have hq:=ht.q _ l e1
   rw [(around hu).1,e2] at hq
   refine ⟨fun w n hn=>?_,fun w hw=>?_⟩
   · rw [e3] at hn
     rw [sA]
     by_cases e:(u+r.c.k-1) % r.c.k=w
     · subst e
       rw [List.getElem?_set_self (List.getElem?_eq_some_iff.1 e1).1] at hn
       injection hn with hn
       subst hn
       rw [(around hu).1,rU,e4,← List.drop_drop,List.drop_one,← hq]
       rfl
     · rw [List.getElem?_set_ne e] at hn
       have hw:w<r.c.k:=by rw [← ho.ll];exact (List.getElem?_eq_some_iff.1 hn).1
       rw [rN _ (fun e5=>e (inj w hw e5).symm)]
       exact ht.q w n hn
   · have:=ht.le w hw
     unfold sndN at *
     rw [sA]
     by_cases e:(w+1) % r.c.k=u
     · rw [e,rU]
       have hw2:=inj w hw e
       have:=congrArg List.length hq
       rw [List.length_drop,List.map_cons,List.length_cons] at this
       rw [hw2]
       omega
     · rw [rN _ e];exact this
theorem PickR.tags {r:Rn} {x x':Wv} {z:Int} {b:Bool} (ho:x.Ok r) (h:CntOk r x) (ht:TagOk r x) (hp:PickR r x z b x'):TagOk r x':=by
 rcases hp with ⟨_,rfl,_⟩ | ⟨_,_,u,_,hm⟩
 · exact ht
 · refine Moved.tags ho h ht ?_ hm
   obtain ⟨m,m',it,h1,_⟩:=hm
   have:=(List.getElem?_eq_some_iff.1 h1).1
   rwa [ho.lm] at this
theorem one_free {r:Rn} {x:Wv} (ho:x.Ok r) (hc:CntOk r x) (ht:TagOk r x) (hn:x.count≠totR r):∃ u,u<r.c.k∧¬ Stuck r x u:=by
 have hb:=cnt_bound ho hc
 have hne:¬ ∀ m∈x.ms,r.c.st≤m.t:=fun h=>hn (hb.2.2 h)
 obtain ⟨u,hu,hd⟩:∃ u,u<r.c.k∧cntU x u<(allIts r.c r.p u).length:=by
  refine Classical.byContradiction fun hno=>hne fun m hm=>?_
  obtain ⟨u,hu⟩:=List.getElem?_of_mem hm
  have huk:u<r.c.k:=by rw [← ho.lm];exact (List.getElem?_eq_some_iff.1 hu).1
  rcases Nat.lt_or_ge m.t r.c.st with h1 | h1
  · obtain ⟨k1,k2,k3,_⟩:=ho.m u m hu
    obtain ⟨it,hit,_⟩:=k1.at_ (by rw [k3.c];exact h1)
    have:=its_next ho hc hu
    rw [hit] at this
    exact absurd ⟨u,huk,(List.getElem?_eq_some_iff.1 this).1⟩ hno
  · exact h1
 obtain ⟨v,hv,hf⟩:=(Sync.all r.c r.p).free (cntU x) ⟨u,hu,hd⟩
 exact ⟨v,hv,free_not ho hc ht hv hf⟩
structure WorldOk (r:Rn) (x:Wv):Prop where
 ok:x.Ok r
 cnt:CntOk r x
 tags:TagOk r x
theorem WorldOk.pick {r:Rn} {x x':Wv} {z:Int} {b:Bool} (h:WorldOk r x) (hp:PickR r x z b x'):WorldOk r x':=⟨hp.ok h.ok,PickR.cnt h.ok h.cnt hp,PickR.tags h.ok h.cnt h.tags hp⟩
theorem WorldOk.run {r:Rn}:∀ (zs:List Int) {x x':Wv} {n:Nat},WorldOk r x→RunR r x zs n x'→WorldOk r x'
 | [],x,x',n,h,hr=>by
   obtain ⟨_,rfl⟩:=hr
   exact h
 | z::zs,x,x',n,h,⟨b,y,n',h1,h2,_⟩=>WorldOk.run zs (h.pick h1) h2
theorem run_one {r:Rn} {u:Nat}:∀ (zs:List Int) {x x':Wv} {n:Nat},u<r.c.k→¬ Stuck r x u→(u:Int)∈zs→RunR r x zs n x'→1≤n
 | [],_,_,_,_,_,h,_=>by cases h
 | z::zs,x,x',n,hu,hs,hz,⟨b,y,n',h1,h2,h3⟩=>by
   cases b with
   | true=>rw [h3];simp
   | false =>
     rcases h1 with ⟨_,rfl,hno⟩ | ⟨hb,_⟩
     · rcases List.mem_cons.1 hz with hz | hz
       · rcases hno with h | h | ⟨v,hv,hst⟩
         · omega
         · omega
         · rw [hv] at hz
           rw [show v=u by omega] at hst
           exact absurd hst hs
       · have:=run_one zs hu hs hz h2
         rw [h3];omega
     · cases hb
def turns (k n:Nat):List Int:=(List.range n).map fun i=>((i % k:Nat):Int)
theorem RunR.split {r:Rn}:∀ (ds bs:List Int) {x x':Wv} {n:Nat},RunR r x (ds++bs) n x'→∃ y n1 n2,RunR r x ds n1 y∧RunR r y bs n2 x'∧n=n1+n2
 | [],bs,x,x',n,h=>⟨x,0,n,⟨rfl,rfl⟩,h,by omega⟩
 | a::ds,bs,x,x',n,⟨b,y,n',h1,h2,h3⟩=>by
   obtain ⟨y2,n1,n2,h4,h5,h6⟩:=RunR.split ds bs h2
   exact ⟨y2,n1+b.toNat,n2,⟨b,y,n1,h1,h4,rfl⟩,h5,by omega⟩
theorem turns_succ (k c:Nat):turns k ((c+1)*k)=turns k (c*k)++turns k k:=by
 unfold turns
 rw [Nat.succ_mul,List.range_add,List.map_append,List.map_map]
 congr 1
 refine List.map_congr_left fun i hi=>?_
 have hi:=List.mem_range.1 hi
 show (((c*k+i) % k:Nat):Int)=_
 rw [Nat.mul_comm,Nat.mul_add_mod]
theorem turns_do {r:Rn}:∀ (c:Nat) {x x':Wv} {n:Nat},WorldOk r x→RunR r x (turns r.c.k (c*r.c.k)) n x'→min c (totR r)≤x'.count
 | 0,x,x',n,_,_=>by omega
 | c+1,x,x',n,h,hr=>by
   have hk:=h.ok.c.k.1
   rw [turns_succ] at hr
   obtain ⟨y,n1,n2,h1,h2,_⟩:=RunR.split _ _ hr
   have ih:=turns_do c h h1
   have hy:=WorldOk.run _ h h1
   have hc2:=(RunR.count _ h2).1
   have hb:=cnt_bound hy.ok hy.cnt
   by_cases e:y.count=totR r
   · omega
   · obtain ⟨u,hu,hs⟩:=one_free hy.ok hy.cnt hy.tags e
     have:=run_one _ hu hs (List.mem_map.2 ⟨u,List.mem_range.2 hu,by rw [Nat.mod_eq_of_lt hu]⟩) h2
     omega
def FinR (r:Rn) (x:Wv) (most n:Nat) (x':Wv):Prop:=n≤most∧x'.Ok r∧x'.g=x.g∧∃ c,RunR r x (turns r.c.k n) c x'
theorem FinR.next {r:Rn} {x x' y:Wv} {most n:Nat} {b:Bool} (h:FinR r x most n x') (hn:n<most) (hy:y.Ok r) (hg:y.g=x'.g) (hp:PickR r x' ((n % r.c.k:Nat):Int) b y):FinR r x most (n+1) y:=by
 obtain ⟨h1,h2,h3,c,h4⟩:=h
 refine ⟨hn,hy,hg.trans h3,c+b.toNat,?_⟩
 have e:turns r.c.k (n+1)=turns r.c.k n++[((n % r.c.k:Nat):Int)]:=by
  unfold turns
  rw [List.range_succ,List.map_append]
  rfl
 rw [e]
 exact RunR.snoc hp _ h4
theorem wp_scope_jumps_once {P:Program} {a:Act} {w:World} {Q:Exit→Act→World→Prop} {rest:Code} (l:Nat) (J:Act→World→Prop) (μ:Act→World→Nat) (h0:J a w)
  (pass:∀ a w,J a w→rest.wp P (Exit.jump l (fun a' w'=>J a' w'∧μ a' w'<μ a w) Q) a w):(Code.scope ((Code.label l).seq rest)).wp P Q a w:=by
 refine wp_scope_jumps l J μ (rest:=Code.skip.seq rest) (by simp [findLabel]) ?_ fun a w h=>wp_seq (wp_skip (pass a w h))
 refine wp_seq (wp_label ?_)
 refine Code.wp_mono ?_ (pass a w h0)
 rintro e a' w' h
 cases e with
 | goto l'=>exact ⟨h.1,h.2.1⟩
 | _=>exact h
def FinJ (r:Rn) (x:Wv) (R:List Ch) (most:Nat) (a':Act) (w':World):Prop:=∃ (n:Nat) (y:Wv) (u2 u3 u5 u6 u7 u8 u9 u10 u11 u12 u13 u14 u15 u16 u17 u18 u19 u20 u21 u22 u23 u24 u25 u26:Value),a'={ tmps:=#[.pointer (some ⟨x.g,0,none⟩),.int .i64 most,u2,u3,.int .i64 n,u5,u6,u7,u8,u9,u10,u11,u12,u13,u14,u15,u16,u17,u18,u19,u20,u21,u22,u23,u24,u25,u26],defers:=[] }∧FinR r x most n y∧Mem w' (y.ps++R)
set_option maxRecDepth 100000 in
theorem finish_any (w:World) (x:Wv) (r:Rn) (R:List Ch) (h:Mem w (x.ps++R)) (ho:x.Ok r) (most:Nat) (hb:x.count+most≤1000000) :
  Calls Tryz.prog 11 #[.pointer (some ⟨x.g,0,none⟩),.int .i64 most] w fun e w'=>∃ (n:Nat) (b:Bool) (x':Wv),e=.returned (.tuple #[.int .i64 n,.bool b])∧FinR r x most n x'∧(b=true↔∀ m∈x'.ms,r.c.st≤m.t)∧(b=true∨n=most)∧Mem w' (x'.ps++R):=by
 have hk:=ho.c.k
 have HM:=K1 h
 have HF0:=K1 (show FinR r x most 0 x from ⟨Nat.zero_le _,ho,rfl,0,⟨rfl,rfl⟩⟩)
 have CP:=K1 (fun W (y:Wv) hM hy hc z=>pick_any W y r R hM hy hc z)
 have CD:=K1 (fun W (y:Wv) hM hy=>done_any W y r R hM hy)
 have HC:=K1 (show ∀ (n:Nat) (y:Wv),FinR r x most n y→y.count≤1000000 from fun n y hf=>by
  obtain ⟨h1,_,_,c,h4⟩:=hf
  have:=RunR.count _ h4
  have h5:(turns r.c.k n).length=n:=by simp [turns]
  omega)
 have HCL:=K1 (show ∀ y:Wv,y.Ok r→∀ W,Mem W (y.ps++R)→W.cell? ⟨y.g,0,none⟩=some (.slice y.Aw r.c.k y.cw) from fun y hy W hM=>by rw [← hy.lm];exact blk_cells (hM.obj 0 rfl) 0)
 clear h ho
 go_enter Tryz.func11,Tryz.ntmps11
 go_wp2_with fail
 refine wp_scope_jumps_once 0 (fun a' w'=>FinJ r x R most a' w') (fun a' _=>most-(intOf (a'.tmps.getD 4 undef)).toNat) ?_ ?_
 · exact ⟨0,x,_,_,_,_,_,_,_,_,_,_,_,_,_,_,_,_,_,_,_,_,_,_,_,_,rfl,HF0.out,HM.out⟩
 · clear HM HF0
   rintro a' w' ⟨n,y,u2,u3,u5,u6,u7,u8,u9,u10,u11,u12,u13,u14,u15,u16,u17,u18,u19,u20,u21,u22,u23,u24,u25,u26,rfl,hf,hm⟩
   have HF:=K1 hf
   have HM:=K1 hm
   have hyg:=hf.2.2.1
   have hyo:=hf.2.1
   have hnm:=hf.1
   have CDk:=K1 (CD.out w' y hm hyo)
   rw [hyg] at CDk
   clear hf hm
   dsimp only
   go_wp2_with fail
   refine CDk.out.mono ?_
   rintro e w1 ⟨b,rfl,hbd,hb1⟩
   replace HM:=K1 (HM.out.below hb1)
   have HBD:=K1 hbd
   have CD2:=K1 (CD.out w1 y HM.out hyo)
   rw [hyg] at CD2
   clear hb1 hbd CDk
   cases b
   · by_cases hlt:n<most
     · have cc:=HCL.out y hyo w1 HM.out
       rw [hyg] at cc
       obtain ⟨q,hq⟩:∃ q,q=n % r.c.k:=⟨_,rfl⟩
       have e3:(n:Int).tmod (r.c.k:Int)=(q:Int):=by rw [hq];exact (Int.ofNat_tmod _ _).symm
       have w3:IntKind.i64.wrap (q:Int)=(q:Int):=IntWalk.i64_in _ (by have:=Nat.mod_le n r.c.k;omega)
       have hz:¬ r.c.k=0:=by omega
       have hzi:((r.c.k:Int) == 0)=false:=beq_eq_false_iff_ne.2 (by omega)
       have CPk:=K1 (CP.out w1 y HM.out hyo (HC.out n y HF.out) (q:Int))
       rw [hyg] at CPk
       obtain ⟨n1,hn1⟩:∃ n1,n1=n+1:=⟨_,rfl⟩
       have hn1i:(n:Int)+1=(n1:Int):=by omega
       have wn1:IntKind.i64.wrap (n1:Int)=(n1:Int):=IntWalk.i64_in _ (by omega)
       have hge:¬ most≤n:=by omega
       have HN:=K1 (And.intro hq hn1)
       have HY:=K1 (And.intro hyg hyo)
       clear hq hn1 CD2 hyg hyo
       go_wp2_with fail
       refine CPk.out.mono ?_
       rintro e w2 ⟨b2,y2,rfl,hy2,hg2,hp2,hm2⟩
       rw [HN.out.1] at hp2
       have HF2:=K1 (HF.out.next hlt hy2 (hg2.trans HY.out.1.symm) hp2)
       rw [← HN.out.2] at HF2
       have HM2:=K1 hm2
       clear hy2 hg2 hp2 hm2 CPk cc
       go_wp2_with fail
       go_step3
       refine ⟨rfl,⟨n1,y2,_,_,_,_,_,_,_,_,_,_,_,_,_,_,_,_,_,_,_,_,_,_,_,_,rfl,HF2.out,HM2.out⟩,?_⟩
       have:=HN.out.2
       simp [intOf]
       omega
     · have HE:=K1 (show n=most by omega)
       have hge:most≤n:=by omega
       go_wp2_with fail
       refine CD2.out.mono ?_
       rintro e w2 ⟨b2,rfl,hbd2,hb2⟩
       have HF2:=K1 (And.intro hbd2 (HM.out.below hb2))
       clear hbd2 hb2 CD2
       go_wp2_with fail
       simp only [Exit.jump]
       go_ret2
       exact ⟨n,b2,y,rfl,HF.out,HF2.out.1,.inr HE.out,HF2.out.2⟩
   · go_wp2_with fail
     refine CD2.out.mono ?_
     rintro e w2 ⟨b2,rfl,hbd2,hb2⟩
     have hb3:b2=true:=hbd2.2 (HBD.out.1 trivial)
     have HF2:=K1 (And.intro hbd2 (And.intro hb3 (HM.out.below hb2)))
     clear hbd2 hb2 CD2 hb3
     go_wp2_with fail
     simp only [Exit.jump]
     go_ret2
     exact ⟨n,b2,y,rfl,HF.out,HF2.out.1,.inl HF2.out.2.1,HF2.out.2.2⟩
def smallR:Rn:=⟨⟨1,1,1,2,2,1,1,2,1,1,1⟩,2,[1,1],2,[1,0],[([2],[6]),([4],[2])]⟩
def smallE (x0 y0 x1 y1:Option Addr):List Ex:=[⟨x0,[2],1,y0,[6],1⟩,⟨x1,[4],1,y1,[2],1⟩]
def smallI (A D S R x0 y0 x1 y1:Option Addr):Inp:=⟨smallR,A,2,D,2,smallE x0 y0 x1 y1,S,2,[4,2],R,2⟩
theorem smallI_ok (A D S R x0 y0 x1 y1:Option Addr):(smallI A D S R x0 y0 x1 y1).Ok where
 c:=show smallR.c.Ok from ⟨by decide,by decide,by decide,by decide,by decide,by decide,by decide,by decide,by decide⟩
 p:=show 1≤smallR.p∧smallR.p≤60 by decide
 ns:=show NsOk smallR.ns from ⟨by decide,by decide,by decide⟩
 pn:=show smallR.p=offN smallR.ns (smallR.ns.length-1) by decide
 n:=show smallR.n≤1000∧smallR.c.ba≤smallR.n by decide
 l:=⟨rfl,rfl⟩
 ex:=⟨1,1,rfl,rfl,fun e he=>by
  simp only [smallI,smallE,List.mem_cons,List.not_mem_nil,or_false] at he
  rcases he with rfl | rfl
  · exact ⟨rfl,rfl,fun z hz=>by simp at hz;omega,fun z hz=>by simp at hz;omega⟩
  · exact ⟨rfl,rfl,fun z hz=>by simp at hz;omega,fun z hz=>by simp at hz;omega⟩⟩
 st:=⟨rfl,fun z hz=>by simp [smallI] at hz;omega⟩
 ds:=show pcnt smallR.c.st (smallR.n / smallR.c.ba)*(smallR.n-1)≤smallR.ds.length∧smallR.ds.length≤1000000000 by decide
 cap:=show smallR.ns.length≤2 by decide
 ru:=show (⟨smallR.c.ra,smallR.c.mo,smallR.c.sh⟩:Ru).Ok from ⟨by decide,by decide,by decide⟩
 conf:=show confCode (castL smallR.ns) smallR.c.cf=0 by decide
 shape:=show shCode (castL smallR.ns)=0 by decide
 input:=by kernel_rfl
theorem small_ser:(serS smallR [4,2] 1).1=[-4,-2]:=by kernel_rfl
set_option maxRecDepth 100000 in
theorem small_any (w:World):Calls Tryz.prog 25 #[] w fun e w'=>∃ A D S R x0 y0 x1 y1:Option Addr,e=.returned (.agg (smallI A D S R x0 y0 x1 y1).cells.toArray)∧(smallI A D S R x0 y0 x1 y1).At w'∧Below w.heap.size w w':=by
 go_enter Tryz.func25,Tryz.ntmps25
 go_wp2_with fail
 have hm:=(((((((((Mem.start w).alloc (.cells #[.slice (some ⟨w.heap.size+1,0,none⟩) 2 2,.int .i64 1,.int .i64 1,.int .i64 1,.int .i64 2,.int .i64 2,.int .i64 1,.int .i64 1,.int .i64 2,.int .i64 1,.int .i64 1,.int .i64 1,.slice (some ⟨w.heap.size+1+1+1+1+1+1+1,0,none⟩) 2 2,.slice (some ⟨w.heap.size+1+1+1+1+1+1+1+1,0,none⟩) 2 2,.slice (some ⟨w.heap.size+1+1+1+1+1+1+1+1+1,0,none⟩) 2 2] 29)).alloc (.cells #[.int .i64 1,.int .i64 1] 3)).alloc (.cells #[.slice (some ⟨w.heap.size+1,0,none⟩) 2 2,.int .i64 1,.int .i64 1,.int .i64 1,.int .i64 2,.int .i64 2,.int .i64 1,.int .i64 1,.int .i64 2,.int .i64 1,.int .i64 1,.int .i64 1] 24)).alloc (.cells #[.int .i64 2] 2)).alloc (.cells #[.int .i64 6] 2)).alloc (.cells #[.int .i64 4] 2)).alloc (.cells #[.int .i64 2] 2)).alloc (.cells #[.slice (some ⟨w.heap.size+1+1+1,0,none⟩) 1 1,.slice (some ⟨w.heap.size+1+1+1+1,0,none⟩) 1 1,.slice (some ⟨w.heap.size+1+1+1+1+1,0,none⟩) 1 1,.slice (some ⟨w.heap.size+1+1+1+1+1+1,0,none⟩) 1 1] 140)).alloc (.cells #[.int .i64 4,.int .i64 2] 2) |>.alloc (.cells #[.int .u64 1,.int .u64 0] 141)
 simp only [World.size_alloc] at hm
 have HM:=K1 hm
 clear hm
 have c1:=HM.out.cells 1 rfl
 have hrx:∀ e∈smallE (some ⟨w.heap.size+1+1+1,0,none⟩) (some ⟨w.heap.size+1+1+1+1,0,none⟩) (some ⟨w.heap.size+1+1+1+1+1,0,none⟩) (some ⟨w.heap.size+1+1+1+1+1+1,0,none⟩),RdX _ _ e:=fun e he=>by
  simp only [smallE,List.mem_cons,List.not_mem_nil,or_false] at he
  rcases he with rfl | rfl
  · exact ⟨HM.out.box 4 rfl,HM.out.box 5 rfl,Nat.le_refl _,Nat.le_refl _,show (1:Nat)≤9223372036854775807 by decide,show (1:Nat)≤9223372036854775807 by decide⟩
  · exact ⟨HM.out.box 6 rfl,HM.out.box 7 rfl,Nat.le_refl _,Nat.le_refl _,show (1:Nat)≤9223372036854775807 by decide,show (1:Nat)≤9223372036854775807 by decide⟩
 have hat:(smallI (some ⟨w.heap.size+1,0,none⟩) (some ⟨w.heap.size+1+1+1+1+1+1+1,0,none⟩) (some ⟨w.heap.size+1+1+1+1+1+1+1+1,0,none⟩) (some ⟨w.heap.size+1+1+1+1+1+1+1+1+1,0,none⟩) (some ⟨w.heap.size+1+1+1,0,none⟩) (some ⟨w.heap.size+1+1+1+1,0,none⟩) (some ⟨w.heap.size+1+1+1+1+1,0,none⟩) (some ⟨w.heap.size+1+1+1+1+1+1,0,none⟩)).At _:=⟨HM.out.box 2 rfl,⟨HM.out.box 8 rfl,hrx⟩,fun a ha=>by
  simp only [smallI,smallE,exFam,List.flatMap_cons,List.flatMap_nil,List.append_nil,List.cons_append,List.nil_append,List.mem_cons,List.not_mem_nil,or_false] at ha
  rcases ha with rfl | rfl | rfl | rfl
  · exact HM.out.box 4 rfl
  · exact HM.out.box 5 rfl
  · exact HM.out.box 6 rfl
  · exact HM.out.box 7 rfl,HM.out.box 9 rfl,HM.out.box 10 rfl⟩
 refine bodyPost_ret (v:=.agg (smallI (some ⟨w.heap.size+1,0,none⟩) (some ⟨w.heap.size+1+1+1+1+1+1+1,0,none⟩) (some ⟨w.heap.size+1+1+1+1+1+1+1+1,0,none⟩) (some ⟨w.heap.size+1+1+1+1+1+1+1+1+1,0,none⟩) (some ⟨w.heap.size+1+1+1,0,none⟩) (some ⟨w.heap.size+1+1+1+1,0,none⟩) (some ⟨w.heap.size+1+1+1+1+1,0,none⟩) (some ⟨w.heap.size+1+1+1+1+1+1,0,none⟩)).cells.toArray) ?_ rfl ⟨(some ⟨w.heap.size+1,0,none⟩),(some ⟨w.heap.size+1+1+1+1+1+1+1,0,none⟩),(some ⟨w.heap.size+1+1+1+1+1+1+1+1,0,none⟩),(some ⟨w.heap.size+1+1+1+1+1+1+1+1+1,0,none⟩),(some ⟨w.heap.size+1+1+1,0,none⟩),(some ⟨w.heap.size+1+1+1+1,0,none⟩),(some ⟨w.heap.size+1+1+1+1+1,0,none⟩),(some ⟨w.heap.size+1+1+1+1+1+1,0,none⟩),rfl,hat,HM.out.bel 0 rfl⟩
 simp [results,Tryz.results25,go_sem,c1,Inp.cells,smallI,smallR]
end Go.Proofs.YtdpojpcoghcieaaGreat
