/- A part of the proof of TopSerial: Wdo, Pick, Run. Conditions: none. -/
import Derived.Test.YtdpojpcoghcieaaGreatSdBL
set_option maxHeartbeats 8000000
namespace Go.Proofs.YtdpojpcoghcieaaGreat
open Lib renaming hid → K1
open Go.RowKit
structure Rn where
 c:Kf
 p:Nat
 ns:List Nat
 n:Nat
 ds:List Nat
 dat:List (List Int × List Int)
structure Mf.Of (f:Mf) (r:Rn):Prop where
 c:f.c=r.c
 p:f.p=r.p
 ns:f.ns=r.ns
 n:f.n=r.n
 ds:f.ds=r.ds
 dat:f.xs.map Ex.nums=r.dat
def RngIn (r:Rn) (u:Nat) (l:Ln):Prop:=∀ t v,(t,v)∈l.q→∃ a b,rngOf (plBs r.c r.p) r.c.k r.c.s u t=some (a,b)∧v.length=b-a
structure Wv.Ok (x:Wv) (r:Rn):Prop where
 c:r.c.Ok
 lm:x.ms.length=r.c.k
 ll:x.ls.length=r.c.k
 m:∀ (u:Nat) (m:Mc),x.ms[u]?=some m→m.Ok∧m.f.u=u∧m.f.Of r∧m.cnt≤x.count
 l:∀ (u:Nat) (l:Ln),x.ls[u]?=some l→l.Ok∧l.cap=r.c.ca∧l.se≤x.count∧RngIn r u l
def Moved (r:Rn) (x:Wv) (u:Nat) (x':Wv):Prop:=∃ (m m':Mc) (it:It),x.ms[u]?=some m∧m.its[m.next]?=some it∧m'.f=m.f∧x'.ms=x.ms.set u m'∧x'.count=x.count+1 ∧
 ((it.kind≠3∧it.kind≠4∧x'.ls=x.ls∧m'.abs=stepA m.f (ownA m.f m.abs it)) ∨
  (it.kind=3∧∃ l l':Ln,x.ls[u]?=some l∧x'.ls=x.ls.set u l'∧l.q.length<l.cap∧l'.cap=l.cap∧l'.q=l.q++[(tgOf it.a,subL m.G it.a.lo it.a.hi)]∧m'.abs=stepA m.f m.abs) ∨
  (it.kind=4∧∃ (l l':Ln) (v:List Int) (q:List (Tg × List Int)),x.ls[(u+r.c.k-1) % r.c.k]?=some l∧l.q=(tgOf it.a,v)::q∧x'.ls=x.ls.set ((u+r.c.k-1) % r.c.k) l'∧l'.cap=l.cap∧l'.q=q∧m'.abs=stepA m.f (recvA m.abs it v)))
def Stuck (r:Rn) (x:Wv) (u:Nat):Prop:=∃ m:Mc,x.ms[u]?=some m∧(m.its[m.next]?=none∨∃ it:It,m.its[m.next]?=some it ∧
 ((it.kind=3∧∃ l:Ln,x.ls[u]?=some l∧l.q.length=l.cap)∨(it.kind=4∧∃ l:Ln,x.ls[(u+r.c.k-1) % r.c.k]?=some l∧∀ v q,l.q≠(tgOf it.a,v)::q)))
theorem stepA_cnt (f:Mf) (a:Am):(stepA f a).cnt=a.cnt+1:=by unfold stepA;split <;> rfl
theorem ownA_cnt (f:Mf) (a:Am) (x:It):(ownA f a x).cnt=a.cnt:=by
 unfold ownA
 split
 · rfl
 · split
   · rfl
   · split <;> rfl
set_option maxRecDepth 100000 in
theorem mdo_none (w:World) (m:Mc) (R:List Ch) (h:Mem w (m.ps++R)) (hx:m.its=[]) (hn:m.next=0) (a1 a2:Option Addr) :
  Calls Tryz.prog 195 #[.pointer (some ⟨m.f.g,0,none⟩),.pointer a1,.pointer a2] w fun e w'=>e=.returned (.int .i64 13)∧Mem w' (m.ps++R):=by
 have CN:=K1 (mnext_none w m R h hx hn)
 have HM:=K1 h
 dsimp only [itZero] at CN
 clear h hx hn
 go_enter Tryz.func195,Tryz.ntmps195
 go_wp2_with fail
 refine CN.out.mono ?_
 rintro e w1 ⟨rfl,hb⟩
 have HF:=K1 (((HM.out.below hb).alloc (.cells #[.int .i64 0,.int .i64 0,.int .i64 0,.bool false,.bool false,.int .i64 0,.int .i64 0,.int .i64 0,.int .i64 0,.int .i64 0,.int .i64 0,.int .i64 0] 146)).fA)
 clear hb HM CN
 go_wp2_with fail
 go_ret
 exact ⟨rfl,HF.out.mid⟩
theorem Wv.Ok.turn {x x':Wv} {r:Rn} (h:x.Ok r) {u:Nat} {m m':Mc} (hm:x.ms[u]?=some m) (hf:m'.f=m.f) (ho:m'.Ok) (hc:m'.cnt=m.cnt+1) (hms:x'.ms=x.ms.set u m') (hcn:x'.count=x.count+1) (hll:x'.ls.length=x.ls.length)
  (hls:∀ (v:Nat) (l:Ln),x'.ls[v]?=some l→l.Ok∧l.cap=r.c.ca∧l.se≤x.count+1∧RngIn r v l):x'.Ok r:=by
 obtain ⟨h1,h2,h3,h4⟩:=h.m u m hm
 refine ⟨h.c,by rw [hms,List.length_set];exact h.lm,hll.trans h.ll,fun v n hv=>?_,fun v l hv=>by rw [hcn];exact hls v l hv⟩
 rw [hms] at hv
 by_cases hvu:u=v
 · subst hvu
   rw [List.getElem?_set_self (List.getElem?_eq_some_iff.1 hm).1] at hv
   injection hv with hv
   subst hv
   rw [hf]
   exact ⟨ho,h2,h3,by omega⟩
 · rw [List.getElem?_set_ne hvu] at hv
   obtain ⟨k1,k2,k3,k4⟩:=h.m v n hv
   exact ⟨k1,k2,k3,by omega⟩
theorem Wv.Ok.links {x:Wv} {r:Rn} (h:x.Ok r) (v:Nat) (l:Ln) (hv:x.ls[v]?=some l):l.Ok∧l.cap=r.c.ca∧l.se≤x.count+1∧RngIn r v l:=by
 obtain ⟨h1,h2,h3,h4⟩:=h.l v l hv
 exact ⟨h1,h2,by omega,h4⟩
theorem wdo_any (w:World) (x:Wv) (r:Rn) (R:List Ch) (h:Mem w (x.ps++R)) (ho:x.Ok r) (hb:x.count≤1000000) (u:Nat) (m:Mc) (li lo:Ln) (h1:x.ms[u]?=some m) (h2:x.ls[(u+r.c.k-1) % r.c.k]?=some li) (h3:x.ls[u]?=some lo) :
  Calls Tryz.prog 195 #[.pointer (some ⟨m.f.g,0,none⟩),.pointer (some ⟨li.g,0,none⟩),.pointer (some ⟨lo.g,0,none⟩)] w fun e w' =>
   (∃ code:Int,(code != 0)=true∧e=.returned (.int .i64 code)∧Stuck r x u∧Mem w' (x.ps++R))∨(e=.returned (.int .i64 0)∧∃ x':Wv,Moved r x u { x' with count:=x.count+1 }∧({ x' with count:=x.count+1 }:Wv).Ok r∧x'.count=x.count∧x'.g=x.g∧Mem w' (x'.ps++R)):=by
 obtain ⟨hm1,hmu,hmr,hmc⟩:=ho.m u m h1
 by_cases ht:m.t<m.f.c.st
 · obtain ⟨it,hit,_⟩:=hm1.at_ ht
   have hin:it∈plIts m.f.c m.f.p m.t m.f.u:=by
    have:=List.mem_of_getElem? hit
    unfold Mc.its itsAt at this
    rwa [if_pos ht] at this
   have hrng:=plIts_rng _ _ _ _ it hin
   rw [hmr.c,hmr.p,hmu] at hrng
   by_cases k3:it.kind=3
   · obtain ⟨q1,q2,q3,q4⟩:=ho.l u lo h3
     refine (mdo_send w m lo _ (h.perm (x.perm2 R h1 h3)) hm1 q1 (by omega) (by omega) ht it hit k3 _).mono ?_
     rintro e w' (⟨hf,rfl,hM⟩ | ⟨hlt,rfl,m',l',ho',hf',ha',hlo',hg',hcp',hse',hq',hM⟩)
     · exact .inl ⟨11,rfl,rfl,⟨m,h1,.inr ⟨it,hit,.inl ⟨k3,lo,h3,hf⟩⟩⟩,hM.perm (x.perm2 R h1 h3).symm⟩
     · refine .inr ⟨rfl,{ x with ms:=x.ms.set u m',ls:=x.ls.set u l' },⟨m,m',it,h1,hit,hf',rfl,rfl,.inr (.inl ⟨k3,lo,l',h3,rfl,hlt,hcp',hq',ha'⟩)⟩,?_,rfl,rfl,Mem.back2 h1 h3 hf' hg' hM⟩
       have hcnt:m'.cnt=m.cnt+1:=(congrArg Am.cnt ha').trans (stepA_cnt _ _)
       refine ho.turn h1 hf' ho' hcnt rfl rfl (List.length_set ..) (fun v l hv=>?_)
       dsimp only at hv
       by_cases hvu:u=v
       · subst hvu
         rw [List.getElem?_set_self (List.getElem?_eq_some_iff.1 h3).1] at hv
         injection hv with hv
         subst hv
         refine ⟨hlo',hcp'.trans q2,by omega,fun t v htv=>?_⟩
         rw [hq'] at htv
         rcases List.mem_append.1 htv with htv | htv
         · exact q4 t v htv
         · have htv:=List.mem_singleton.1 htv
           injection htv with e1 e2
           subst e1;subst e2
           have hr3:=hrng.1 k3
           refine ⟨_,_,hr3,?_⟩
           obtain ⟨_,hkd⟩:=plIts_ok hm1.f.c hm1.f.p.2 it hin
           have hac:it.a.lo<it.a.hi∧it.a.hi≤m.f.p:=by
            rcases hkd with ⟨e,_⟩ | ⟨e,_⟩ | ⟨_,a⟩ | ⟨e,_⟩ | ⟨e,_⟩ | e
            · omega
            · omega
            · exact ⟨a.lt,a.hi⟩
            · omega
            · omega
            · omega
           exact subL_len (Nat.le_of_lt hac.1) (by rw [hm1.G.1];exact hac.2)
       · rw [List.getElem?_set_ne hvu] at hv
         exact ho.links v l hv
   · by_cases k4:it.kind=4
     · obtain ⟨q1,q2,q3,q4⟩:=ho.l _ li h2
       have hr4:=hrng.2 k4
       refine (mdo_recv w m li _ (h.perm (x.perm2 R h1 h2)) hm1 q1 (by omega) (by omega) ht it hit k4 _ (fun v q hq=>?_)).mono ?_
       · obtain ⟨a,b,hab,hl⟩:=q4 (tgOf it.a) v (by rw [hq];exact List.mem_cons_self ..)
         rw [hr4] at hab
         injection hab with hab
         injection hab with e1 e2
         rw [hl,e1,e2]
       · rintro e w' (⟨hq,rfl,hM⟩ | ⟨t,v,q,hq,hne,rfl,hM⟩ | ⟨v,q,hq,rfl,m',l',ho',hf',ha',hlo',hg',hcp',hse',hq',hM⟩)
         · exact .inl ⟨12,rfl,rfl,⟨m,h1,.inr ⟨it,hit,.inr ⟨k4,li,h2,fun v q h=>by rw [hq] at h;cases h⟩⟩⟩,hM.perm (x.perm2 R h1 h2).symm⟩
         · exact .inl ⟨10,rfl,rfl,⟨m,h1,.inr ⟨it,hit,.inr ⟨k4,li,h2,fun v q h=>by
            rw [hq] at h
            injection h with h _
            injection h with h _
            exact hne h⟩⟩⟩,hM.perm (x.perm2 R h1 h2).symm⟩
         · refine .inr ⟨rfl,{ x with ms:=x.ms.set u m',ls:=x.ls.set ((u+r.c.k-1) % r.c.k) l' },⟨m,m',it,h1,hit,hf',rfl,rfl,.inr (.inr ⟨k4,li,l',v,q,h2,hq,rfl,hcp',hq',ha'⟩)⟩,?_,rfl,rfl,Mem.back2 h1 h2 hf' hg' hM⟩
           have hcnt:m'.cnt=m.cnt+1:=(congrArg Am.cnt ha').trans (stepA_cnt _ _)
           refine ho.turn h1 hf' ho' hcnt rfl rfl (List.length_set ..) (fun v' l hv=>?_)
           dsimp only at hv
           by_cases hvu:(u+r.c.k-1) % r.c.k=v'
           · subst hvu
             rw [List.getElem?_set_self (List.getElem?_eq_some_iff.1 h2).1] at hv
             injection hv with hv
             subst hv
             refine ⟨hlo',hcp'.trans q2,by omega,fun t v2 htv=>q4 t v2 ?_⟩
             rw [hq'] at htv
             rw [hq]
             exact List.mem_cons_of_mem _ htv
           · rw [List.getElem?_set_ne hvu] at hv
             exact ho.links v' l hv
     · refine (mdo_own w m _ (h.perm (x.perm1 R h1)) hm1 (by omega) ht it hit ⟨k3,k4⟩ _ _).mono ?_
       rintro e w' ⟨rfl,m',ho',hf',ha',hM⟩
       refine .inr ⟨rfl,{ x with ms:=x.ms.set u m' },⟨m,m',it,h1,hit,hf',rfl,rfl,.inl ⟨k3,k4,rfl,ha'⟩⟩,?_,rfl,rfl,Mem.back1 h1 hf' hM⟩
       have hcnt:m'.cnt=m.cnt+1:=(congrArg Am.cnt ha').trans ((stepA_cnt _ _).trans (congrArg (·+1) (ownA_cnt _ _ _)))
       exact ho.turn h1 hf' ho' hcnt rfl rfl rfl (fun v l hv=>ho.links v l hv)
 · obtain ⟨e1,e2⟩:=hm1.none_ ht
   refine (mdo_none w m _ (h.perm (x.perm1 R h1)) e1 e2 _ _).mono ?_
   rintro e w' ⟨rfl,hM⟩
   exact .inl ⟨13,rfl,rfl,⟨m,h1,.inl (by rw [e1];rfl)⟩,hM.perm (x.perm1 R h1).symm⟩
def PickR (r:Rn) (x:Wv) (z:Int) (b:Bool) (x':Wv):Prop :=
 (b=false∧x'=x∧(z<0∨(r.c.k:Int)≤z∨∃ u:Nat,z=u∧Stuck r x u))∨(b=true∧x'.Ok r∧∃ u:Nat,z=u∧Moved r x u x')
set_option maxRecDepth 100000 in
theorem pick_any (w:World) (x:Wv) (r:Rn) (R:List Ch) (h:Mem w (x.ps++R)) (ho:x.Ok r) (hb:x.count≤1000000) (z:Int) :
  Calls Tryz.prog 18 #[.pointer (some ⟨x.g,0,none⟩),.int .i64 z] w fun e w'=>∃ (b:Bool) (x':Wv),e=.returned (.bool b)∧x'.Ok r∧x'.g=x.g∧PickR r x z b x'∧Mem w' (x'.ps++R):=by
 have hk:=ho.c.k
 by_cases hz:z<0∨(r.c.k:Int)≤z
 · have CA:=K1 (at_none w x _ (by have:=h;unfold Wv.ps at this;rw [List.append_assoc] at this;exact this) r.c.k ho.lm z hz)
   have H:=K1 (And.intro h (And.intro ho hz))
   clear h ho hz
   go_enter Tryz.func18,Tryz.ntmps18
   go_wp2_with fail
   refine CA.out.mono ?_
   rintro e w1 ⟨rfl,rfl⟩
   clear CA
   go_wp2_with fail
   go_ret
   refine ⟨false,x,rfl,H.out.2.1,rfl,.inl ⟨rfl,rfl,?_⟩,H.out.1⟩
   rcases H.out.2.2 with h | h
   · exact .inl h
   · exact .inr (.inl h)
 · obtain ⟨u,rfl⟩:∃ u:Nat,z=(u:Int):=⟨z.toNat,by omega⟩
   have hu:u<r.c.k:=by omega
   obtain ⟨m,h1⟩:=get_some x.ms u (by rw [ho.lm];exact hu)
   obtain ⟨li,h2⟩:=get_some x.ls ((u+r.c.k-1) % r.c.k) (by rw [ho.ll];exact Nat.mod_lt _ (by omega))
   obtain ⟨lo,h3⟩:=get_some x.ls u (by rw [ho.ll];exact hu)
   have CA:=K1 (at_any w x _ (by have:=h;unfold Wv.ps at this;rw [List.append_assoc] at this;exact this) r.c.k ho.lm ho.ll hk u hu m li lo h1 h2 h3)
   have CD:=K1 (fun (W:World) hM=>wdo_any W x r R hM ho hb u m li lo h1 h2 h3)
   have HM:=K1 h
   have HO:=K1 ho
   dsimp only [ifV,ptV] at CA
   clear h ho hz h1 h2 h3 hk
   go_enter Tryz.func18,Tryz.ntmps18
   go_wp2_with fail
   refine CA.out.mono ?_
   rintro e w1 ⟨rfl,q,rfl⟩
   replace HM:=K1 (HM.out.drewN q)
   clear CA
   go_wp2_with fail
   refine (CD.out _ HM.out).mono ?_
   rintro e w2 (⟨code,hc,rfl,hs,hm2⟩ | ⟨rfl,x',hmv,hok,hcn,hg,hm2⟩)
   · have H:=K1 (And.intro hs hm2)
     clear hs hm2 CD HM
     go_wp2_with fail
     go_ret
     exact ⟨false,x,rfl,HO.out,rfl,.inl ⟨rfl,rfl,.inr (.inr ⟨u,rfl,H.out.1⟩)⟩,H.out.2⟩
   · have H:=K1 (And.intro hmv hok)
     obtain ⟨cn1,hcn1⟩:∃ cn1,cn1=x.count+1:=⟨_,rfl⟩
     have hcn1i:(x.count:Int)+1=(cn1:Int):=by omega
     have wcn1:IntKind.i64.wrap (cn1:Int)=(cn1:Int):=IntWalk.i64_in _ (by omega)
     have hm3:Mem w2 (x'.hd++((x'.ms.flatMap Mc.ps++x'.ls.flatMap Ln.ps)++R)):=by
      have:=hm2
      unfold Wv.ps at this
      rwa [List.append_assoc] at this
     have c2:w2.cell? ⟨x.g,2,none⟩=some (.int .i64 x.count):=by rw [← hg,← hcn];exact blk_cells (hm3.obj 0 rfl) 2
     have f2:∀ j,w2.frozen? ⟨x.g,j,none⟩=false:=fun j=>by rw [← hg];exact hm3.frozen 0 j rfl
     have hm4:=hm3.set (i:=0) (j:=2) rfl (.int .i64 cn1)
     rw [hg] at hm4
     have HF:=K1 hm4
     have HC:=K1 (And.intro hcn (And.intro hg hcn1))
     clear hmv hok hm2 hm3 hm4 CD HM hcn hg hcn1
     go_wp2_with fail
     go_ret
     refine ⟨true,{ x' with count:=x.count+1 },rfl,H.out.2,HC.out.2.1,.inr ⟨rfl,H.out.2,u,rfl,H.out.1⟩,?_⟩
     have h9:=Mem.cast HF.out (show _=({ x' with count:=x.count+1 }:Wv).hd++((x'.ms.flatMap Mc.ps++x'.ls.flatMap Ln.ps)++R) by rw [← HC.out.2.1,HC.out.2.2];rfl)
     unfold Wv.ps
     rw [List.append_assoc]
     exact h9
theorem at_mid {P R:List Ch} {c:Ch}:(P++c::R)[P.length]?=some c:=by simp
def RunR (r:Rn):Wv→List Int→Nat→Wv→Prop
 | x,[],n,x'=>n=0∧x'=x
 | x,z::zs,n,x'=>∃ (b:Bool) (y:Wv) (n':Nat),PickR r x z b y∧RunR r y zs n' x'∧n=n'+b.toNat
theorem RunR.snoc {r:Rn} {z:Int} {b:Bool} {y x':Wv} (hp:PickR r y z b x'):∀ (zs:List Int) {x:Wv} {n:Nat},RunR r x zs n y→RunR r x (zs++[z]) (n+b.toNat) x'
 | [],x,n,h=>by
   obtain ⟨rfl,rfl⟩:=h
   exact ⟨b,x',0,hp,⟨rfl,rfl⟩,rfl⟩
 | a::zs,x,n,⟨c,y1,n',h1,h2,h3⟩=>⟨c,y1,n'+b.toNat,h1,RunR.snoc hp zs h2,by omega⟩
theorem PickR.count {r:Rn} {x x':Wv} {z:Int} {b:Bool} (h:PickR r x z b x'):x'.count=x.count+b.toNat:=by
 rcases h with ⟨rfl,rfl,_⟩ | ⟨rfl,_,u,_,m,m',it,_,_,_,_,hc,_⟩
 · rfl
 · exact hc
theorem PickR.ok {r:Rn} {x x':Wv} {z:Int} {b:Bool} (ho:x.Ok r) (h:PickR r x z b x'):x'.Ok r:=by
 rcases h with ⟨_,rfl,_⟩ | ⟨_,h,_⟩
 · exact ho
 · exact h
theorem RunR.count {r:Rn}:∀ (zs:List Int) {x x':Wv} {n:Nat},RunR r x zs n x'→x'.count=x.count+n∧n≤zs.length
 | [],x,x',n,h=>by
   obtain ⟨rfl,rfl⟩:=h
   exact ⟨rfl,Nat.le_refl _⟩
 | z::zs,x,x',n,⟨b,y,n',h1,h2,h3⟩=>by
   have c1:=h1.count
   have c2:=RunR.count zs h2
   have hb:b.toNat≤1:=by cases b <;> decide
   rw [List.length_cons]
   omega
set_option maxRecDepth 100000 in
theorem run_any (w:World) (x:Wv) (r:Rn) (R:List Ch) (A:Option Addr) (cap:Nat) (zs:List Int) (len:Nat) (hlen:zs.length=len) (h:Mem w (x.ps++(.rd A (zC zs)::R))) (ho:x.Ok r) (hb:x.count+len≤1000000) :
  Calls Tryz.prog 10 #[.pointer (some ⟨x.g,0,none⟩),.slice A len cap] w fun e w'=>∃ (n:Nat) (x':Wv),e=.returned (.int .i64 n)∧x'.Ok r∧x'.g=x.g∧RunR r x zs n x'∧Mem w' (x'.ps++(.rd A (zC zs)::R)):=by
 have HM:=K1 h
 have HO:=K1 ho
 have HL:=K1 hlen
 have hlb:len≤1000000:=by omega
 have hA:0<len→∃ b off,A=some ⟨b,off,none⟩:=fun h0=>by
  obtain ⟨b,off,e,_⟩:=h.rd x.ps.length at_mid (by rw [zC_len];omega)
  exact ⟨b,off,e⟩
 clear h ho hlen
 go_enter Tryz.func10,Tryz.ntmps10
 go_wp2_with fail
 go_loopw [5,10] (fun s5 s10 wr=>∃ (k n:Nat) (y:Wv),k≤len∧n≤k∧s5=.int .i64 n∧s10=.int .i64 k∧Hid (y.Ok r∧y.g=x.g∧RunR r x (zs.take k) n y)∧Hid (Mem wr (y.ps++(.rd A (zC zs)::R)))) (fun _ s10 _=>len-(intOf s10).toNat)
 case atStart=>exact ⟨0,0,x,Nat.zero_le _,Nat.le_refl _,rfl,rfl,K1 ⟨HO.out,rfl,by rw [List.take_zero];exact ⟨rfl,rfl⟩⟩,HM⟩
 case round =>
  clear HM
  obtain ⟨k,n,y,hk,hnk,rfl,rfl,HY,HM⟩:=hrel
  by_cases hlt:k<len
  · obtain ⟨b,off,rfl⟩:=hA (by omega)
    obtain ⟨z,hz⟩:=get_some zs k (by rw [HL.out];exact hlt)
    have e1:=HM.out.rdAt y.ps.length at_mid (zC_at hz)
    have hcn:=(RunR.count _ HY.out.2.2).1
    have CP:=K1 (pick_any wr y r _ HM.out HY.out.1 (by omega) z)
    rw [HY.out.2.1] at CP
    have HT:=K1 (show zs.take (k+1)=zs.take k++[z] by rw [List.take_add_one,hz];rfl)
    obtain ⟨n1,hn1⟩:∃ n1,n1=n+1:=⟨_,rfl⟩
    have hn1i:(n:Int)+1=(n1:Int):=by omega
    have wn1:IntKind.i64.wrap (n1:Int)=(n1:Int):=IntWalk.i64_in _ (by omega)
    obtain ⟨k1,hk1⟩:∃ k1,k1=k+1:=⟨_,rfl⟩
    have hk1i:(k:Int)+1=(k1:Int):=by omega
    have wk1:IntKind.i64.wrap (k1:Int)=(k1:Int):=IntWalk.i64_in _ (by omega)
    have HK:=K1 (And.intro hn1 hk1)
    clear hz HM hn1 hk1
    go_wp2_with fail
    refine CP.out.mono ?_
    rintro e w1 ⟨bb,y',rfl,hy',hg',hp',hm'⟩
    have HP:=K1 (And.intro hy' (And.intro hg' hp'))
    have HM:=K1 hm'
    clear hy' hg' hp' hm' CP e1
    cases bb
    · go_wp2_with fail
      go_roundw
      case rel =>
       refine ⟨k1,n,y',by have:=HK.out.2;omega,by have:=HK.out.2;omega,rfl,rfl,K1 ⟨HP.out.1,HP.out.2.1,?_⟩,HM⟩
       rw [HK.out.2,HT.out]
       exact RunR.snoc HP.out.2.2 _ HY.out.2.2
      case measure=>simp [intOf];have:=HK.out.2;omega
    · go_wp2_with fail
      go_roundw
      case rel =>
       refine ⟨k1,n1,y',by have:=HK.out.2;omega,by have:=HK.out;omega,rfl,rfl,K1 ⟨HP.out.1,HP.out.2.1,?_⟩,HM⟩
       rw [HK.out.2,HK.out.1,HT.out]
       exact RunR.snoc HP.out.2.2 _ HY.out.2.2
      case measure=>simp [intOf];have:=HK.out.2;omega
  · have hkn:k=len:=by omega
    have HF:=K1 HM.out
    clear HM
    go_wp2_with fail
    go_ret
    refine ⟨n,y,rfl,HY.out.1,HY.out.2.1,?_,HF.out⟩
    have:=HY.out.2.2
    rwa [List.take_of_length_le (by have:=HL.out;omega)] at this
set_option maxRecDepth 100000 in
theorem done_any (w:World) (x:Wv) (r:Rn) (R:List Ch) (h:Mem w (x.ps++R)) (ho:x.Ok r) :
  Calls Tryz.prog 27 #[.pointer (some ⟨x.g,0,none⟩)] w fun e w'=>∃ b:Bool,e=.returned (.bool b)∧(b=true↔∀ m∈x.ms,r.c.st≤m.t)∧Below w.heap.size w w':=by
 obtain ⟨k0,hk0⟩:∃ k0,k0=r.c.k:=⟨_,rfl⟩
 have hlm:=ho.lm
 rw [← hk0] at hlm
 have hkb:1≤k0∧k0≤8:=by rw [hk0];exact ho.c.k
 have hh:Mem w (x.hd++((x.ms.flatMap Mc.ps++x.ls.flatMap Ln.ps)++R)):=by
  have:=h
  unfold Wv.ps at this
  rwa [List.append_assoc] at this
 obtain ⟨bw,ow,hAw,_,hcw⟩:=hh.rd 1 rfl (by rw [List.length_map];omega)
 have c0:w.cell? ⟨x.g,0,none⟩=some (.slice (some ⟨bw,ow,none⟩) k0 x.cw):=by rw [← hAw,← hlm];exact blk_cells (hh.obj 0 rfl) 0
 have HC:=K1 (show ∀ (W:World),Below w.heap.size w W→∀ u m,x.ms[u]?=some m→W.cell? ⟨bw,ow+u,none⟩=some (.iface 95 (.pointer (some ⟨m.f.g,0,none⟩))) from fun W hb u m hu=>by
  have h':=(hh.below hb).rd 1 rfl
  rw [hAw] at h'
  exact st_at h' (by rw [List.getElem?_map,hu];rfl))
 have HM:=K1 h
 have HO:=K1 ho
 have HL:=K1 hlm
 clear h ho hlm hh hAw hcw hk0
 go_enter Tryz.func27,Tryz.ntmps27
 go_wp2_with fail
 go_loopw [14] (fun s14 wr=>∃ k:Nat,k≤k0∧s14=.int .i64 k∧Hid (∀ (u:Nat) (m:Mc),u<k→x.ms[u]?=some m→r.c.st≤m.t)∧Hid (Below w.heap.size w wr)) (fun s14 _=>k0-(intOf s14).toNat)
 case atStart=>exact ⟨0,Nat.zero_le _,rfl,K1 (fun u m hu=>absurd hu (Nat.not_lt_zero _)),K1 (Below.refl _ _)⟩
 case round =>
  clear c0
  obtain ⟨k,hk,rfl,HQ,HB⟩:=hrel
  by_cases hlt:k<k0
  · obtain ⟨m,hm⟩:=get_some x.ms k (by rw [HL.out];exact hlt)
    have e1:=HC.out wr HB.out k m hm
    obtain ⟨ho1,_,hof,_⟩:=HO.out.m k m hm
    have hMm:=(HM.out.below HB.out).perm (x.perm1 R hm)
    by_cases ht:m.t<m.f.c.st
    · obtain ⟨it,hit,_⟩:=ho1.at_ ht
      have CN:=K1 (mnext_any wr m _ hMm it hit (itsAt_le ho1.f _))
      have HF:=K1 (show m.t<r.c.st∧m∈x.ms by rw [← hof.c];exact ⟨ht,List.mem_of_getElem? hm⟩)
      obtain ⟨kd,st,n,⟨asn,aa,t1,t2,t3,t4,t5,lo,hi⟩⟩:=it
      dsimp only [It.cells,Ac.cells] at CN
      simp only [List.cons_append,List.nil_append] at CN
      clear hMm ho1 hof hit ht hm
      go_wp2_with fail
      refine CN.out.mono ?_
      rintro e w1 ⟨rfl,hb1⟩
      have HB1:=K1 (HB.out.trans (hb1.mono HB.out.size))
      clear hb1 CN e1
      have HB2:=K1 (HB1.out.alloc HB1.out.size (.cells #[.int .i64 kd,.int .i64 st,.int .i64 n,.bool asn,.bool aa,.int .i64 t1,.int .i64 t2,.int .i64 t3,.int .i64 t4,.int .i64 t5,.int .i64 lo,.int .i64 hi] 146))
      go_wp2_with fail
      go_ret
      refine ⟨false,rfl,⟨fun h=>(by cases h),fun h=>absurd (h m HF.out.2) (by have:=HF.out.1;omega)⟩,HB2.out⟩
    · obtain ⟨e2,e3⟩:=ho1.none_ ht
      have CN:=K1 (mnext_none wr m _ hMm e2 e3)
      dsimp only [itZero] at CN
      have HF:=K1 (show x.ms[k]?=some m∧r.c.st≤m.t by rw [← hof.c];exact ⟨hm,by omega⟩)
      clear hMm ho1 hof ht e2 e3 hm
      go_wp2_with fail
      refine CN.out.mono ?_
      rintro e w1 ⟨rfl,hb1⟩
      have HB1:=K1 (HB.out.trans (hb1.mono HB.out.size))
      clear hb1 CN e1
      have HB2:=K1 (HB1.out.alloc HB1.out.size (.cells #[.int .i64 0,.int .i64 0,.int .i64 0,.bool false,.bool false,.int .i64 0,.int .i64 0,.int .i64 0,.int .i64 0,.int .i64 0,.int .i64 0,.int .i64 0] 146))
      go_wp2_with fail
      go_roundw
      case rel =>
       refine ⟨k+1,by omega,by go_num,K1 (fun u m' hu hm'=>?_),HB2⟩
       rcases Nat.lt_or_ge u k with h1 | h1
       · exact HQ.out u m' h1 hm'
       · rw [show u=k by omega,HF.out.1] at hm'
         injection hm' with hm'
         rw [← hm'];exact HF.out.2
      case measure=>simp [intOf];omega
  · have hkn:k=k0:=by omega
    go_wp2_with fail
    go_ret
    refine ⟨true,rfl,⟨fun _ m hm=>?_,fun _=>rfl⟩,HB.out⟩
    obtain ⟨u,hu⟩:=List.getElem?_of_mem hm
    exact HQ.out u m (by have:=(List.getElem?_eq_some_iff.1 hu).1;have:=HL.out;omega) hu
end Go.Proofs.YtdpojpcoghcieaaGreat
