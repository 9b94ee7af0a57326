/- A part of the proof of TopSerial: StatI, Dyn. Conditions: none. -/
import Derived.Test.YtdpojpcoghcieaaGreatSdBT
set_option maxHeartbeats 8000000
namespace Go.Proofs.YtdpojpcoghcieaaGreat
open Go.RowKit
def startS (r:Rn) (st:List Int) (t:Nat):St:=⟨(serS r st t).1,(serS r st t).2,zeroL r.p,(List.range (t+1)).map (serS r st)⟩
def segsOf (r:Rn) (t j:Nat):List (Nat × Nat):=jobSegs (jobOf (plBs r.c r.p) r.c.k r.c.s t j)
structure SI (r:Rn) (st:List Int) (t:Nat) (f:Nat→Nat→Nat→Int) (pd:Nat→Bool) (s:St):Prop where
 lP:s.P.length=r.p
 lM:s.M.length=r.p
 lG:s.G.length=r.p
 rc:s.rcd=(List.range (t+1)).map (serS r st)
 el:∀ e j g,Is (plBs r.c r.p) e j→Is (segsOf r t j) e g→s.G[e]?.getD 0=f e j g∧s.P[e]?.getD 0=(if pd j then (serS r st (t+1)).1 else (serS r st t).1)[e]?.getD 0∧s.M[e]?.getD 0=(if pd j then (serS r st (t+1)).2 else (serS r st t).2)[e]?.getD 0
theorem SI.turn {r:Rn} {st:List Int} {t:Nat} {f f':Nat→Nat→Nat→Int} {pd pd':Nat→Bool} {s:St} (h:SI r st t f pd s) (hf:∀ e j g,Is (plBs r.c r.p) e j→Is (segsOf r t j) e g→f e j g=f' e j g) (hp:∀ e j,Is (plBs r.c r.p) e j→pd j=pd' j):SI r st t f' pd' s :=
 ⟨h.lP,h.lM,h.lG,h.rc,fun e j g hj hg=>by rw [← hf e j g hj hg,← hp e j hj];exact h.el e j g hj hg⟩
theorem SI.lt {r:Rn} (hc:r.c.Ok) {e j:Nat} (h:Is (plBs r.c r.p) e j):e<r.p∧j<(plBs r.c r.p).length:=by
 obtain ⟨a,b,h1,h2,h3⟩:=h
 have h4:=plBs_in (p:=r.p) hc _ (List.mem_of_getElem? h1)
 exact ⟨by have:=h4.2;omega,(List.getElem?_eq_some_iff.1 h1).1⟩
theorem SI.seg {r:Rn} {t e j g:Nat} (h:Is (segsOf r t j) e g):g<r.c.k:=by
 obtain ⟨a,b,h1,_⟩:=h
 exact (seg_at h1).1
abbrev elX (r:Rn) (st:List Int) (t e:Nat):Nat→Int:=fun v=>ownX r st t v e
def allV (r:Rn) (st:List Int) (t e:Nat):Int:=wrap64 (sumZ (elX r st t e) r.c.k)
def ownV (r:Rn) (st:List Int) (t u e:Nat):Int:=wrap64 (ownX r st t u e)
def fG (r:Rn) (st:List Int) (t u b:Nat):Nat→Nat→Nat→Int:=fun e j _=>if j<b then allV r st t e else ownV r st t u e
def fQ (r:Rn) (st:List Int) (t u lo hi q:Nat):Nat→Nat→Nat→Int:=fun e j g=>if lo≤j∧j<hi then valQ r.c.k (elX r st t e) u g q else fG r st t u lo e j g
def fB (r:Rn) (st:List Int) (t u lo hi q i:Nat):Nat→Nat→Nat→Int:=fun e j g=>if lo≤j∧j<hi then (if j<lo+i then valQ r.c.k (elX r st t e) u g (q+1) else valQ r.c.k (elX r st t e) u g q) else fG r st t u lo e j g
def fC (r:Rn) (st:List Int) (t u lo hi q i gR a c:Nat):Nat→Nat→Nat→Int:=fun e j g=>if j=lo+i then (if g=gR∧e<a+c*r.c.s then valQ r.c.k (elX r st t e) u g (q+1) else valQ r.c.k (elX r st t e) u g q) else fB r st t u lo hi q i e j g
section
variable {r:Rn} {st:List Int} {t u lo hi q i gR a c e j g:Nat}
theorem fQ_in (h1:lo≤j) (h2:j<hi):fQ r st t u lo hi q e j g=valQ r.c.k (elX r st t e) u g q:=if_pos ⟨h1,h2⟩
theorem fQ_out (h:¬ (lo≤j∧j<hi)):fQ r st t u lo hi q e j g=fG r st t u lo e j g:=if_neg h
theorem fB_lt (h1:lo≤j) (h2:j<hi) (h3:j<lo+i):fB r st t u lo hi q i e j g=valQ r.c.k (elX r st t e) u g (q+1):=(if_pos ⟨h1,h2⟩).trans (if_pos h3)
theorem fB_ge (h1:lo≤j) (h2:j<hi) (h3:¬ j<lo+i):fB r st t u lo hi q i e j g=valQ r.c.k (elX r st t e) u g q:=(if_pos ⟨h1,h2⟩).trans (if_neg h3)
theorem fB_out (h:¬ (lo≤j∧j<hi)):fB r st t u lo hi q i e j g=fG r st t u lo e j g:=if_neg h
theorem fC_done (h1:j=lo+i) (h2:g=gR) (h3:e<a+c*r.c.s):fC r st t u lo hi q i gR a c e j g=valQ r.c.k (elX r st t e) u g (q+1):=(if_pos h1).trans (if_pos ⟨h2,h3⟩)
theorem fC_not (h1:j=lo+i) (h2:¬ (g=gR∧e<a+c*r.c.s)):fC r st t u lo hi q i gR a c e j g=valQ r.c.k (elX r st t e) u g q:=(if_pos h1).trans (if_neg h2)
theorem fC_out (h1:j≠lo+i):fC r st t u lo hi q i gR a c e j g=fB r st t u lo hi q i e j g:=if_neg h1
theorem fG_lt (h:j<i):fG r st t u i e j g=allV r st t e:=if_pos h
theorem fG_ge (h:¬ j<i):fG r st t u i e j g=ownV r st t u e:=if_neg h
end
theorem comp_tri {r:Rn} {st:List Int} (hst:st.length=r.p) (t u:Nat) :
  Tri r st t u (fun s=>s=startS r st t) (fromTo 1 t 0 r.c.mi) (fun s=>SI r st t (fG r st t u 0) (fun _=>false) s):=by
 have hl:=serS_len r hst t
 refine Tri.pre (Tri.weak (Tri.map (fun n s=>s.P=(serS r st t).1∧s.M=(serS r st t).2∧s.rcd=(List.range (t+1)).map (serS r st)∧s.G.length=r.p∧∀ e,e<r.p→s.G[e]?.getD 0=wrap64 (sumZ (fun a=>gsum r.ns r.c.sh (serS r st t).1 (exD r.dat (microL r.ds r.n r.c.ba t u r.c.k a r.c.mi)) e) n)) (fun i=>plainIt 1 t (0+i)) r.c.mi (fun i _=>Tri.one (by simp [plainIt]) ?_)) ?_) ?_
 · rintro s ⟨h1,h2,h3,h4,h5⟩
   have hd:doS r st t u s (plainIt 1 t (0+i))={ s with G:=compG r.ns r.c.sh s.P r.p (exD r.dat (microL r.ds r.n r.c.ba t u r.c.k (0+i) r.c.mi)) s.G }:=rfl
   rw [hd]
   refine ⟨h1,h2,h3,(compG_len _ _ _ _ _ _).trans h4,fun e he=>?_⟩
   dsimp only
   rw [h1,comp_getD _ _ _ h4 h5 e he,Nat.zero_add]
   rfl
 · rintro s ⟨h1,h2,h3,h4,h5⟩
   refine ⟨by rw [h1];exact hl.1,by rw [h2];exact hl.2,h4,h3,fun e j g hj hg=>⟨?_,by rw [h1];rfl,by rw [h2];rfl⟩⟩
   have he:e<r.p:=by
    obtain ⟨a,b,k1,k2,k3⟩:=hj
    obtain ⟨_,k4⟩:=buckets_at k1
    obtain ⟨_,k5,k6⟩:=blocks_at k4
    omega
   rw [h5 e he]
   rfl
 · rintro s rfl
   refine ⟨rfl,rfl,rfl,by simp [startS,zeroL],fun e _=>?_⟩
   show (zeroL r.p)[e]?.getD 0=_
   rw [zero_getD]
   exact (w64_id (a:=0) (by omega)).symm
theorem sub_ext {l:List Int} {x y p:Nat} (f:Nat→Int) (hl:l.length=p) (hy:y≤p) (hxy:x≤y) (h:∀ i,i<y-x→l[x+i]?.getD 0=f i):subL l x y=(List.range (y-x)).map f:=by
 refine ext_getD (by rw [subL_len hxy (by omega)];simp) fun i hi=>?_
 rw [subL_len hxy (by omega)] at hi
 rw [subL_getD _ _ _ _ hi,map_getD _ _ _ hi,h i hi]
theorem splice_getD (l:List Int) (lo:Nat) (v:List Int) (h:lo+v.length≤l.length) (j:Nat):(splice l lo v)[j]?.getD 0=if lo≤j∧j<lo+v.length then v[j-lo]?.getD 0 else l[j]?.getD 0:=by
 unfold splice
 have h1:(l.take lo).length=lo:=by rw [List.length_take];omega
 rcases Nat.lt_or_ge j lo with h2 | h2
 · rw [if_neg (by omega),List.getElem?_append_left (by omega),List.getElem?_take_of_lt h2]
 · rw [List.getElem?_append_right (by omega),h1]
   rcases Nat.lt_or_ge j (lo+v.length) with h3 | h3
   · rw [if_pos ⟨h2,h3⟩,List.getElem?_append_left (by omega)]
   · rw [if_neg (by omega),List.getElem?_append_right (by omega),List.getElem?_drop]
     congr 2
     omega
theorem chunk_tri {r:Rn} {st:List Int} (hc:r.c.Ok) {t u lo hi ph rd i gR a b c:Nat} (hu:u<r.c.k) (hph:ph≤1) (hrd:rd+1<r.c.k) (hi2:lo+i<hi) (hhi:hi≤(plBs r.c r.p).length)
  (hgR:gR=segR r.c.k u ph rd) (hab:(segsOf r t (lo+i))[gR]?=some (a,b)) (pd:Nat→Bool) :
  Tri r st t u (SI r st t (fC r st t u lo hi (ph*(r.c.k-1)+rd) i gR a c) pd)
   (((outCh (jobOf (plBs r.c r.p) r.c.k r.c.s t (lo+i)) u ph rd)[c]?.map fun p=>actIt t (addAc (jobOf (plBs r.c r.p) r.c.k r.c.s t (lo+i)) true ph rd c p)).toList++((inCh (jobOf (plBs r.c r.p) r.c.k r.c.s t (lo+i)) u ph rd)[c]?.map fun p=>actIt t (addAc (jobOf (plBs r.c r.p) r.c.k r.c.s t (lo+i)) false ph rd c p)).toList)
   (SI r st t (fC r st t u lo hi (ph*(r.c.k-1)+rd) i gR a (c+1)) pd):=by
 obtain ⟨⟨blo,bhi⟩,hbk⟩:=get_some (plBs r.c r.p) (lo+i) (by omega)
 have hbo:=plBs_in (p:=r.p) hc _ (List.mem_of_getElem? hbk)
 dsimp only at hbo
 have hJ:=jobOf_at (k:=r.c.k) (s:=r.c.s) (t:=t) hbk
 have hS1:=segS_lt (k:=r.c.k) (w:=u) (ph:=ph) (r:=rd) hc.k.1
 obtain ⟨⟨sa,sb⟩,hsS⟩:=get_some (segsOf r t (lo+i)) (segS r.c.k u ph rd) (by unfold segsOf;rw [jobSegs,shift_len,even_len];exact hS1)
 have inB:∀ {x y g:Nat},(segsOf r t (lo+i))[g]?=some (x,y)→blo≤x∧y≤bhi:=fun {x y g} h=>by
  unfold segsOf at h
  rw [hJ] at h
  obtain ⟨h1,h2,h3⟩:=seg_at h
  dsimp only at h1 h2 h3
  have:=bnd_le (n:=bhi-blo) hc.k.1 (i:=g+1) (by omega)
  omega
 have hSB:=inB hsS
 have hRB:=inB hab
 have hseg:∀ {x y g e:Nat},(segsOf r t (lo+i))[g]?=some (x,y)→x≤e→e<y→Is (plBs r.c r.p) e (lo+i)∧Is (segsOf r t (lo+i)) e g:=fun {x y g e} h h1 h2=>by
  have:=inB h
  exact ⟨⟨blo,bhi,hbk,by omega,by omega⟩,⟨x,y,h,h1,h2⟩⟩
 have hgRk:gR<r.c.k:=by rw [hgR];exact segR_lt hc.k.1
 have hne:segS r.c.k u ph rd≠gR:=fun e=>by
  have e1:=(segS_dl hu hgRk hph hrd).1 e
  have e2:=(segR_dl hu hgRk hph hrd).1 hgR.symm
  rw [e1] at e2
  split at e2
  · omega
  · split at e2 <;> omega
 refine Tri.app (J:=SI r st t (fC r st t u lo hi (ph*(r.c.k-1)+rd) i gR a c) pd) ?_ ?_
 · cases hx:(outCh (jobOf (plBs r.c r.p) r.c.k r.c.s t (lo+i)) u ph rd)[c]? with
   | none=>exact Tri.nil fun _ h=>h
   | some p =>
     obtain ⟨x,y⟩:=p
     refine Tri.send rfl fun s hs=>?_
     have hrn:rngOf (plBs r.c r.p) r.c.k r.c.s u (tgOf (addAc (jobOf (plBs r.c r.p) r.c.k r.c.s t (lo+i)) true ph rd c (x,y)))=some (x,y):=hx
     have hx2:(segChunks r.c.s (sa,sb))[c]?=some (x,y):=by
      have:outCh (jobOf (plBs r.c r.p) r.c.k r.c.s t (lo+i)) u ph rd=segChunks r.c.s ((segsOf r t (lo+i))[segS r.c.k u ph rd]?.getD (0,0)):=rfl
      rw [this,hsS] at hx
      exact hx
     obtain ⟨e0,e1,e2⟩:=chunk_at hc.s.1 hx2
     show subL s.G x y=sentV r st u (tgOf (addAc (jobOf (plBs r.c r.p) r.c.k r.c.s t (lo+i)) true ph rd c (x,y)))
     unfold sentV
     rw [hrn]
     refine sub_ext _ hs.lG (by omega) (by omega) fun m hm=>?_
     obtain ⟨q1,q2⟩:=hseg (e:=x+m) hsS (by omega) (by omega)
     rw [(hs.el _ _ _ q1 q2).1]
     rw [fC_not rfl (fun h=>hne h.1)]
     exact valQ_send (elX r st t (x+m)) hu hS1 hph hrd rfl
 · cases hx:(inCh (jobOf (plBs r.c r.p) r.c.k r.c.s t (lo+i)) u ph rd)[c]? with
   | none =>
     refine Tri.nil fun s hs=>hs.turn (fun e j g hj hg=>?_) fun _ _ _=>rfl
     by_cases hj1:j=lo+i
     · subst hj1
       by_cases hg1:g=gR
       · subst hg1
         obtain ⟨a',b',k1,k2,k3⟩:=hg
         rw [hab] at k1
         injection k1 with k1
         injection k1 with k1 k1'
         subst k1;subst k1'
         have hx2:(segChunks r.c.s (a,b))[c]?=none:=by
          have:inCh (jobOf (plBs r.c r.p) r.c.k r.c.s t (lo+i)) u ph rd=segChunks r.c.s ((segsOf r t (lo+i))[segR r.c.k u ph rd]?.getD (0,0)):=rfl
          rw [this,← hgR,hab] at hx
          exact hx
         have h1:=List.getElem?_eq_none_iff.1 hx2
         rw [segChunks_len] at h1
         dsimp only at h1
         have h2:=pcnt_cover (b-a) hc.s.1
         have h3:=Nat.mul_le_mul_right r.c.s h1
         have h4:(c+1)*r.c.s=c*r.c.s+r.c.s:=Nat.succ_mul _ _
         rw [fC_done rfl rfl (by omega),fC_done rfl rfl (by omega)]
       · rw [fC_not rfl (fun h=>hg1 h.1),fC_not rfl (fun h=>hg1 h.1)]
     · rw [fC_out hj1,fC_out hj1]
   | some p =>
     obtain ⟨x,y⟩:=p
     refine Tri.one (by show (4:Nat)≠3;decide) fun s hs=>?_
     have hrn:rngOf (plBs r.c r.p) r.c.k r.c.s ((u+r.c.k-1) % r.c.k) (tgOf (addAc (jobOf (plBs r.c r.p) r.c.k r.c.s t (lo+i)) false ph rd c (x,y)))=some (x,y):=hx
     have hx2:(segChunks r.c.s (a,b))[c]?=some (x,y):=by
      have:inCh (jobOf (plBs r.c r.p) r.c.k r.c.s t (lo+i)) u ph rd=segChunks r.c.s ((segsOf r t (lo+i))[segR r.c.k u ph rd]?.getD (0,0)):=rfl
      rw [this,← hgR,hab] at hx
      exact hx
     obtain ⟨e0,e1,e2⟩:=chunk_at hc.s.1 hx2
     have h4:(c+1)*r.c.s=c*r.c.s+r.c.s:=Nat.succ_mul _ _
     obtain ⟨v,hv⟩:∃ v,v=sentV r st ((u+r.c.k-1) % r.c.k) (tgOf (addAc (jobOf (plBs r.c r.p) r.c.k r.c.s t (lo+i)) false ph rd c (x,y))):=⟨_,rfl⟩
     have hv2:v=(List.range (y-x)).map fun m=>valS r.c.k (elX r st t (x+m)) (segS r.c.k ((u+r.c.k-1) % r.c.k) ph rd) ph rd:=by
      rw [hv];unfold sentV;rw [hrn];rfl
     have hvl:v.length=y-x:=by rw [hv2];simp
     have hdo:doS r st t u s (actIt t (addAc (jobOf (plBs r.c r.p) r.c.k r.c.s t (lo+i)) false ph rd c (x,y)))={ s with G:=if ph=0 then addTo x v s.G (y-x) else splice s.G x v }:=by
      rw [hv]
      unfold doS
      rw [if_neg (by show ¬ (4:Nat)=3;decide),if_pos (by rfl)]
      show ({ s with G:=if (ph == 0)=true then _ else _ }:St)=_
      rcases Nat.eq_zero_or_pos ph with h0 | h0
      · subst h0;rfl
      · have:ph=1:=by omega
        subst this;rfl
     rw [hdo]
     have hyp:y≤r.p:=by omega
     have hfit:x+v.length≤s.G.length:=by rw [hvl,hs.lG];omega
     have hval:∀ e,((if ph=0 then addTo x v s.G (y-x) else splice s.G x v)[e]?.getD 0)=if x≤e∧e<y then (if ph=0 then wrap64 (s.G[e]?.getD 0+v[e-x]?.getD 0) else v[e-x]?.getD 0) else s.G[e]?.getD 0:=fun e=>by
      by_cases h0:ph=0
      · rw [if_pos h0,if_pos h0,addTo_getD _ _ _ _ (by rw [hs.lG];omega)]
        by_cases h1:x≤e∧e<y
        · rw [if_pos h1,if_pos (by omega)]
        · rw [if_neg h1,if_neg (by omega)]
      · rw [if_neg h0,if_neg h0,splice_getD _ _ _ hfit,hvl]
        by_cases h1:x≤e∧e<y
        · rw [if_pos h1,if_pos (by omega)]
        · rw [if_neg h1,if_neg (by omega)]
     refine ⟨hs.lP,hs.lM,?_,hs.rc,fun e j g hj hg=>⟨?_,(hs.el e j g hj hg).2⟩⟩
     · show (if ph=0 then addTo x v s.G (y-x) else splice s.G x v).length=r.p
       split
       · rw [addTo_len];exact hs.lG
       · rw [length_splice _ _ _ hfit];exact hs.lG
     · show ((if ph=0 then addTo x v s.G (y-x) else splice s.G x v)[e]?.getD 0)=_
       rw [hval e]
       have hbef:=(hs.el e j g hj hg).1
       by_cases hin:x≤e∧e<y
       · obtain ⟨q1,q2⟩:=hseg (e:=e) hab (by omega) (by omega)
         have hj1:=Is.bucket_one hj q1
         subst hj1
         have hg1:=Is.seg_one hg q2
         subst hg1
         have hval2:=valQ_recv (elX r st t e) hu hgRk hph hrd hgR.symm
         rw [if_pos hin,hbef,fC_not rfl (fun h=>by have:=h.2;omega),fC_done rfl rfl (by omega),hval2]
         have hve:v[e-x]?.getD 0=valS r.c.k (elX r st t e) g ph rd:=by
          rw [hv2,map_getD _ _ _ (by omega),show x+(e-x)=e by omega,hgR]
          rfl
         rw [hve]
       · rw [if_neg hin,hbef]
         by_cases hj1:j=lo+i
         · subst hj1
           by_cases hg1:g=gR
           · subst hg1
             obtain ⟨a',b',k1,k2,k3⟩:=hg
             rw [hab] at k1
             injection k1 with k1
             injection k1 with k1 k1'
             subst k1;subst k1'
             by_cases h5:e<a+c*r.c.s
             · rw [fC_done rfl rfl h5,fC_done rfl rfl (by omega)]
             · rw [fC_not rfl (fun h=>h5 h.2),fC_not rfl (fun h=>by have:=h.2;omega)]
           · rw [fC_not rfl (fun h=>hg1 h.1),fC_not rfl (fun h=>hg1 h.1)]
         · rw [fC_out hj1,fC_out hj1]
theorem adds_flat (j:Jb) (t u ph r M:Nat) (hM:max (outCh j u ph r).length (inCh j u ph r).length≤M) :
  (roundL j u ph r).map (actIt t)=(List.range M).flatMap fun i=>(((outCh j u ph r)[i]?.map fun p=>actIt t (addAc j true ph r i p)).toList++((inCh j u ph r)[i]?.map fun p=>actIt t (addAc j false ph r i p)).toList):=by
 have h2:=addsTo_more j ph r (outCh j u ph r) (inCh j u ph r) (M-max (outCh j u ph r).length (inCh j u ph r).length)
 rw [Nat.add_sub_cancel' hM] at h2
 show (addsTo j ph r (outCh j u ph r) (inCh j u ph r) (max (outCh j u ph r).length (inCh j u ph r).length)).map (actIt t)=_
 rw [← h2]
 unfold addsTo
 rw [List.map_flatMap]
 congr 1
 funext i
 unfold addsAt
 rw [List.map_append]
 congr 1
 · cases (outCh j u ph r)[i]? <;> rfl
 · cases (inCh j u ph r)[i]? <;> rfl
theorem bucket_tri {r:Rn} {st:List Int} (hc:r.c.Ok) {t u lo hi q i:Nat} (hu:u<r.c.k) (hq:q<2*(r.c.k-1)) (hi2:lo+i<hi) (hhi:hi≤(plBs r.c r.p).length) (pd:Nat→Bool) :
  Tri r st t u (SI r st t (fB r st t u lo hi q i) pd) (rndB (plBs r.c r.p) r.c.k r.c.s t u q (lo+i)) (SI r st t (fB r st t u lo hi q (i+1)) pd):=by
 obtain ⟨ph,rd,hph,hrd,hqe,e1,e2⟩:∃ ph rd,ph≤1∧rd+1<r.c.k∧q=ph*(r.c.k-1)+rd∧q / (r.c.k-1)=ph∧q % (r.c.k-1)=rd:=by
  have h0:0<r.c.k-1:=by omega
  have h1:=Nat.div_add_mod q (r.c.k-1)
  have h2:=Nat.mod_lt q h0
  have h3:q / (r.c.k-1)<2:=Nat.div_lt_of_lt_mul (by rw [Nat.mul_comm];exact hq)
  exact ⟨_,_,by omega,by omega,by rw [Nat.mul_comm];exact h1.symm,rfl,rfl⟩
 unfold rndB
 rw [e1,e2]
 obtain ⟨gR,hgR⟩:∃ gR,gR=segR r.c.k u ph rd:=⟨_,rfl⟩
 have hgRk:gR<r.c.k:=by rw [hgR];exact segR_lt hc.k.1
 obtain ⟨⟨a,b⟩,hab⟩:=get_some (segsOf r t (lo+i)) gR (by unfold segsOf;rw [jobSegs,shift_len,even_len];exact hgRk)
 obtain ⟨M,hM⟩:∃ M,M=max (max (outCh (jobOf (plBs r.c r.p) r.c.k r.c.s t (lo+i)) u ph rd).length (inCh (jobOf (plBs r.c r.p) r.c.k r.c.s t (lo+i)) u ph rd).length) (pcnt (b-a) r.c.s):=⟨_,rfl⟩
 rw [adds_flat _ t u ph rd M (by rw [hM];exact Nat.le_max_left _ _)]
 refine Tri.pre (Tri.weak (Tri.range (fun c s=>SI r st t (fC r st t u lo hi q i gR a c) pd s) _ M (fun c _=>?_)) ?_) ?_
 · rw [hqe]
   exact chunk_tri hc hu hph hrd hi2 hhi hgR hab pd
 · intro s hs
   refine hs.turn (fun e j g hj hg=>?_) fun _ _ _=>rfl
   by_cases hj1:j=lo+i
   · subst hj1
     rw [fB_lt (by omega) hi2 (by omega)]
     by_cases hg1:g=gR
     · subst hg1
       obtain ⟨a',b',k1,k2,k3⟩:=hg
       rw [hab] at k1
       injection k1 with k1
       injection k1 with k1 k1'
       subst k1;subst k1'
       have h2:=pcnt_cover (b-a) hc.s.1
       have h3:=Nat.mul_le_mul_right r.c.s (show pcnt (b-a) r.c.s≤M by rw [hM];exact Nat.le_max_right _ _)
       rw [fC_done rfl rfl (by omega)]
     · rw [fC_not rfl (fun h=>hg1 h.1),hqe]
       exact (valQ_same _ hu (SI.seg hg) hph hrd (fun h=>hg1 (by rw [hgR];exact h.symm))).symm
   · rw [fC_out hj1]
     by_cases h5:lo≤j∧j<hi
     · by_cases h6:j<lo+i
       · rw [fB_lt h5.1 h5.2 h6,fB_lt h5.1 h5.2 (by omega)]
       · rw [fB_ge h5.1 h5.2 h6,fB_ge h5.1 h5.2 (by omega)]
     · rw [fB_out h5,fB_out h5]
 · intro s hs
   refine hs.turn (fun e j g hj hg=>?_) fun _ _ _=>rfl
   by_cases hj1:j=lo+i
   · subst hj1
     rw [fB_ge (by omega) hi2 (by omega),fC_not rfl (fun h=>?_)]
     obtain ⟨rfl,h2⟩:=h
     obtain ⟨a',b',k1,k2,k3⟩:=hg
     rw [hab] at k1
     injection k1 with k1
     injection k1 with k1 k1'
     omega
   · rw [fC_out hj1]
theorem update_tri {r:Rn} {st:List Int} (hc:r.c.Ok) {t u lo hi i:Nat} (hi2:lo+i<hi) (hhi:hi≤(plBs r.c r.p).length) :
  Tri r st t u (SI r st t (fG r st t u hi) fun j=>decide (j<lo+i)) [plainIt 5 t (lo+i)] (SI r st t (fG r st t u hi) fun j=>decide (j<lo+(i+1))):=by
 obtain ⟨⟨blo,bhi⟩,hbk⟩:=get_some (plBs r.c r.p) (lo+i) (by omega)
 have hbo:=plBs_in (p:=r.p) hc _ (List.mem_of_getElem? hbk)
 dsimp only at hbo
 refine Tri.one (by simp [plainIt]) fun s hs=>?_
 have hdo:doS r st t u s (plainIt 5 t (lo+i))={ s with P:=(appPM ⟨r.c.ra,r.c.mo,r.c.sh⟩ s.G blo s.P s.M (bhi-blo)).1,M:=(appPM ⟨r.c.ra,r.c.mo,r.c.sh⟩ s.G blo s.P s.M (bhi-blo)).2 }:=by
  unfold doS
  rw [if_neg (by show ¬ (5:Nat)=3;decide),if_neg (by show ¬ (5:Nat)=4;decide),if_neg (by show ¬ (5:Nat)=1;decide),if_neg (by show ¬ (5:Nat)=2;decide),if_pos (by rfl)]
  show ({ s with P:=(appPM _ s.G ((plBs r.c r.p)[lo+i]?.getD (0,0)).1 _ _ _).1,M:=_ }:St)=_
  rw [show (plainIt 5 t (lo+i)).n=lo+i from rfl,hbk]
  rfl
 rw [hdo]
 have hal:=appPM_len ⟨r.c.ra,r.c.mo,r.c.sh⟩ s.G blo s.P s.M (bhi-blo)
 refine ⟨hal.1.trans hs.lP,hal.2.trans hs.lM,hs.lG,hs.rc,fun e j g hj hg=>?_⟩
 obtain ⟨b1,b2,b3⟩:=hs.el e j g hj hg
 have he:=(SI.lt hc hj).1
 obtain ⟨a1,a2⟩:=appPM_getD ⟨r.c.ra,r.c.mo,r.c.sh⟩ s.G blo s.P s.M (bhi-blo) (by rw [hs.lP];omega) (by rw [hs.lM];omega) e
 refine ⟨b1,?_⟩
 show (appPM _ _ _ _ _ _).1[e]?.getD 0=(if decide (j<lo+(i+1))=true then _ else _)[e]?.getD 0∧(appPM _ _ _ _ _ _).2[e]?.getD 0=(if decide (j<lo+(i+1))=true then _ else _)[e]?.getD 0
 by_cases hj1:j=lo+i
 · subst hj1
   obtain ⟨a',b',k1,k2,k3⟩:=hj
   rw [hbk] at k1
   injection k1 with k1
   injection k1 with k1 k1'
   subst k1;subst k1'
   obtain ⟨s1,s2⟩:=ser_getD hc st t he
   have hin:blo≤e∧e<blo+(bhi-blo):=by omega
   rw [if_neg (by simp)] at b2 b3
   have hf:fG r st t u hi e (lo+i) g=wrap64 (sumZ (fun u=>ownX r st t u e) r.c.k):=fG_lt hi2
   rw [a1,a2,if_pos hin,if_pos hin,if_pos (by simp),if_pos (by simp),b1,b2,b3,s1,s2,hf]
   exact ⟨rfl,rfl⟩
 · have hnot:¬ (blo≤e∧e<blo+(bhi-blo)):=fun h=>hj1 (Is.bucket_one hj ⟨blo,bhi,hbk,h.1,by omega⟩)
   have hd:decide (j<lo+i)=decide (j<lo+(i+1)):=by
    by_cases h:j<lo+i
    · rw [decide_eq_true h,decide_eq_true (by omega)]
    · rw [decide_eq_false h,decide_eq_false (by omega)]
   rw [a1,a2,if_neg hnot,if_neg hnot,b2,b3,hd]
   exact ⟨rfl,rfl⟩
theorem group_tri {r:Rn} {st:List Int} (hc:r.c.Ok) {t u lo hi:Nat} (hu:u<r.c.k) (hlo:lo≤hi) (hhi:hi≤(plBs r.c r.p).length) :
  Tri r st t u (SI r st t (fG r st t u lo) fun j=>decide (j<lo)) (groupL (plBs r.c r.p) r.c.k r.c.s t u (lo,hi)) (SI r st t (fG r st t u hi) fun j=>decide (j<hi)):=by
 unfold groupL
 refine Tri.app (J:=SI r st t (fG r st t u hi) fun j=>decide (j<lo)) (Tri.app (J:=SI r st t (fG r st t u lo) fun j=>decide (j<lo)) ?_ ?_) ?_
 · exact Tri.map (fun _ s=>SI r st t (fG r st t u lo) (fun j=>decide (j<lo)) s) _ _ fun i _=>Tri.one (by simp [plainIt]) fun s hs=>hs
 · unfold roundsL rndsTo
   refine Tri.pre (Tri.weak (Tri.range (fun q s=>SI r st t (fQ r st t u lo hi q) (fun j=>decide (j<lo)) s) _ (2*(r.c.k-1)) (fun q hq=>?_)) ?_) ?_
   · unfold rndBs
     refine Tri.pre (Tri.weak (Tri.range (fun i s=>SI r st t (fB r st t u lo hi q i) (fun j=>decide (j<lo)) s) _ (hi-lo) (fun i hi3=>bucket_tri hc hu hq (by omega) hhi _)) ?_) ?_
     · intro s hs
       refine hs.turn (fun e j g hj hg=>?_) fun _ _ _=>rfl
       by_cases h5:lo≤j∧j<hi
       · rw [fB_lt h5.1 h5.2 (by omega),fQ_in h5.1 h5.2]
       · rw [fB_out h5,fQ_out h5]
     · intro s hs
       refine hs.turn (fun e j g hj hg=>?_) fun _ _ _=>rfl
       by_cases h5:lo≤j∧j<hi
       · rw [fB_ge h5.1 h5.2 (by omega),fQ_in h5.1 h5.2]
       · rw [fB_out h5,fQ_out h5]
   · intro s hs
     refine hs.turn (fun e j g hj hg=>?_) fun _ _ _=>rfl
     by_cases h5:lo≤j∧j<hi
     · rw [fQ_in h5.1 h5.2,fG_lt h5.2,valQ_end _ hu (SI.seg hg)]
       rfl
     · rw [fQ_out h5]
       by_cases h6:j<lo
       · rw [fG_lt h6,fG_lt (by omega)]
       · rw [fG_ge h6,fG_ge (by omega)]
   · intro s hs
     refine hs.turn (fun e j g hj hg=>?_) fun _ _ _=>rfl
     by_cases h5:lo≤j∧j<hi
     · rw [fQ_in h5.1 h5.2,valQ_zero _ hu (SI.seg hg),fG_ge (by omega)]
       rfl
     · rw [fQ_out h5]
 · refine Tri.pre (Tri.weak (Tri.map (fun i s=>SI r st t (fG r st t u hi) (fun j=>decide (j<lo+i)) s) _ (hi-lo) (fun i hi3=>update_tri hc (by omega) hhi)) ?_) ?_
   · intro s hs
     refine hs.turn (fun _ _ _ _ _=>rfl) fun e j _=>?_
     show decide (j<lo+(hi-lo))=_
     rw [Nat.add_sub_cancel' hlo]
   · intro s hs
     exact hs
theorem step_tri {r:Rn} {st:List Int} (hc:r.c.Ok) (hst:st.length=r.p) {t u:Nat} (hu:u<r.c.k) :
  Tri r st t u (fun s=>s=startS r st t) (plIts r.c r.p t u) (fun s=>s=startS r st (t+1)):=by
 unfold plIts itemsL
 have hnb:(plBs r.c r.p).length=pcnt r.p r.c.bu:=buckets_len _ _
 refine Tri.app (J:=SI r st t (fG r st t u (plBs r.c r.p).length) fun j=>decide (j<(plBs r.c r.p).length)) (Tri.app (comp_tri hst t u) ?_) ?_
 · have e:(plGs r.c r.p).flatMap (groupL (plBs r.c r.p) r.c.k r.c.s t u)=(List.range (pcnt (plBs r.c r.p).length r.c.wi)).flatMap fun i=>groupL (plBs r.c r.p) r.c.k r.c.s t u (blk1 (plBs r.c r.p).length r.c.wi i):=by
    unfold plGs blocksL
    rw [List.flatMap_map]
   rw [e]
   refine Tri.pre (Tri.weak (Tri.range (fun i s=>SI r st t (fG r st t u (min (i*r.c.wi) (plBs r.c r.p).length)) (fun j=>decide (j<min (i*r.c.wi) (plBs r.c r.p).length)) s) _ _ (fun i hi=>?_)) ?_) ?_
   · have hlt:=pcnt_lt hc.wi.1 hi
     have h1:(i+1)*r.c.wi=i*r.c.wi+r.c.wi:=Nat.succ_mul _ _
     unfold blk1
     rw [show min (i*r.c.wi) (plBs r.c r.p).length=i*r.c.wi by omega,show min ((i+1)*r.c.wi) (plBs r.c r.p).length=i*r.c.wi+min r.c.wi ((plBs r.c r.p).length-i*r.c.wi) by omega]
     exact group_tri hc hu (Nat.le_add_right _ _) (by omega)
   · intro s hs
     have h1:=pcnt_cover (plBs r.c r.p).length hc.wi.1
     rw [Nat.min_eq_right h1] at hs
     exact hs
   · intro s hs
     refine hs.turn (fun e j g _ _=>?_) fun e j _=>?_
     · rw [Nat.zero_mul,Nat.zero_min]
     · rw [Nat.zero_mul,Nat.zero_min]
       simp
 · refine Tri.one (by simp [plainIt]) fun s hs=>?_
   have hall:∀ e,e<r.p→s.P[e]?.getD 0=(serS r st (t+1)).1[e]?.getD 0∧s.M[e]?.getD 0=(serS r st (t+1)).2[e]?.getD 0:=fun e he=>by
    obtain ⟨j,hj,hjs⟩:=Is.bucket_ex hc.bu.1 he
    have hjs:Is (plBs r.c r.p) e j:=hjs
    obtain ⟨a,b,k1,k2,k3⟩:=id hjs
    have hJ:=jobOf_at (k:=r.c.k) (s:=r.c.s) (t:=t) k1
    obtain ⟨g,hg⟩:∃ g,Is (segsOf r t j) e g:=by
     unfold segsOf
     rw [hJ]
     exact Is.seg_ex hc.k.1 k2 k3
    obtain ⟨_,h2,h3⟩:=hs.el e j g hjs hg
    rw [if_pos (by rw [hnb];simpa using hj)] at h2 h3
    exact ⟨h2,h3⟩
   have hl:=serS_len r hst (t+1)
   have eP:s.P=(serS r st (t+1)).1:=ext_getD (hs.lP.trans hl.1.symm) fun i hi=>(hall i (by rw [← hs.lP];exact hi)).1
   have eM:s.M=(serS r st (t+1)).2:=ext_getD (hs.lM.trans hl.2.symm) fun i hi=>(hall i (by rw [← hs.lM];exact hi)).2
   show (⟨s.P,s.M,zeroL r.p,s.rcd++[(s.P,s.M)]⟩:St)=startS r st (t+1)
   unfold startS
   rw [eP,eM,hs.rc,List.range_succ (n:=t+1),List.map_append]
   rfl
end Go.Proofs.YtdpojpcoghcieaaGreat
namespace Go.Proofs.YtdpojpcoghcieaaGreat
open Go.RowKit
def Am.st (a:Am):St:=⟨a.P,a.M,a.G,a.rcd⟩
structure DynOk (r:Rn) (st:List Int) (x:Wv):Prop where
 m:∀ (u:Nat) (m:Mc),x.ms[u]?=some m→m.abs.st=doL r st m.t u (startS r st m.t) (m.its.take m.next)
 l:∀ (u:Nat) (l:Ln),x.ls[u]?=some l→∀ g v,(g,v)∈l.q→v=sentV r st u g
theorem exAt_exD {l:List Ex} {dat:List (List Int × List Int)} (h:l.map Ex.nums=dat) (js:List Nat):exAt l js=exD dat js:=by
 unfold exAt exD
 refine List.map_congr_left fun j _=>?_
 rw [← h,List.getElem?_map]
theorem ownA_st {r:Rn} {st:List Int} {f:Mf} {a:Am} {t u:Nat} {x:It} (hf:f.Of r) (hu:f.u=u) (ht:a.t=t) (h3:x.kind≠3) (h4:x.kind≠4):(ownA f a x).st=doS r st t u a.st x:=by
 unfold ownA doS
 rw [if_neg h3,if_neg h4]
 subst hu;subst ht
 split
 · unfold Am.st
   dsimp only
   rw [exAt_exD hf.dat,hf.ns,hf.c,hf.p,hf.ds,hf.n]
 · split
   · rfl
   · split
     · unfold Am.st Mf.ru
       dsimp only
       rw [hf.c,hf.p]
     · unfold Am.st
       dsimp only
       rw [hf.p]
theorem recvA_st {r:Rn} {st:List Int} {a:Am} {t u:Nat} {x:It} (h4:x.kind=4):(recvA a x (sentV r st ((u+r.c.k-1) % r.c.k) (tgOf x.a))).st=doS r st t u a.st x:=by
 unfold doS
 rw [if_neg (by omega),if_pos h4]
 rfl
theorem stepA_st (f:Mf) (a:Am):(stepA f a).st=a.st:=by unfold stepA;split <;> rfl
theorem next_st {r:Rn} {st:List Int} (hst:st.length=r.p) {x:Wv} (ho:x.Ok r) {u:Nat} {m m':Mc} {it:It} (h1:x.ms[u]?=some m) (h2:m.its[m.next]?=some it) (hf:m'.f=m.f) (hm:m.abs.st=doL r st m.t u (startS r st m.t) (m.its.take m.next)) {a:Am} (ha:m'.abs=stepA m.f a) (e1:a.t=m.t) (e2:a.next=m.next)
  (hs:a.st=doS r st m.t u m.abs.st it):m'.abs.st=doL r st m'.t u (startS r st m'.t) (m'.its.take m'.next):=by
 obtain ⟨k1,k2,k3,_⟩:=ho.m u m h1
 have huk:u<r.c.k:=by rw [← ho.lm];exact (List.getElem?_eq_some_iff.1 h1).1
 have ht:m.t<m.f.c.st:=by
  rcases Nat.lt_or_ge m.t m.f.c.st with h7 | h7
  · exact h7
  · obtain ⟨e1,e2⟩:=k1.none_ (Nat.not_lt.2 h7)
    rw [e1] at h2;cases h2
 have hits:m.its=plIts r.c r.p m.t u:=by
  unfold Mc.its itsAt
  rw [if_pos ht,k3.c,k3.p,k2]
 have hdone:doL r st m.t u (startS r st m.t) (m.its.take (m.next+1))=a.st:=by
  rw [take_snoc h2,doL_app,← hm,hs]
  rfl
 rw [ha,stepA_st,← hdone]
 by_cases hl:m.next+1=m.its.length
 · have hstep:stepA m.f a={ a with cnt:=a.cnt+1,next:=0,t:=a.t+1 }:=by
    unfold stepA
    rw [if_pos (by rw [e1,e2];exact hl)]
   rw [hstep] at ha
   have et:m'.t=m.t+1:=(congrArg Am.t ha).trans (by dsimp only;rw [e1])
   have en:m'.next=0:=congrArg Am.next ha
   rw [et,en,List.take_zero,hl,List.take_length,hits]
   exact (step_tri ho.c hst huk _ rfl).2
 · have hstep:stepA m.f a={ a with cnt:=a.cnt+1,next:=a.next+1 }:=by
    unfold stepA
    rw [if_neg (by rw [e1,e2];exact hl)]
   rw [hstep] at ha
   have et:m'.t=m.t:=(congrArg Am.t ha).trans e1
   have en:m'.next=m.next+1:=(congrArg Am.next ha).trans (by dsimp only;rw [e2])
   have ei:m'.its=m.its:=by unfold Mc.its;rw [hf,et]
   rw [et,en,ei]
theorem own_tn (f:Mf) (a:Am) (x:It):(ownA f a x).t=a.t∧(ownA f a x).next=a.next:=by
 unfold ownA
 split
 · exact ⟨rfl,rfl⟩
 · split
   · exact ⟨rfl,rfl⟩
   · split <;> exact ⟨rfl,rfl⟩
theorem Moved.dyn {r:Rn} {st:List Int} (hst:st.length=r.p) {x x':Wv} {u:Nat} (ho:x.Ok r) (hd:DynOk r st x) (h:Moved r x u x'):DynOk r st x':=by
 obtain ⟨m,m',it,h1,h2,h3,h4,h5,h6⟩:=h
 obtain ⟨k1,k2,k3,_⟩:=ho.m u m h1
 have huk:u<r.c.k:=by rw [← ho.lm];exact (List.getElem?_eq_some_iff.1 h1).1
 have hm:=hd.m u m h1
 have hlt:=(List.getElem?_eq_some_iff.1 h1).1
 have mach:m'.abs.st=doL r st m'.t u (startS r st m'.t) (m'.its.take m'.next)→∀ (v:Nat) (n:Mc),x'.ms[v]?=some n→n.abs.st=doL r st n.t v (startS r st n.t) (n.its.take n.next):=fun hq v n hn=>by
  rw [h4] at hn
  by_cases hv:u=v
  · subst hv
    rw [List.getElem?_set_self hlt] at hn
    injection hn with hn
    subst hn
    exact hq
  · rw [List.getElem?_set_ne hv] at hn
    exact hd.m v n hn
 rcases h6 with ⟨n3,n4,e1,ea⟩ | ⟨c3,l,l',e1,e2,e3,_,e4,ea⟩ | ⟨c4,l,l',v,q,e1,e2,e3,_,e4,ea⟩
 · have htn:=own_tn m.f m.abs it
   refine ⟨mach (next_st hst ho h1 h2 h3 hm ea htn.1 htn.2 (ownA_st k3 k2 rfl n3 n4)),fun w l hl=>?_⟩
   rw [e1] at hl
   exact hd.l w l hl
 · refine ⟨mach (next_st hst ho h1 h2 h3 hm ea rfl rfl ?_),fun w n hn g v hg=>?_⟩
   · unfold doS
     rw [if_pos c3]
   · rw [e2] at hn
     by_cases hw:u=w
     · subst hw
       rw [List.getElem?_set_self (List.getElem?_eq_some_iff.1 e1).1] at hn
       injection hn with hn
       subst hn
       rw [e4] at hg
       rcases List.mem_append.1 hg with hg | hg
       · exact hd.l u l e1 g v hg
       · have hg:=List.mem_singleton.1 hg
         injection hg with g1 g2
         subst g1;subst g2
         have ht:m.t<m.f.c.st:=by
          rcases Nat.lt_or_ge m.t m.f.c.st with h7 | h7
          · exact h7
          · obtain ⟨e1,e2⟩:=k1.none_ (Nat.not_lt.2 h7)
            rw [e1] at h2;cases h2
         have hits:m.its=plIts r.c r.p m.t u:=by
          unfold Mc.its itsAt
          rw [if_pos ht,k3.c,k3.p,k2]
         have hs:=(step_tri ho.c hst huk (t:=m.t) _ rfl).1 m.next it (by rw [← hits];exact h2) c3
         rw [← hits,← hm] at hs
         exact hs
     · rw [List.getElem?_set_ne hw] at hn
       exact hd.l w n hn g v hg
 · have hv:=hd.l _ l e1 (tgOf it.a) v (by rw [e2];exact List.mem_cons_self ..)
   refine ⟨mach (next_st hst ho h1 h2 h3 hm ea rfl rfl ?_),fun w n hn g y hg=>?_⟩
   · rw [hv]
     exact recvA_st c4
   · rw [e3] at hn
     by_cases hw:(u+r.c.k-1) % r.c.k=w
     · subst hw
       rw [List.getElem?_set_self (List.getElem?_eq_some_iff.1 e1).1] at hn
       injection hn with hn
       subst hn
       rw [e4] at hg
       exact hd.l _ l e1 g y (by rw [e2];exact List.mem_cons_of_mem _ hg)
     · rw [List.getElem?_set_ne hw] at hn
       exact hd.l w n hn g y hg
theorem RunR.dyn {r:Rn} {st:List Int} (hst:st.length=r.p):∀ (zs:List Int) {x x':Wv} {n:Nat},x.Ok r→DynOk r st x→RunR r x zs n x'→DynOk r st x'
 | [],x,x',n,_,hd,h=>by
   obtain ⟨_,rfl⟩:=h
   exact hd
 | z::zs,x,x',n,ho,hd,⟨b,y,n',h1,h2,_⟩=>by
   refine RunR.dyn hst zs (h1.ok ho) ?_ h2
   rcases h1 with ⟨_,rfl,_⟩ | ⟨_,_,u,_,hm⟩
   · exact hd
   · exact Moved.dyn hst ho hd hm
theorem dyn_end {r:Rn} {st:List Int} {x:Wv} (ho:x.Ok r) (hd:DynOk r st x) {u:Nat} {m:Mc} (hm:x.ms[u]?=some m) (ht:r.c.st≤m.t):m.rcd.map Ex.nums=(List.range (r.c.st+1)).map (serS r st):=by
 obtain ⟨k1,k2,k3,_⟩:=ho.m u m hm
 have h:=hd.m u m hm
 obtain ⟨e1,e2⟩:=k1.none_ (by rw [k3.c];omega)
 have hle:=k1.t
 rw [k3.c] at hle
 have et:m.t=r.c.st:=by omega
 rw [e1,List.take_nil,et] at h
 exact congrArg St.rcd h
theorem dyn_ini {r:Rn} {st:List Int} {x:Wv} (ho:x.Ok r) (hcn:x.count=0) (hm:∀ m∈x.ms,m.abs=⟨st,zeroL r.p,zeroL r.p,[(st,zeroL r.p)],0,0,0,[]⟩) (hl:∀ l∈x.ls,l.q=[]):WorldOk r x∧DynOk r st x:=by
 have hz:∀ (u:Nat) (m:Mc),x.ms[u]?=some m→m.cnt=0∧m.t=0∧m.next=0:=fun u m h=>by
  have:=hm m (List.mem_of_getElem? h)
  exact ⟨congrArg Am.cnt this,congrArg Am.t this,congrArg Am.next this⟩
 have hcu:∀ u,cntU x u=0:=fun u=>by
  unfold cntU
  cases h:x.ms[u]? with
  | none=>rfl
  | some m=>exact (hz u m h).1
 refine ⟨⟨ho,⟨fun u m h=>?_,?_⟩,⟨fun u l h=>?_,fun u _=>?_⟩⟩,⟨fun u m h=>?_,fun u l h g v hg=>?_⟩⟩
 · obtain ⟨e1,e2,e3⟩:=hz u m h
   rw [e1,e2,e3];omega
 · rw [hcn,sumR_congr (g:=fun _=>0) (fun u _=>hcu u),sumR_const]
   omega
 · rw [hl l (List.mem_of_getElem? h),hcu,List.take_zero,sndT_nil,List.drop_nil]
   rfl
 · unfold rcvN
   rw [hcu]
   exact Nat.zero_le _
 · obtain ⟨_,e2,e3⟩:=hz u m h
   rw [hm m (List.mem_of_getElem? h),e2,e3]
   rfl
 · rw [hl l (List.mem_of_getElem? h)] at hg
   cases hg
end Go.Proofs.YtdpojpcoghcieaaGreat
