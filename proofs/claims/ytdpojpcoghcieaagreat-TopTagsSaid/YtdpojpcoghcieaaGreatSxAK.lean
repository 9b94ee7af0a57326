/- A part of the proof of TopTags: Reverse, Shuffle, Buckets. Conditions: none. -/
import Derived.Test.YtdpojpcoghcieaaGreatSxAI
import Derived.Test.YtdpojpcoghcieaaGreatSxAJ
set_option maxHeartbeats 8000000
set_option linter.all false
namespace Go.Proofs.YtdpojpcoghcieaaGreat
open Lib renaming hid → K1
open Go.RowKit
set_option maxRecDepth 100000
open Value renaming int → U, slice → Us
open IntKind renaming i64 → O
open And renaming intro → Xz
open List renaming length_reverse → X0, set_set → X1, getElem?_set_self → X2, length_set → X3, getElem?_set_ne → X4, getElem?_eq_none → X5, append_assoc → X6
section
def Cc (l:List (Nat × Nat)):Nat->List (Nat × Nat)
 | 0=>l
 | k+1=>((Cc l k).set k ((Cc l k)[l.length-1-k]?.getD (0,0))).set (l.length-1-k) ((Cc l k)[k]?.getD (0,0))
theorem Fh (l:List (Nat × Nat)):∀ k,(Cc l k).length=l.length
 | 0=>rfl
 | k+1=>by simp [Cc,Fh l k]
theorem KJ (l:List (Nat × Nat)):∀ k,2*k<=l.length->∀ t,t<l.length->(Cc l k)[t]?=if t<k\/l.length-k<=t then l[l.length-1-t]? else l[t]?
 | 0,_,t,ht=>by rw [if_neg (by omega)];rfl
 | k+1,hk,t,ht=>by
   have ih:=KJ l k (by omega);have hl:=Fh l k;simp only [Cc]
   by_cases h1:t=l.length-1-k
   . subst h1;rw [X2 (by rw [X3,hl];omega),if_pos (by omega),ih k (by omega),if_neg (by omega),show l.length-1-(l.length-1-k)=k by omega];obtain ⟨p,hp⟩:=Au l k (by omega);rw [hp];rfl
   . rw [X4 (by omega)]
     by_cases h2:t=k
     . subst h2;rw [X2 (by rw [hl];omega),if_pos (by omega),ih _ (by omega),if_neg (by omega)];obtain ⟨p,hp⟩:=Au l (l.length-1-t) (by omega);rw [hp];rfl
     . rw [X4 (by omega),ih t ht]
       by_cases h3:t<k\/l.length-k<=t
       . rw [if_pos h3,if_pos (by omega)]
       . rw [if_neg h3,if_neg (by omega)]
theorem Ph (l:List (Nat × Nat)):Cc l (l.length / 2)=l.reverse:=by
 apply List.ext_getElem?;intro t
 by_cases ht:t<l.length
 . rw [KJ l _ (by omega) t ht,List.getElem?_reverse ht]
   by_cases h:t<l.length / 2\/l.length-l.length / 2<=t
   . rw [if_pos h]
   . rw [if_neg h,show l.length-1-t=t by omega]
 . rw [X5 (by rw [Fh];omega),X5 (by rw [X0];omega)]
theorem IV:∀ (l:List (Nat × Nat)) (i x y:Nat),i<l.length->rcells (l.set i (x,y))=((rcells l).set (i*2) (U O x)).set (i*2+1) (U O y)
 | [],i,_,_,h=>by simp at h
 | p::r,0,x,y,_=>by simp [rcells]
 | p::r,i+1,x,y,h=>by
   have ih:=IV r i x y (by simpa using h);have e:∀ (q:Nat × Nat) (s:List (Nat × Nat)),rcells (q::s)=U O q.1::U O q.2::rcells s:=fun q s=>by simp [rcells]
   rw [List.set_cons_succ,e,e,ih,show (i+1)*2=i*2+1+1 by omega];rfl
def ownR (base:Nat) (l:List (Nat × Nat)) (A:Option Addr) (c:Nat):Ch:=.own base 47 2 (Us A l.length c) l.length (rcells l)
theorem Mem.ownA {W:World} {L:List Ch} (h:Mem W L) (i:Nat) {base e size n c:Nat} {A:Option Addr} {xs:List Value} (hi:L[i]?=some (.own base e size (Us A n c) n xs)) (h0:0<n):∃ g,A=some ⟨g,0,none⟩:=by
 rcases (h.own i hi).2 with ⟨_,h1⟩ | ⟨g,cap,cur,hv,_⟩
 . omega
 . injection hv with h1;exact ⟨g,h1⟩
theorem Mem.ownR2 {W:World} {L:List Ch} (h:Mem W L) (ix:Nat) {base g c i x y:Nat} {l:List (Nat × Nat)} (hx:L[ix]?=some (ownR base l (some ⟨g,0,none⟩) c)) (hi:l[i]?=some (x,y)) :
  W.cell? ⟨g,i*2,none⟩=some (U O x)/\W.cell? ⟨g,i*2+1,none⟩=some (U O y):=by
 have ho:=h.own ix hx;have hlt:=(List.getElem?_eq_some_iff.1 hi).1;exact ⟨(ho.cellAt _ (by omega)).trans (Ed l i _ hi).1,(ho.cellAt _ (by omega)).trans (Ed l i _ hi).2⟩
theorem Mem.ownF {W:World} {L:List Ch} (h:Mem W L) (ix:Nat) {base e size n c g:Nat} {xs:List Value} (hx:L[ix]?=some (.own base e size (Us (some ⟨g,0,none⟩) n c) n xs)) (j:Nat):W.frozen? ⟨g,j,none⟩=false:=(h.own ix hx).frozenAt j
theorem Pi (w:World) (L:List Ch) (h:Mem w L) (l:List (Nat × Nat)) (A:Option Addr) (c base i:Nat) (hi:L[i]?=some (ownR base l A c)) (hl:l.length<=1000000) :
  Calls Tryz.prog 40 #[Us A l.length c] w fun e w'=>e=.returned (.tuple #[])/\Mem w' (L.set i (ownR base l.reverse A c)):=by
 have H0:=K1 h;have HI:=K1 hi
 obtain ⟨n,hn⟩:∃ n,n=l.length:=⟨_,rfl⟩
 rw [<- hn] at hl ⊢;have HN:=K1 hn;clear h hi hn;go_enter Tryz.func40,Tryz.ntmps40;go_wp2_with fail
 go_loopw [2,3] (fun i2 i3 wr=>∃ k:Nat,2*k<=n/\i2=U O k/\i3=U O ((n:Int)-1-k)/\Hid (Mem wr (L.set i (ownR base (Cc l k) A c)))) (fun i2 _ _=>n-(intOf i2).toNat)
 case atStart=>exact ⟨0,by omega,rfl,by go_num,K1 (by rw [show Cc l 0=l from rfl,Dv HI.out];exact H0.out)⟩
 case round =>
  clear H0;obtain ⟨k,hk,rfl,rfl,HM⟩:=hrel
  by_cases hlt:(k:Int)<(n:Int)-1-k
  . obtain ⟨m,hm⟩:∃ m:Nat,m=n-1-k:=⟨_,rfl⟩
    have hmi:(n:Int)-1-k=(m:Int):=by omega
    rw [hmi] at hlt ⊢;have hml:m<n:=by omega
    have hlen:(Cc l k).length=n:=by rw [Fh,HN.out]
    obtain ⟨p,hp⟩:=Au (Cc l k) k (by omega);obtain ⟨q,hq⟩:=Au (Cc l k) m (by omega);obtain ⟨px,py⟩:=p;obtain ⟨qx,qy⟩:=q;have hat:=AU (d:=ownR base (Cc l k) A c) HI.out;obtain ⟨g,rfl⟩:=HM.out.ownA i hat (by omega);have HNEXT:Hid (Cc l (k+1)=((Cc l k).set k (qx,qy)).set m (px,py)):=K1 (by simp only [Cc];rw [<- HN.out,<- hm,hq,hp];rfl);have HPQ:=K1 (Xz hp (Xz hq hlen));have HM2:=K1 (Xz hm hmi);have HAT:=K1 hat;clear hm hmi hp hq hat hlen;go_wp2_with fail;obtain ⟨k1,k2⟩:=HM.out.ownR2 i HAT.out HPQ.out.1;obtain ⟨k3,k4⟩:=HM.out.ownR2 i HAT.out HPQ.out.2.1;have kf:=HM.out.ownF i HAT.out
    have hne1:¬ k=m:=by omega
    go_region
    have HF:=K1 (show Mem ((((wr.setCell ⟨g,k*2,none⟩ (U O qx)).setCell ⟨g,k*2+1,none⟩ (U O qy)).setCell ⟨g,m*2,none⟩ (U O px)).setCell ⟨g,m*2+1,none⟩ (U O py)).drew (L.set i (ownR base (Cc l (k+1)) (some ⟨g,0,none⟩) c)) by
     have e1:=HNEXT.out;have h1:=((((HM.out.setOwn (j:=k*2) HAT.out (U O qx)).setOwn (j:=k*2+1) (AU HAT.out) (U O qy)).setOwn (j:=m*2) (AU (AU HAT.out)) (U O px)).setOwn (j:=m*2+1) (AU (AU (AU HAT.out))) (U O py)).drew;rw [<- IV _ _ _ _ (by rw [HPQ.out.2.2];omega),<- IV _ _ _ _ (by rw [X3,HPQ.out.2.2];omega),<- e1] at h1;simp only [X1] at h1;unfold ownR;rw [show (Cc l (k+1)).length=(Cc l k).length by rw [Fh,Fh]]
     exact h1)
    obtain ⟨W2,hW2⟩:∃ W2,W2=((((wr.setCell ⟨g,k*2,none⟩ (U O qx)).setCell ⟨g,k*2+1,none⟩ (U O qy)).setCell ⟨g,m*2,none⟩ (U O px)).setCell ⟨g,m*2+1,none⟩ (U O py)).drew:=⟨_,rfl⟩
    rw [<- hW2] at HF ⊢;clear hW2 k1 k2 k3 k4 kf HM;go_wp2_with fail;go_roundw
    case rel=>exact ⟨k+1,by have:=HM2.out.1;omega,by go_num,congrArg (Value.int .i64) (by have:=HM2.out.2;omega),HF⟩
    case measure=>simp [intOf];omega
  . have hke:k=n / 2:=by omega
    have HF:=K1 HM.out;clear HM;go_wp2_with fail
    go_end0
    refine ⟨rfl,?_⟩;have h1:=HF.out;rw [hke,HN.out,Ph] at h1;exact h1
def Ej (ps:List Nat) (i j:Nat):List Nat:=(ps.set i (ps[j]?.getD 0)).set j (ps[i]?.getD 0)
theorem Pj (ps:List Nat) (i j:Nat):(Ej ps i j).length=ps.length:=by simp [Ej]
theorem EI (l:List Nat) (i x:Nat):Ah (l.set i x)=(Ah l).set i (U O x):=by simp [Ah,List.map_set]
theorem Pk (w:World) (L:List Ch) (h:Mem w L) (bp c base n i j ib io:Nat) (A:Option Addr) (ps:List Nat) (hb:L[ib]?=some (.obj bp (.cells #[Us A n c] 22 (0,0)))) (ho:L[io]?=some (.own base 3 1 (Us A n c) n (Ah ps))) (hn:ps.length=n) (hi:i<n) (hj:j<n) (hl:n<=1000000) :
  Calls Tryz.prog 140 #[U O i,U O j,.pointer (some ⟨bp,0,none⟩)] w fun e w'=>e=.returned (.tuple #[])/\Mem w' (L.set io (.own base 3 1 (Us A n c) n (Ah (Ej ps i j)))):=by
 obtain ⟨g,rfl⟩:=h.ownA io ho (by omega);obtain ⟨x,hx⟩:=Au ps i (by omega);obtain ⟨y,hy⟩:=Au ps j (by omega);have hc1:w.cell? ⟨g,i,none⟩=some (U O x):=((h.own io ho).cellAt i (by omega)).trans (by simp [Ah,hx]);have hc2:w.cell? ⟨g,j,none⟩=some (U O y):=((h.own io ho).cellAt j (by omega)).trans (by simp [Ah,hy]);have hc0:w.cell? ⟨bp,0,none⟩=some (Us (some ⟨g,0,none⟩) n c):=h.cell ib 0 hb rfl;have kf:=h.ownF io ho;have HSW:Hid (Ej ps i j=(ps.set i y).set j x):=K1 (by simp [Ej,hx,hy]);have HF:=K1 (((h.setOwn (j:=i) ho (U O y)).setOwn (j:=j) (AU ho) (U O x)).drew)
 have hbg:¬ bp=g:=fun e=>by
  have hne:=Dl ho hb (by simp);exact h.sep ib io _ _ (Ne.symm hne) hb ho trivial bp rfl (by subst e;rfl)
 clear h hb ho hx hy
 by_cases hij:i=j
 . subst hij;have hxy:x=y:=by rw [hc1] at hc2;injection hc2 with e;injection e with _ e;omega
   subst hxy;go_enter Tryz.func140,Tryz.ntmps140;go_wp2_with fail
   go_region
   go_end0
   refine ⟨rfl,?_⟩;have h1:=HF.out;rw [X1] at h1;rw [HSW.out,EI,EI];exact h1
 . go_enter Tryz.func140,Tryz.ntmps140;go_wp2_with fail
   go_region
   go_end0
   refine ⟨rfl,?_⟩;have h1:=HF.out;rw [X1] at h1;rw [HSW.out,EI,EI];exact h1
theorem Mem.map {W:World} {L L':List Ch} (h:Mem W L) (f:Nat->Nat) (hf:∀ i c,L'[i]?=some c->L[f i]?=some c) (hi:∀ i j,i<L'.length->j<L'.length->f i=f j->i=j):Mem W L' :=
 ⟨fun i c hc=>h.holds _ c (hf i c hc),fun i j c d hne hc hd=>h.sep _ _ c d (fun e=>hne (hi i j (List.getElem?_eq_some_iff.1 hc).1 (List.getElem?_eq_some_iff.1 hd).1 e)) (hf i c hc) (hf j d hd)⟩
theorem Mem.one {W:World} {P Q:List Ch} {c:Ch} (h:Mem W (P++Q)) (j:Nat) (hj:Q[j]?=some c):Mem W (P++[c]):=by
 refine h.map (fun i=>if i<P.length then i else P.length+j) (fun i d hd=>?_) (fun i k hi hk e=>?_)
 . rcases FC hd with ⟨h1,h2⟩ | ⟨h1,rfl⟩
   . rw [if_pos h1,List.getElem?_append_left h1];exact h2
   . rw [if_neg (by omega),List.getElem?_append_right (by omega),Nat.add_sub_cancel_left];exact hj
 . simp at hi hk
   split at e <;> split at e <;> omega
def bndL (n k:Nat):List Nat:=(List.range k).map fun i=>n-i
theorem Pm (n k:Nat):(bndL n k).length=k:=by simp [bndL]
theorem Pn (n k:Nat):bndL n (k+1)=bndL n k++[n-k]:=by simp [bndL,List.range_succ]
def BM (n:Nat) (js:List Nat):Nat->List Nat
 | 0=>List.range n
 | k+1=>Ej (BM n js k) (n-1-k) (js[k]?.getD 0)
theorem GZ (n:Nat) (js:List Nat):∀ k,(BM n js k).length=n
 | 0=>by simp [BM]
 | k+1=>by rw [BM,Pj,GZ n js k]
def Cd (ds:List Nat) (at_ n:Nat):List Nat:=BM n (BT ds (bndL n (n-1)) at_ (n-1)) (n-1)
theorem Po {ds:List Nat} {at_ n k m:Nat} (hk:k<m) (hm:m<n):∃ v,(BT ds (bndL n m) at_ m)[k]?=some v/\v<n:=by
 refine ⟨(ds[at_+k]?.getD 0) % (n-k),by simp [BT,bndL,hk],Nat.lt_of_lt_of_le (Nat.mod_lt _ (by omega)) (by omega)⟩
theorem Pp (w:World) (L:List Ch) (h:Mem w L) (bs cd at_ n ib ir:Nat) (Ad:Option Addr) (ds:List Nat) (hb:L[ib]?=some (strB bs Ad ds.length cd at_)) (hr:L[ir]?=some (.rd Ad (Bq ds)))
  (hn:1<=n/\n<=1000) (hat:at_+(n-1)<=ds.length) (hl:ds.length<=1000000000) :
  Calls Tryz.prog 106 #[U O n,.pointer (some ⟨bs,0,none⟩)] w fun e w'=>∃ A c,e=.returned (.tuple #[Us A n c,.bool true])/\n<=c/\Mem w' (L.set ib (strB bs Ad ds.length cd (at_+(n-1)))++[.own w.heap.size 3 1 (Us A n c) n (Ah (Cd ds at_ n))]):=by
 obtain ⟨m,hm⟩:∃ m,m=n-1:=⟨_,rfl⟩
 unfold Cd;rw [<- hm] at hat ⊢;have HB:=K1 hb;have HR:=K1 hr;have HMN:=K1 (show m+1=n by omega);have hmn:m<n:=by omega
 have hm1:∀ k,k<m->(1:Int)<(n:Int)-k:=fun k hk=>by omega
 have HM0:=K1 (h.add (c:=.own w.heap.size 3 1 (Us none 0 0) 0 (Ah (bndL n 0))) ⟨Bh _ _ _ _,Nat.le_refl _⟩ (fun _ _ _ _ g hg=>by cases hg));have HAT:=K1 (Xz hat hl);have HM1:=K1 hm1;clear h hb hr hat hl hm hm1;go_enter Tryz.func106,Tryz.ntmps106;go_wp2_with fail
 go_loopw [6,7] (fun s6 i wr=>∃ (k:Nat) (A:Option Addr) (c:Nat),k<=m/\s6=Us A k c/\i=U O ((n:Int)-k)/\Hid (Mem wr (L++[.own w.heap.size 3 1 (Us A k c) k (Ah (bndL n k))]))) (fun _ i _=>(intOf i).toNat)
 case atStart=>exact ⟨0,none,0,Nat.zero_le _,rfl,by go_num,HM0⟩
 case round =>
  clear HM0;obtain ⟨k,A,c,hk,rfl,rfl,HM⟩:=hrel
  by_cases hlt:k<m
  . have h1k:=HM1.out k hlt
    obtain ⟨z,hz⟩:∃ z:Nat,z=n-k:=⟨_,rfl⟩
    have hzi:(n:Int)-k=(z:Int):=by omega
    have HS:Hid (Ah (bndL n (k+1))=Ah (bndL n k)++[U O z]):=K1 (by rw [Pn,<- hz];simp [Ah]);rw [hzi] at h1k ⊢;have hz2:z<=1000:=by omega
    have HZ:=K1 (Xz hz hzi);clear hz hzi;have HM3:=K1 (HM.out.alloc (.cells #[U O z] 3));clear HM
    go_wp2_with (at_builtin;refine AQ rfl _ _ 22 rfl HM3.out L.length EC (at_l Bc) rfl _ 1 _ [U O z] rfl (HM3.out.box _ Bc) rfl (by intro u hu;simp at hu;subst hu;rfl) (by omega) ?_;intro A' c' W4 hM4)
    have h5:=Mem.setl hM4 Bc;rw [Ff] at h5;have HM5:=K1 h5;clear h5 hM4 HM3;go_wp2_with fail;go_roundw
    case rel =>
     refine ⟨k+1,A',c',by omega,rfl,congrArg (Value.int .i64) (by have:=HZ.out.2;omega),?_⟩;rw [HS.out];exact HM5
    case measure=>simp [intOf];omega
  . have hkm:k=m:=by omega
    subst hkm;have hnk:(n:Int)-k=1:=by have:=HMN.out;omega
    rw [hnk];clear hnk;have h5:=HM.out.freeze Bc;rw [Ff] at h5;have hs1:w.heap.size<=wr.heap.size:=(HM.out.holds _ _ Bc).2;have HM2:=K1 h5;have hcap:=Be (HM.out.own _ Bc);clear h5 HM;go_wp2_with fail;refine (Pd wr _ HM2.out bs cd at_ k c ib ir L.length Ad A ds (bndL n k) (at_l HB.out) (at_l HR.out) Bc (Pm n k).symm hcap (by omega) HAT.out.1 (fun z hz=>?_) HAT.out.2).mono ?_
    . obtain ⟨i,hi,rfl⟩:=List.mem_map.1 hz;have:=List.mem_range.1 hi;omega
    rintro e w2 ⟨A2,c2,rfl,hc2,hm2⟩;have h5:=hm2.freeze Bc;have hs2:wr.heap.size<=w2.heap.size:=(hm2.holds _ _ Bc).2;rw [Ff,DO HB.out] at h5;have HM3:=K1 h5;have CI:=K1 (fun W=>Pf n W (by omega));clear h5 hm2 HM2;have HJS:Hid (∀ i,i<k->∃ v,(BT ds (bndL n k) at_ k)[i]?=some v/\v<n):=K1 (fun i hi=>Po hi hmn);have HJL:=K1 (OP ds (bndL n k) at_ k);generalize hjs:BT ds (bndL n k) at_ k=js at *;have HJE:=K1 hjs;clear hjs;go_wp2_with fail
    (with_reducible refine (CI.out _).mono ?_)
    rintro e w3 ⟨A3,c3,rfl,hv3,hb3⟩;have hm3:=HM3.out.push hb3 (c:=.own w.heap.size 3 1 (Us A3 n c3) n (Ah (BM n js 0))) ⟨DG (by omega) hv3,Nat.le_trans (by omega) hb3.size⟩ (fun g hg=>(hv3.lt g hg).1);have HM4:=K1 (hm3.alloc (.cells #[Us A3 n c3] 22));have HXL:=K1 (Xz hs1 hs2);clear hm3 hv3 hb3 HM3 hs1 hs2;go_wp2_with fail;refine A9 fun W0 hW=>?_;replace HM4:=K1 (hW.out.symm ▸ HM4.out);clear hW;generalize w3.heap.size=bp at *;have hjl2:js.length=k:=HJL.out
    obtain ⟨X,hX⟩:∃ X,X=L.set ib (strB bs Ad ds.length cd (at_+k))++[Ch.rd A (Ah (bndL n k))]++[Ch.rd A2 (Ah js)]:=⟨_,rfl⟩
    have HX2:=K1 (show X[(L.set ib (strB bs Ad ds.length cd (at_+k))++[Ch.rd A (Ah (bndL n k))]).length]?=some (.rd A2 (Ah js)) by rw [hX];exact Bc);rw [<- hX] at HM4;have HX:=K1 hX;clear hX hjl2
    go_loopw [46] (fun i wr=>∃ q:Nat,q<=k/\i=U O q/\Hid (Mem wr (X++[.own w.heap.size 3 1 (Us A3 n c3) n (Ah (BM n js q))]++[.obj bp (.cells #[Us A3 n c3] 22 (0,0))]))) (fun i _=>k-(intOf i).toNat)
    case atStart=>exact ⟨0,Nat.zero_le _,rfl,HM4⟩
    case round =>
     clear HM4;obtain ⟨q,hq,rfl,HM⟩:=hrel
     by_cases hltq:q<k
     . obtain ⟨v,hv,hvn⟩:=HJS.out q hltq;obtain ⟨b2,o2,rfl⟩:=HM.out.rdA _ (at_l (at_l HX2.out)) (by simp [Ah];have:=HJL.out;omega);have cv:=HM.out.rdAt _ (at_l (at_l HX2.out)) (j:=q) (u:=U O v) (by simp [Ah,hv])
       obtain ⟨z,hz⟩:∃ z:Nat,z=n-1-q:=⟨_,rfl⟩
       have e1:(n:Int)-1-q=(z:Int):=by omega
       have hzn:z<n:=by omega
       have HPS:Hid (BM n js (q+1)=Ej (BM n js q) z v):=K1 (by simp only [BM];rw [<- hz,hv];rfl);clear hz hv;go_wp2_with fail;refine (Pk wr _ HM.out bp c3 w.heap.size n z v (X++[Ch.own w.heap.size 3 1 (Us A3 n c3) n (Ah (BM n js q))]).length X.length A3 (BM n js q) Bc (at_l Bc) (GZ n js q) hzn hvn (by omega)).mono ?_;rintro e w4 ⟨rfl,hm4⟩;rw [DO Bc,Ff,<- HPS.out] at hm4;have HM5:=K1 hm4;clear hm4 HM cv;go_wp2_with fail;go_roundw
       case rel=>exact ⟨q+1,by omega,by go_num,HM5⟩
       case measure=>simp [intOf];omega
     . have hqk:q=k:=by omega
       subst hqk;have cb:=HM.out.cell _ 0 Bc rfl;have hf:=HM.out.left;rw [HX.out,X6,X6] at hf;have HF:=K1 (hf.one 2 rfl);clear HM hf;go_wp2_with fail
       go_ret2
       rw [HJE.out];exact ⟨A3,c3,rfl,Be (HF.out.own _ Bc),HF.out⟩
def Cw (p s:Nat):List (Nat × Nat):=(Bd p s).reverse
theorem Pq (p s:Nat):(Cw p s).length=pcnt p s:=by rw [Cw,X0,DN]
theorem Pr (p s:Nat) (w:World) (hp:p<=1000000) (hs:1<=s/\s<=1048576) :
  Calls Tryz.prog 14 #[U O p,U O s] w fun e w'=>∃ A c,e=.returned (Us A (Cw p s).length c)/\OwnR w' w.heap.size (Us A (Cw p s).length c) (Cw p s)/\(Cw p s).length<=c/\Below w.heap.size w w':=by
 have C:=K1 (GJ p s w (by omega) hs);have HLN:=K1 (show (Bd p s).length<=1000000 by rw [DN];have:=Cm p s;omega);have HLR:Hid ((Cw p s).length=(Bd p s).length):=K1 (by rw [Cw,X0]);have HR:Hid (Cw p s=(Bd p s).reverse):=K1 rfl;generalize Cw p s=bs at *;generalize Bd p s=bl at *;rw [HLR.out];go_enter Tryz.func14,Tryz.ntmps14;go_wp2_with fail
 (with_reducible refine C.out.mono ?_)
 rintro e w1 ⟨v,rfl,hv,hb⟩;obtain ⟨A,c,rfl,hc,hm⟩:=(Mem.start w).call_own hb hv;have HM:=K1 hm;clear hm hv hb;go_wp2_with fail;refine (Pi w1 _ HM.out bl A c w.heap.size 1 rfl HLN.out).mono ?_;rintro e w2 ⟨rfl,hm2⟩;have HM2:=K1 hm2;clear hm2 HM;go_wp2_with fail;go_ret;have ho:=HM2.out.own 1 rfl;rw [<- HR.out,HLR.out] at ho;exact ⟨A,c,rfl,by unfold OwnR;rw [HLR.out];exact ho,hc,HM2.out.bel 0 rfl⟩
theorem Ps (p s:Nat) (w:World) (hp:p<=1000000) (hs:1<=s/\s<=1048576) :
  Calls Tryz.prog 107 #[U O p,U O s] w fun e w'=>∃ A c,e=.returned (Us A (Bd p s).length c)/\OwnR w' w.heap.size (Us A (Bd p s).length c) (Bd p s)/\(Bd p s).length<=c/\Below w.heap.size w w':=by
 have C:=K1 (GJ p s w (by omega) hs);go_enter Tryz.func107,Tryz.ntmps107;go_wp2_with fail
 (with_reducible refine C.out.mono ?_)
 rintro e w1 ⟨v,rfl,hv,hb⟩;obtain ⟨A,c,rfl⟩:=DF hv;have H:=K1 (Xz hv hb);clear hv hb;go_wp2_with fail;go_ret;exact ⟨A,c,rfl,H.out.1,Be H.out.1,H.out.2⟩
end
end Go.Proofs.YtdpojpcoghcieaaGreat
