/- A part of the proof of TopTags: Front, CountP, ItsP, ConfNeed, ConfNeedA, ConfInput. Conditions: none. -/
import Derived.Test.YtdpojpcoghcieaaGreatSxAL
import Derived.Test.YtdpojpcoghcieaaGreatSxAE
set_option maxHeartbeats 8000000
set_option linter.all false
namespace Go.Proofs.YtdpojpcoghcieaaGreat
open Go.RowKit
open Value renaming int → U, slice → Us
open IntKind renaming i64 → O
open List renaming append_assoc → Yq, length_append → Yr, mem_of_getElem? → Yu, getElem?_eq_getElem → Yv, getElem?_eq_none → Yw, perm_append_comm → Yx, set_set → Yy, range_succ → Y0, flatMap_append → Y1
open Nat renaming le_refl → Ys, succ_mul → Yz, min_eq_right → Y2
open Below renaming refl → Yt
section
namespace Mem
variable {W W':World} {X R:List Ch}
theorem fA {c:Ch} (h:Mem W ((X++R)++[c])):Mem W ((X++[c])++R):=h.perm (by
 rw [Yq,Yq]
 exact List.Perm.append_left X Yx)
theorem fB {Y:List Ch} (h:Mem W ((X++R)++Y)):Mem W ((X++Y)++R):=h.perm (by
 rw [Yq,Yq]
 exact List.Perm.append_left X Yx)
theorem fS {i:Nat} {c d:Ch} (h:Mem W ((X++R).set i c)) (hi:X[i]?=some d):Mem W (X.set i c++R):=by
 rw [DO hi] at h;exact h
theorem fS2 {o i:Nat} {x y c d:Ch} (h:Mem W (two (X++R) o i x y)) (ho:X[o]?=some c) (hi:X[i]?=some d):Mem W ((X.set o x).set i y++R):=by
 unfold two at h;rw [DO ho] at h;have hx:∃ e,(X.set o x)[i]?=some e:=Au _ i (by rw [List.length_set];exact (List.getElem?_eq_some_iff.1 hi).1);obtain ⟨e,he⟩:=hx;rw [DO he] at h;exact h
theorem sub_ {L L':List Ch} (h:Mem W L) (hs:L'.Sublist L):Mem W L':=by
 induction hs with
 | slnil=>exact h
 | cons a _ ih=>exact ih (cons_iff.1 h).2.1
 | cons_cons a hs ih =>
   obtain ⟨h1,h2,h3⟩:=cons_iff.1 h;exact cons_iff.2 ⟨h1,ih h2,fun d hd=>h3 d (hs.subset hd)⟩
theorem mid {Y:List Ch} (h:Mem W ((X++Y)++R)):Mem W (X++R):=h.sub_ (by
 rw [Yq]
 exact List.Sublist.append_left (List.sublist_append_right Y R) X)
theorem swap {Y:List Ch} (h:Mem W (X++(Y++R))):Mem W (Y++(X++R)):=h.perm (by
 rw [<- Yq,<- Yq]
 exact List.Perm.append_right R Yx)
section
variable {L:List Ch} {g i:Nat} {t:TypeId}
theorem set2 {a0 a1:Value} (h:Mem W L) (hi:L[i]?=some (.obj g (.cells #[a0,a1] t (0,0)))) (v0 v1:Value) :
  Mem ((W.setCell ⟨g,0,none⟩ v0).setCell ⟨g,1,none⟩ v1) (L.set i (.obj g (.cells #[v0,v1] t (0,0)))):=by
 have h1:=(h.set (j:=0) hi v0).set (j:=1) (AU hi) v1;simp only [Yy] at h1;exact h1
theorem set6 {a0 a1 a2 a3 a4 a5:Value} (h:Mem W L) (hi:L[i]?=some (.obj g (.cells #[a0,a1,a2,a3,a4,a5] t (0,0)))) (v0 v1 v2 v3 v4 v5:Value) :
  Mem ((((((W.setCell ⟨g,0,none⟩ v0).setCell ⟨g,1,none⟩ v1).setCell ⟨g,2,none⟩ v2).setCell ⟨g,3,none⟩ v3).setCell ⟨g,4,none⟩ v4).setCell ⟨g,5,none⟩ v5) (L.set i (.obj g (.cells #[v0,v1,v2,v3,v4,v5] t (0,0)))):=by
 have h1:=(h.set (j:=0) hi v0).set (j:=1) (AU hi) v1;have h2:=(h1.set (j:=2) (AU (AU hi)) v2).set (j:=3) (AU (AU (AU hi))) v3;have h3:=(h2.set (j:=4) (AU (AU (AU (AU hi)))) v4).set (j:=5) (AU (AU (AU (AU (AU hi))))) v5;simp only [Yy] at h3;exact h3
theorem setOwn6 {base e size n cap k:Nat} {xs:List Value} (h:Mem W L) (hi:L[i]?=some (.own base e size (Us (some ⟨g,0,none⟩) n cap) n xs)) (v0 v1 v2 v3 v4 v5:Value) :
  Mem ((((((W.setCell ⟨g,k,none⟩ v0).setCell ⟨g,k+1,none⟩ v1).setCell ⟨g,k+2,none⟩ v2).setCell ⟨g,k+3,none⟩ v3).setCell ⟨g,k+4,none⟩ v4).setCell ⟨g,k+5,none⟩ v5)
   (L.set i (.own base e size (Us (some ⟨g,0,none⟩) n cap) n ((((((xs.set k v0).set (k+1) v1).set (k+2) v2).set (k+3) v3).set (k+4) v4).set (k+5) v5))):=by
 have h1:=(h.setOwn (j:=k) hi v0).setOwn (j:=k+1) (AU hi) v1;have h2:=(h1.setOwn (j:=k+2) (AU (AU hi)) v2).setOwn (j:=k+3) (AU (AU (AU hi))) v3;have h3:=(h2.setOwn (j:=k+4) (AU (AU (AU (AU hi)))) v4).setOwn (j:=k+5) (AU (AU (AU (AU (AU hi))))) v5;simp only [Yy] at h3;exact h3
end
end Mem
end
section
open Lib renaming hid → K1
def sumR (f:Nat->Nat):Nat->Nat
 | 0=>0
 | n+1=>sumR f n+f n
theorem DW {f g:Nat->Nat}:∀ {n:Nat},(∀ i,i<n->f i=g i)->sumR f n=sumR g n
 | 0,_=>rfl
 | n+1,h=>by rw [sumR,sumR,DW (fun i hi=>h i (by omega)),h n (by omega)]
theorem Jc (f g:Nat->Nat):∀ n,sumR (fun i=>f i+g i) n=sumR f n+sumR g n
 | 0=>rfl
 | n+1=>by simp only [sumR];rw [Jc f g n];omega
theorem Fj (c:Nat):∀ n,sumR (fun _=>c) n=n*c
 | 0=>by simp [sumR]
 | n+1=>by rw [sumR,Fj c n,Yz]
theorem La (c:Nat) (f:Nat->Nat):∀ n,sumR (fun i=>c*f i) n=c*sumR f n
 | 0=>by simp [sumR]
 | n+1=>by simp only [sumR];rw [La c f n,Nat.mul_add]
theorem Lb (f:Nat->Nat->Nat) (m:Nat):∀ n,sumR (fun i=>sumR (fun j=>f i j) m) n=sumR (fun j=>sumR (fun i=>f i j) n) m
 | 0=>by
   simp only [sumR]
   induction m with
   | zero=>rfl
   | succ m ih=>simp only [sumR];omega
 | n+1=>by simp only [sumR];rw [Lb f m n,<- Jc]
theorem Lc (f:Nat->Nat) (n:Nat):∀ m,sumR f (n+m)=sumR f n+sumR (fun i=>f (n+i)) m
 | 0=>by simp [sumR]
 | m+1=>by rw [<- Nat.add_assoc,sumR,Lc f n m,sumR];omega
theorem Fk {α:Type} (f:Nat->List α):∀ n,((List.range n).flatMap f).length=sumR (fun i=>(f i).length) n
 | 0=>rfl
 | n+1=>by rw [Y0,Y1,Yr,Fk f n];simp [sumR]
def Jd (j:Jb) (i:Nat):Nat:=(Bj j.chunk ((B1 j)[i]?.getD (0,0))).length
theorem Ld (j:Jb) (ph r:Nat) (xs ys:List (Nat × Nat)):∀ n,(BU j ph r xs ys n).length=min n xs.length+min n ys.length
 | 0=>by simp [BU]
 | n+1=>by
   rw [FR,Yr,Ld j ph r xs ys n];unfold Dz
   rcases Nat.lt_or_ge n xs.length with h | h <;> rcases Nat.lt_or_ge n ys.length with k | k
   . rw [Yv h,Yv k];simp;omega
   . rw [Yv h,Yw k];simp;omega
   . rw [Yw h,Yv k];simp;omega
   . rw [Yw h,Yw k];simp;omega
theorem Le (j:Jb) (u ph r:Nat):(Ca j u ph r).length=Jd j (segS j.workers u ph r)+Jd j (segR j.workers u ph r):=by
 unfold Ca Jd;rw [Ld];rw [Y2 (Nat.le_max_left _ _),Y2 (Nat.le_max_right _ _)]
theorem Lf (bs:List (Nat × Nat)) (k s t w q b:Nat):(rndB bs k s t w q b).length=(Ca (EH bs k s t b) w (q / (k-1)) (q % (k-1))).length:=by simp [rndB]
def Hm (bs:List (Nat × Nat)) (k s t w b:Nat):Nat:=2+sumR (fun q=>(rndB bs k s t w q b).length) (2*(k-1))
theorem PR (bs:List (Nat × Nat)) (k s t w:Nat) (g:Nat × Nat):(CJ bs k s t w g).length=sumR (fun i=>Hm bs k s t w (g.1+i)) (g.2-g.1):=by
 unfold CJ DH Cn BV Hm;rw [Yr,Yr,Co,Co,Fk,DW (g:=fun q=>sumR (fun i=>(rndB bs k s t w q (g.1+i)).length) (g.2-g.1)) (fun q _=>Fk _ _),Lb,Jc,Fj];omega
theorem PT {α:Type} (F:Nat × Nat->List α) (f:Nat->Nat) (hF:∀ g,(F g).length=sumR (fun i=>f (g.1+i)) (g.2-g.1)) (n s:Nat) (hs:1<=s):((Bd n s).flatMap F).length=sumR f n:=by
 have key:∀ k,k<=pcnt n s->(((List.range k).map (blk1 n s)).flatMap F).length=sumR f (min (k*s) n):=by
  intro k
  induction k with
  | zero=>intro _;simp [sumR]
  | succ k ih =>
    intro hk;have hlt:=EB hs (show k<pcnt n s by omega);rw [Y0,List.map_append,Y1,Yr,ih (by omega)];simp only [List.map_cons,List.map_nil,List.flatMap_cons,List.flatMap_nil,List.append_nil];rw [hF];unfold blk1;dsimp only;rw [Nat.min_eq_left (Nat.le_of_lt hlt),Nat.add_sub_cancel_left,<- Lc]
    congr 1
    rw [Yz];omega
 have h:=key (pcnt n s) (Ys _);rw [Bd,h]
 congr 1
 unfold pcnt
 split
 . omega
 . have h1:=Nat.div_add_mod (n-1) s;have h2:=Nat.mod_lt (n-1) hs;rw [Yz,Nat.mul_comm];omega
theorem Lg (c:Kf) (hc:c.Ok) (p t w:Nat):(AS c p t w).length=c.mi+1+sumR (Hm (plBs c p) c.k c.s t w) (plBs c p).length:=by
 unfold AS Cv plGs;rw [Yr,Yr,Co,PT _ _ (PR (plBs c p) c.k c.s t w) _ _ hc.wi.1];simp;omega
structure AcOk (p nb k t:Nat) (a:Ac):Prop where
 step:a.step=t
 bucket:a.bucket<nb
 phase:a.phase<=1
 round:a.round<k
 chunk:a.chunk<=1000
 lt:a.lo<a.hi
 hi:a.hi<=p
def ItOk (p nb k mi t:Nat) (x:It):Prop :=
 x.step=t/\((x.kind=1/\x.n<mi)\/(x.kind=2/\x.n<nb)\/(x.kind=3/\AcOk p nb k t x.a)\/(x.kind=4/\AcOk p nb k t x.a)\/(x.kind=5/\x.n<nb)\/x.kind=6)
theorem PU {j:Jb} {ph r i:Nat} {xs ys:List (Nat × Nat)} {a:Ac} (h:a∈Dz j ph r xs ys i):∃ s p,(xs[i]?=some p\/ys[i]?=some p)/\a=BS j s ph r i p:=by
 unfold Dz at h
 rcases List.mem_append.1 h with h | h
 . cases hx:xs[i]? with
   | none=>rw [hx] at h;simp at h
   | some p=>rw [hx] at h;simp at h;exact ⟨true,p,.inl rfl,h⟩
 . cases hx:ys[i]? with
   | none=>rw [hx] at h;simp at h
   | some p=>rw [hx] at h;simp at h;exact ⟨false,p,.inr rfl,h⟩
theorem Lh {s:Nat} (hs:1<=s) {p:Nat × Nat} (hp:p.1<=p.2):∀ q∈Bj s p,q.1<q.2/\q.2<=p.2:=by
 intro q hq;obtain ⟨b,hb,rfl⟩:=List.mem_map.1 hq;obtain ⟨i,hi,rfl⟩:=List.mem_map.1 hb;have h1:=EB hs (List.mem_range.1 hi);dsimp only [blk1];generalize i*s=e at *;omega
theorem PV {j:Jb} {u ph r:Nat} (hk:1<=j.workers) (hlo:j.lo<=j.hi) (hhi:j.hi<=1000) (hs:1<=j.chunk) (hph:ph<=1) (hr:r<j.workers) {nb:Nat} (hb:j.bucket<nb):∀ a∈Ca j u ph r,AcOk j.hi nb j.workers j.step a:=by
 intro a ha;have hl1:=GL (w:=u) (ph:=ph) (r:=r) hk;have hl2:=GN (w:=u) (ph:=ph) (r:=r) hk;have hsl:(B1 j).length=j.workers:=by rw [B1,Eh,Ee]
 obtain ⟨p,hp⟩:=Au (B1 j) (segS j.workers u ph r) (by omega);obtain ⟨q,hq⟩:=Au (B1 j) (segR j.workers u ph r) (by omega);have h1:=EG hlo hk _ (Yu hp);have h2:=EG hlo hk _ (Yu hq);rw [GR hp hq] at ha;obtain ⟨i,hi,ha⟩:=List.mem_flatMap.1 ha;have hi:=List.mem_range.1 hi;have h4:=Ei j.chunk p;have h5:=Ei j.chunk q;have h6:=Cm (p.2-p.1) j.chunk;have h7:=Cm (q.2-q.1) j.chunk;have h8:max (Bj j.chunk p).length (Bj j.chunk q).length<=1000:=Nat.max_le.2 ⟨by omega,by omega⟩;obtain ⟨s,c,hc,rfl⟩:=PU ha
 have hc2:c.1<c.2/\c.2<=j.hi:=by
  rcases hc with hc | hc
  . have:=Lh hs h1.1 c (Yu hc);omega
  . have:=Lh hs h2.1 c (Yu hc);omega
 exact ⟨rfl,hb,hph,hr,by show i<=1000;omega,hc2.1,hc2.2⟩
theorem AcOk.more {p p' nb k t:Nat} {a:Ac} (h:AcOk p nb k t a) (hp:p<=p'):AcOk p' nb k t a:=⟨h.step,h.bucket,h.phase,h.round,h.chunk,h.lt,Nat.le_trans h.hi hp⟩
theorem PW {bs gs:List (Nat × Nat)} {k s mi t u p:Nat} (hk:1<=k) (hB:∀ b∈bs,b.1<=b.2/\b.2<=p) (hp:p<=1000) (hG:GsOk bs.length gs) (hs:1<=s):∀ x∈Cv bs gs k s mi t u,ItOk p bs.length k mi t x:=by
 intro x hx
 rcases List.mem_append.1 hx with hx | hx
 . rcases List.mem_append.1 hx with hx | hx
   . obtain ⟨i,hi,rfl⟩:=List.mem_map.1 hx;have hi:=List.mem_range.1 hi;exact ⟨rfl,.inl ⟨rfl,by simp only [B8];omega⟩⟩
   . obtain ⟨g,hg,hx⟩:=List.mem_flatMap.1 hx;have hgo:=hG g hg
     rcases List.mem_append.1 hx with hx | hx
     . rcases List.mem_append.1 hx with hx | hx
       . obtain ⟨i,hi,rfl⟩:=List.mem_map.1 hx;have hi:=List.mem_range.1 hi;exact ⟨rfl,.inr (.inl ⟨rfl,by simp only [B8];omega⟩)⟩
       . obtain ⟨q,hq,hx⟩:=List.mem_flatMap.1 hx;have hq:=List.mem_range.1 hq;obtain ⟨i,hi,hx⟩:=List.mem_flatMap.1 hx;have hi:=List.mem_range.1 hi;obtain ⟨a,ha,rfl⟩:=List.mem_map.1 hx;have hk2:0<k-1:=by omega
         have hq2:q / (k-1)<2:=Nat.div_lt_of_lt_mul (by rw [Nat.mul_comm];exact hq);have hq3:q % (k-1)<k-1:=Nat.mod_lt _ hk2;obtain ⟨⟨y1,y2⟩,hy⟩:=Au bs (g.1+i) (by omega);have hbo:=hB _ (Yu hy);rw [GT hy] at ha;have hok:AcOk p bs.length k t a:=(PV (j:=⟨t,g.1+i,y1,y2,k,s⟩) hk hbo.1 (Nat.le_trans hbo.2 hp) hs (by omega) (show q % (k-1)<k by omega) (show g.1+i<bs.length by omega) a ha).more hbo.2;refine ⟨rfl,?_⟩
         cases hsd:a.send with
         | true=>exact .inr (.inr (.inl ⟨by simp [BJ,hsd],hok⟩))
         | false=>exact .inr (.inr (.inr (.inl ⟨by simp [BJ,hsd],hok⟩)))
     . obtain ⟨i,hi,rfl⟩:=List.mem_map.1 hx;have hi:=List.mem_range.1 hi;exact ⟨rfl,.inr (.inr (.inr (.inr (.inl ⟨rfl,by simp only [B8];omega⟩))))⟩
 . simp at hx;subst hx;exact ⟨rfl,.inr (.inr (.inr (.inr (.inr rfl))))⟩
theorem Li {c:Kf} {p:Nat} (h:c.Ok):∀ b∈plBs c p,b.1<=b.2/\b.2<=p:=fun b hb=>by
 have hb':=List.mem_reverse.1 hb;exact ⟨Hb p c.bu b hb',(EE p c.bu h.bu.1 b hb').2⟩
theorem FY {c:Kf} {p t u:Nat} (h:c.Ok) (hp:p<=60):∀ x∈AS c p t u,ItOk p (plBs c p).length c.k c.mi t x :=
 PW h.k.1 (Li h) (by omega) (DU h hp).2.2.1 h.s.1
theorem Je {c:Kf} (hc:c.Ok) (p t t' u:Nat):(AS c p t u).length=(AS c p t' u).length:=by
 rw [Lg c hc p t u,Lg c hc p t' u];refine congrArg _ (DW fun b _=>?_);unfold Hm;refine congrArg _ (DW fun q _=>?_);rw [Lf,Lf,Le,Le];rfl
theorem PX (A:Option Addr) (cap:Nat) (zs:List Int) (sh ra mo wo ba mi st bu ch wi ca n:Int) (w:World) (hr:RdI w w.heap.size A zs) (hcap:zs.length<=cap) (hm:zs.length<=9223372036854775807) :
  Calls Tryz.prog 102 #[.agg #[Us A zs.length cap,U O sh,U O ra,U O mo,U O wo,U O ba,U O mi,U O st,U O bu,U O ch,U O wi,U O ca],U O n] w (Coded w (epo (AT zs ⟨sh,0,0,wo,ba,mi,st,bu,ch,wi,ca⟩) st ba n)):=by
 have hb0:Below w.heap.size w (w.alloc (.cells #[Us A zs.length cap,U O sh,U O ra,U O mo,U O wo,U O ba,U O mi,U O st,U O bu,U O ch,U O wi,U O ca] 24)):=(Yt _ _).alloc (Ys _) _;have hX:=heap_alloc_new w (.cells #[Us A zs.length cap,U O sh,U O ra,U O mo,U O wo,U O ba,U O mi,U O st,U O bu,U O ch,U O wi,U O ca] 24);have C:=IW A cap zs sh ra mo wo ba mi st bu ch wi ca _ ((hr.below hb0).more hb0.size) hcap hm;have Z:=DT (zs:=zs) (c:=⟨sh,0,0,wo,ba,mi,st,bu,ch,wi,ca⟩);dsimp only at Z;generalize AT zs ⟨sh,0,0,wo,ba,mi,st,bu,ch,wi,ca⟩=k at *;have HC:=K1 C;have HX:=K1 hX;have HZ:=K1 Z;clear C hX Z
 by_cases hk:k=0
 . subst hk;obtain ⟨hst,hba,hba',_⟩:=HZ.out rfl
   by_cases h1:n<ba
   . have hfin:=K1 (DS (k:=0) (st:=st) (ba:=ba) (n:=n) (.inr (.inl h1)));go_enter Tryz.func102,Tryz.ntmps102;go_wp2_with fail;refine HC.out.mono ?_;rintro e w1 ⟨rfl,hb1⟩;have HX1:=K1 (Bp HX.out hb1 (by simp));obtain ⟨c0,c1,c2,c3,c4,c5,c6,c7,c8,c9,c10,c11⟩:=D0 HX1.out
     go_wp2
     go_ret;exact ⟨AN hfin.out.symm,hb0.trans (hb1.mono hb0.size)⟩
   by_cases h2:1048576<n
   . have hfin:=K1 (DS (k:=0) (st:=st) (ba:=ba) (n:=n) (.inr (.inr h2)));go_enter Tryz.func102,Tryz.ntmps102;go_wp2_with fail;refine HC.out.mono ?_;rintro e w1 ⟨rfl,hb1⟩;have HX1:=K1 (Bp HX.out hb1 (by simp));obtain ⟨c0,c1,c2,c3,c4,c5,c6,c7,c8,c9,c10,c11⟩:=D0 HX1.out
     go_wp2
     go_ret;exact ⟨AN hfin.out.symm,hb0.trans (hb1.mono hb0.size)⟩
   . have hfin:=K1 (GO (k:=0) (st:=st) (ba:=ba) (n:=n) (by omega));have hq:=IQ (n:=n) hba (by omega) (by omega);go_enter Tryz.func102,Tryz.ntmps102;go_wp2_with fail;refine HC.out.mono ?_;rintro e w1 ⟨rfl,hb1⟩;have HX1:=K1 (Bp HX.out hb1 (by simp));obtain ⟨c0,c1,c2,c3,c4,c5,c6,c7,c8,c9,c10,c11⟩:=D0 HX1.out
     go_wp2
     go_ret;exact ⟨AN hfin.out.symm,hb0.trans (hb1.mono hb0.size)⟩
 . have hfin:=K1 (DS (k:=k) (st:=st) (ba:=ba) (n:=n) (.inl hk));have hk':(k != 0)=true:=by simpa using hk
   go_enter Tryz.func102,Tryz.ntmps102;go_wp2_with fail;refine HC.out.mono ?_;rintro e w1 ⟨rfl,hb1⟩;have HX1:=K1 (Bp HX.out hb1 (by simp));obtain ⟨c0,c1,c2,c3,c4,c5,c6,c7,c8,c9,c10,c11⟩:=D0 HX1.out
   go_wp2
   go_ret;exact ⟨AN hfin.out.symm,hb0.trans (hb1.mono hb0.size)⟩
theorem PY (A:Option Addr) (cap:Nat) (zs:List Int) (sh ra mo wo ba mi st bu ch wi ca n:Int) (w:World) (hr:RdI w w.heap.size A zs) (hm:zs.length<=9223372036854775807) :
  Calls Tryz.prog 90 #[.agg #[Us A zs.length cap,U O sh,U O ra,U O mo,U O wo,U O ba,U O mi,U O st,U O bu,U O ch,U O wi,U O ca],U O n] w (Coded w (epo (AT zs ⟨sh,0,0,wo,ba,mi,st,bu,ch,wi,ca⟩) st ba n)):=by
 have hb0:Below w.heap.size w (w.alloc (.cells #[Us A zs.length cap,U O sh,U O ra,U O mo,U O wo,U O ba,U O mi,U O st,U O bu,U O ch,U O wi,U O ca] 24)):=(Yt _ _).alloc (Ys _) _;have hX:=heap_alloc_new w (.cells #[Us A zs.length cap,U O sh,U O ra,U O mo,U O wo,U O ba,U O mi,U O st,U O bu,U O ch,U O wi,U O ca] 24);have C:=Ha A cap zs sh ra mo wo ba mi st bu ch wi ca _ ((hr.below hb0).more hb0.size) hm;have Z:=DT (zs:=zs) (c:=⟨sh,0,0,wo,ba,mi,st,bu,ch,wi,ca⟩);dsimp only at Z;generalize AT zs ⟨sh,0,0,wo,ba,mi,st,bu,ch,wi,ca⟩=k at *;have HC:=K1 C;have HX:=K1 hX;have HZ:=K1 Z;clear C hX Z
 by_cases hk:k=0
 . subst hk;obtain ⟨hst,hba,hba',_⟩:=HZ.out rfl
   cases h1:betw n ba 1048576
   . have hfin:=K1 (DS (k:=0) (st:=st) (ba:=ba) (n:=n) (by have:=FQ h1;omega));go_enter Tryz.func90,Tryz.ntmps90;go_wp2_with fail;refine HC.out.mono ?_;rintro e w1 ⟨rfl,hb1⟩;have HX1:=K1 (Bp HX.out hb1 (by simp));obtain ⟨c0,c1,c2,c3,c4,c5,c6,c7,c8,c9,c10,c11⟩:=D0 HX1.out
     go_wp2_with (go_at_call 53;refine (C9 _ _ _ _).mono ?_;rintro e w' ⟨rfl,rfl⟩)
     go_ret;exact ⟨AN hfin.out.symm,hb0.trans (hb1.mono hb0.size)⟩
   . have hy:=Bz h1;have hfin:=K1 (GO (k:=0) (st:=st) (ba:=ba) (n:=n) (by omega));have hq:=IQ (n:=n) hba hy.1 hy.2;go_enter Tryz.func90,Tryz.ntmps90;go_wp2_with fail;refine HC.out.mono ?_;rintro e w1 ⟨rfl,hb1⟩;have HX1:=K1 (Bp HX.out hb1 (by simp));obtain ⟨c0,c1,c2,c3,c4,c5,c6,c7,c8,c9,c10,c11⟩:=D0 HX1.out
     go_wp2_with (go_at_call 53;refine (C9 _ _ _ _).mono ?_;rintro e w' ⟨rfl,rfl⟩)
     go_loop [5,6] (fun e s=>∃ x y:Int,e=U O x/\s=U O y/\0<=x/\x<=y/\y<=2097152/\Hid (y=x*(n / ba))/\Hid (x=0\/(x-1)*(n / ba)<st)) (fun _ s=>(st-intOf s).toNat)
     case atStart=>exact ⟨0,0,rfl,rfl,by omega,by omega,by omega,K1 (by simp),K1 (.inl rfl)⟩
     case round =>
      obtain ⟨x,y,rfl,rfl,hx0,hxy,hy2,hm1,hm2⟩:=hrel
      by_cases hlt:y<st
      . go_wp2
        go_round
        case rel=>exact ⟨x+1,y+n / ba,rfl,rfl,by omega,by omega,by omega,K1 (by rw [hm1.out,Int.add_mul,Int.one_mul]),K1 (.inr (by rw [Int.add_sub_cancel,<- hm1.out];exact hlt))⟩
        case measure=>simp only [intOf];omega
      . have hce:Hid ((st+n / ba-1) / (n / ba)=x):=K1 (OV hq.1 (by rw [<- hm1.out];omega) hm2.out hst.1)
        go_wp2
        go_ret;exact ⟨AN (by rw [hfin.out,hce.out]),hb0.trans (hb1.mono hb0.size)⟩
 . have hfin:=K1 (DS (k:=k) (st:=st) (ba:=ba) (n:=n) (.inl hk));have hk':(k != 0)=true:=by simpa using hk
   go_enter Tryz.func90,Tryz.ntmps90;go_wp2_with fail;refine HC.out.mono ?_;rintro e w1 ⟨rfl,hb1⟩;have HX1:=K1 (Bp HX.out hb1 (by simp));obtain ⟨c0,c1,c2,c3,c4,c5,c6,c7,c8,c9,c10,c11⟩:=D0 HX1.out
   go_wp2_with (go_at_call 53;refine (C9 _ _ _ _).mono ?_;rintro e w' ⟨rfl,rfl⟩)
   go_ret;exact ⟨AN hfin.out.symm,hb0.trans (hb1.mono hb0.size)⟩
def Lj (w:World) (e:Ending) (w':World):Prop:=∃ x:Int,e=.returned (U O x)/\w=w'
theorem PZ (n:Int) (w:World) (h:1<=n) (h':n<=1048576):Calls Tryz.prog 103 #[U O n] w fun e w'=>e=.returned (U O (n-1))/\w=w':=by
 go_enter Tryz.func103,Tryz.ntmps103
 go_wp2
 all_goals (go_ret;exact ⟨AN (by omega),rfl⟩)
theorem Qa (n:Int) (w:World):Calls Tryz.prog 103 #[U O n] w (Lj w):=by
 go_enter Tryz.func103,Tryz.ntmps103
 go_wp2
 all_goals (go_ret;exact ⟨_,rfl,rfl⟩)
theorem Jf (n:Int) (w:World) (h:1<=n) (h':n<=1048576):Calls Tryz.prog 91 #[U O n] w fun e w'=>e=.returned (U O (n-1))/\w=w':=by
 go_enter Tryz.func91,Tryz.ntmps91
 go_wp2
 go_ret;exact ⟨rfl,rfl⟩
theorem Qb (n:Int) (w:World):Calls Tryz.prog 91 #[U O n] w (Lj w):=by
 by_cases h:n<1
 all_goals
  go_enter Tryz.func91,Tryz.ntmps91
  go_wp2
  go_ret;exact ⟨_,rfl,rfl⟩
def nee (k st ba n:Int):Int:=epo k st ba n*(n-1)
theorem Ll {e n:Int} (h0:0<=e) (h1:e<=2097152) (hn:1<=n) (hn':n<=1048576):0<=e*(n-1)/\e*(n-1)<=2199023255552 :=
 ⟨Int.mul_nonneg h0 (by omega),by
  have h:e*(n-1)<=2097152*1048576:=Int.mul_le_mul h1 (by omega) (by omega) (by omega)
  omega⟩
theorem Qc (A:Option Addr) (cap:Nat) (zs:List Int) (sh ra mo wo ba mi st bu ch wi ca n:Int) (w:World) (hr:RdI w w.heap.size A zs) (hcap:zs.length<=cap) (hm:zs.length<=9223372036854775807) :
  Calls Tryz.prog 62 #[.agg #[Us A zs.length cap,U O sh,U O ra,U O mo,U O wo,U O ba,U O mi,U O st,U O bu,U O ch,U O wi,U O ca],U O n] w (Coded w (nee (AT zs ⟨sh,0,0,wo,ba,mi,st,bu,ch,wi,ca⟩) st ba n)):=by
 have hb0:Below w.heap.size w (w.alloc (.cells #[Us A zs.length cap,U O sh,U O ra,U O mo,U O wo,U O ba,U O mi,U O st,U O bu,U O ch,U O wi,U O ca] 24)):=(Yt _ _).alloc (Ys _) _;have C:=PX A cap zs sh ra mo wo ba mi st bu ch wi ca n _ ((hr.below hb0).more hb0.size) hcap hm;have Z:=DT (zs:=zs) (c:=⟨sh,0,0,wo,ba,mi,st,bu,ch,wi,ca⟩);dsimp only at Z;generalize AT zs ⟨sh,0,0,wo,ba,mi,st,bu,ch,wi,ca⟩=k at *
 by_cases h:k≠0\/n<ba\/1048576<n
 . rw [DS h] at C;have hfin:Hid (nee k st ba n=0):=K1 (by unfold nee;rw [DS h,Int.zero_mul]);have HC:=K1 C;clear C Z h;go_enter Tryz.func62,Tryz.ntmps62;go_wp2_with fail;refine HC.out.mono ?_;rintro e w1 ⟨rfl,hb1⟩
   go_wp2_with (go_at_call 103;refine (Qa _ _).mono ?_;rintro e w2 ⟨x,rfl,rfl⟩)
   go_ret;exact ⟨AN hfin.out.symm,hb0.trans (hb1.mono hb0.size)⟩
 . have hz:=Z (by omega);have hbd:=KC (k:=k) (st:=st) (ba:=ba) (n:=n) (fun _=>hz.2.1) hz.1.1 hz.1.2;have hn1:1<=n:=by omega
   have hn2:n<=1048576:=by omega
   unfold nee;generalize epo k st ba n=E at *;have bm:=Ll hbd.1 hbd.2 hn1 hn2;have HC:=K1 C;clear C Z h;go_enter Tryz.func62,Tryz.ntmps62;go_wp2_with fail;refine HC.out.mono ?_;rintro e w1 ⟨rfl,hb1⟩
   go_wp2_with (go_at_call 103;refine (PZ _ _ hn1 hn2).mono ?_;rintro e w2 ⟨rfl,rfl⟩)
   go_ret;exact ⟨rfl,hb0.trans (hb1.mono hb0.size)⟩
theorem Qd (A:Option Addr) (cap:Nat) (zs:List Int) (sh ra mo wo ba mi st bu ch wi ca n:Int) (w:World) (hr:RdI w w.heap.size A zs) (hm:zs.length<=9223372036854775807) :
  Calls Tryz.prog 56 #[.agg #[Us A zs.length cap,U O sh,U O ra,U O mo,U O wo,U O ba,U O mi,U O st,U O bu,U O ch,U O wi,U O ca],U O n] w (Coded w (nee (AT zs ⟨sh,0,0,wo,ba,mi,st,bu,ch,wi,ca⟩) st ba n)):=by
 have hb0:Below w.heap.size w (w.alloc (.cells #[Us A zs.length cap,U O sh,U O ra,U O mo,U O wo,U O ba,U O mi,U O st,U O bu,U O ch,U O wi,U O ca] 24)):=(Yt _ _).alloc (Ys _) _;have C:=PY A cap zs sh ra mo wo ba mi st bu ch wi ca n _ ((hr.below hb0).more hb0.size) hm;have Z:=DT (zs:=zs) (c:=⟨sh,0,0,wo,ba,mi,st,bu,ch,wi,ca⟩);dsimp only at Z;generalize AT zs ⟨sh,0,0,wo,ba,mi,st,bu,ch,wi,ca⟩=k at *
 by_cases h:k≠0\/n<ba\/1048576<n
 . rw [DS h] at C;have hfin:Hid (nee k st ba n=0):=K1 (by unfold nee;rw [DS h,Int.zero_mul]);have HC:=K1 C;clear C Z h;go_enter Tryz.func56,Tryz.ntmps56;go_wp2_with fail;refine HC.out.mono ?_;rintro e w1 ⟨rfl,hb1⟩
   go_wp2_with (go_at_call 91;refine (Qb _ _).mono ?_;rintro e w2 ⟨x,rfl,rfl⟩)
   go_ret;exact ⟨AN hfin.out.symm,hb0.trans (hb1.mono hb0.size)⟩
 . have hz:=Z (by omega);have hbd:=KC (k:=k) (st:=st) (ba:=ba) (n:=n) (fun _=>hz.2.1) hz.1.1 hz.1.2;have hn1:1<=n:=by omega
   have hn2:n<=1048576:=by omega
   unfold nee;generalize epo k st ba n=E at *;have bm:=Ll hbd.1 hbd.2 hn1 hn2;have HC:=K1 C;clear C Z h;go_enter Tryz.func56,Tryz.ntmps56;go_wp2_with fail;refine HC.out.mono ?_;rintro e w1 ⟨rfl,hb1⟩
   go_wp2_with (go_at_call 91;refine (Jf _ _ hn1 hn2).mono ?_;rintro e w2 ⟨rfl,rfl⟩)
   go_ret;exact ⟨rfl,hb0.trans (hb1.mono hb0.size)⟩
def BY (k:Int) (zs:List Int) (st ba:Int) (l:List Ex) (sn rn:Nat):Int :=
 if k≠0 then k
 else if (l.length:Int)<ba\/1048576<(l.length:Int) then 7
 else if B3 (zAt zs 0) (zAt zs (zs.length-1)) l=false\/(sn:Int)≠cnt zs then 5
 else if (rn:Int)<nee k st ba l.length then 8 else 0
theorem Lm (g:Nat) (zs:List Int) (B:Nat) (w:World) (h:Es w B g zs):Calls Tryz.prog 61 #[.pointer (some ⟨g,0,none⟩)] w fun e w'=>e=.returned (U O (cnt zs))/\w'=w:=by
 obtain ⟨_,As,Aw,Ab,cs,cw,cb,hg,_⟩:=h;have c3:w.cell? ⟨g,3,none⟩=some (U O (cnt zs)):=Ay hg 3;clear hg;go_enter Tryz.func61,Tryz.ntmps61
 go_wp2
 go_ret;exact ⟨rfl,rfl⟩
theorem UL (A DA SA RA:Option Addr) (cap dcap sn scap rn rcap:Nat) (zs:List Int) (l:List Ex) (sh ra mo wo ba mi st bu ch wi ca:Int) (w:World) (hr:RdI w w.heap.size A zs) (hcap:zs.length<=cap) (hm:zs.length<=9223372036854775807)
  (hk:AT zs ⟨sh,0,0,wo,ba,mi,st,bu,ch,wi,ca⟩≠0) :
  Calls Tryz.prog 28 #[.agg #[Us A zs.length cap,U O sh,U O ra,U O mo,U O wo,U O ba,U O mi,U O st,U O bu,U O ch,U O wi,U O ca,Us DA l.length dcap,Us SA sn scap,Us RA rn rcap]] w (Coded w (BY (AT zs ⟨sh,0,0,wo,ba,mi,st,bu,ch,wi,ca⟩) zs st ba l sn rn)):=by
 have hb0:Below w.heap.size w ((w.alloc (.cells #[Us A zs.length cap,U O sh,U O ra,U O mo,U O wo,U O ba,U O mi,U O st,U O bu,U O ch,U O wi,U O ca,Us DA l.length dcap,Us SA sn scap,Us RA rn rcap] 29)).alloc (.cells #[Us A zs.length cap,U O sh,U O ra,U O mo,U O wo,U O ba,U O mi,U O st,U O bu,U O ch,U O wi,U O ca] 24)):=((Yt _ _).alloc (Ys _) _).alloc (by simp) _;have C:=IW A cap zs sh ra mo wo ba mi st bu ch wi ca _ ((hr.below hb0).more hb0.size) hcap hm;generalize AT zs ⟨sh,0,0,wo,ba,mi,st,bu,ch,wi,ca⟩=k at *;have hfin:Hid (BY k zs st ba l sn rn=k):=K1 (if_pos hk)
 have hk':(k != 0)=true:=by simpa using hk
 have HC:=K1 C;clear C hk;go_enter Tryz.func28,Tryz.ntmps28
 go_wp2_with (go_at_call 58;refine HC.out.mono ?_;rintro e w1 ⟨rfl,hb1⟩)
 go_ret;exact ⟨AN hfin.out.symm,hb0.trans (hb1.mono hb0.size)⟩
theorem in7 {zs:List Int} {st ba:Int} {l:List Ex} {sn rn:Nat} (h:(l.length:Int)<ba\/1048576<(l.length:Int)):BY 0 zs st ba l sn rn=7:=by
 unfold BY;rw [if_neg (by simp),if_pos h]
theorem in5 {zs:List Int} {st ba:Int} {l:List Ex} {sn rn:Nat} (h:¬ (l.length:Int)<ba) (h':¬ 1048576<(l.length:Int)) (h2:B3 (zAt zs 0) (zAt zs (zs.length-1)) l=false\/(sn:Int)≠cnt zs):BY 0 zs st ba l sn rn=5:=by
 unfold BY;rw [if_neg (by simp),if_neg (by omega),if_pos h2]
theorem in8 {zs:List Int} {st ba:Int} {l:List Ex} {sn rn:Nat} (h:¬ (l.length:Int)<ba) (h':¬ 1048576<(l.length:Int)) (h2:B3 (zAt zs 0) (zAt zs (zs.length-1)) l=true) (h3:(sn:Int)=cnt zs) (h4:(rn:Int)<nee 0 st ba l.length):BY 0 zs st ba l sn rn=8:=by
 unfold BY;rw [if_neg (by simp),if_neg (by omega),if_neg (by simp [h2,h3]),if_pos h4]
theorem in0 {zs:List Int} {st ba:Int} {l:List Ex} {sn rn:Nat} (h:¬ (l.length:Int)<ba) (h':¬ 1048576<(l.length:Int)) (h2:B3 (zAt zs 0) (zAt zs (zs.length-1)) l=true) (h3:(sn:Int)=cnt zs) (h4:¬ (rn:Int)<nee 0 st ba l.length):BY 0 zs st ba l sn rn=0:=by
 unfold BY;rw [if_neg (by simp),if_neg (by omega),if_neg (by simp [h2,h3]),if_neg h4]
theorem FZ {zs:List Int} (h:AV zs=0):2<=zs.length/\zs.length<=16:=by
 unfold AV at h
 split at h
 . cases h
 . omega
set_option maxRecDepth 100000 in
theorem Lo (A DA SA RA:Option Addr) (cap dcap sn scap rn rcap:Nat) (zs:List Int) (l:List Ex) (sh ra mo wo ba mi st bu ch wi ca:Int) (w:World) (hr:RdI w w.heap.size A zs) (hcap:zs.length<=cap) (hm:zs.length<=9223372036854775807)
  (hd:RdE w w.heap.size DA l) (hlm:l.length<=9223372036854775807)
  (hk:AT zs ⟨sh,0,0,wo,ba,mi,st,bu,ch,wi,ca⟩=0) :
  Calls Tryz.prog 28 #[.agg #[Us A zs.length cap,U O sh,U O ra,U O mo,U O wo,U O ba,U O mi,U O st,U O bu,U O ch,U O wi,U O ca,Us DA l.length dcap,Us SA sn scap,Us RA rn rcap]] w (Coded w (BY (AT zs ⟨sh,0,0,wo,ba,mi,st,bu,ch,wi,ca⟩) zs st ba l sn rn)):=by
 have hI:=heap_alloc_new w (.cells #[Us A zs.length cap,U O sh,U O ra,U O mo,U O wo,U O ba,U O mi,U O st,U O bu,U O ch,U O wi,U O ca,Us DA l.length dcap,Us SA sn scap,Us RA rn rcap] 29);have hb0:Below w.heap.size w ((w.alloc (.cells #[Us A zs.length cap,U O sh,U O ra,U O mo,U O wo,U O ba,U O mi,U O st,U O bu,U O ch,U O wi,U O ca,Us DA l.length dcap,Us SA sn scap,Us RA rn rcap] 29)).alloc (.cells #[Us A zs.length cap,U O sh,U O ra,U O mo,U O wo,U O ba,U O mi,U O st,U O bu,U O ch,U O wi,U O ca] 24)):=((Yt _ _).alloc (Ys _) _).alloc (by simp) _
 have hI0:=Ct hI (.cells #[Us A zs.length cap,U O sh,U O ra,U O mo,U O wo,U O ba,U O mi,U O st,U O bu,U O ch,U O wi,U O ca] 24);have hC0:=heap_alloc_new (w.alloc (.cells #[Us A zs.length cap,U O sh,U O ra,U O mo,U O wo,U O ba,U O mi,U O st,U O bu,U O ch,U O wi,U O ca,Us DA l.length dcap,Us SA sn scap,Us RA rn rcap] 29)) (.cells #[Us A zs.length cap,U O sh,U O ra,U O mo,U O wo,U O ba,U O mi,U O st,U O bu,U O ch,U O wi,U O ca] 24);rw [World.size_alloc] at hC0;have C:=IW A cap zs sh ra mo wo ba mi st bu ch wi ca _ ((hr.below hb0).more hb0.size) hcap hm
 have N:=fun W (hb:Below w.heap.size w W)=>Qc A cap zs sh ra mo wo ba mi st bu ch wi ca l.length W ((hr.below hb).more hb.size) hcap hm
 have Z:=DT hk;rw [hk] at C N ⊢;obtain ⟨⟨hst,hst'⟩,hba,hba',hsh⟩:=Z;dsimp only at hst hst' hba hba';have M:=fun W (hb:Below w.heap.size w W)=>FO A cap zs W ((hr.below hb).more hb.size) hcap hm hsh
 have h2:=FZ hsh;obtain ⟨b,off,rfl,hbl,hc⟩:=hr.at_ (by omega);obtain ⟨x0,hx0⟩:=Au zs 0 (by omega);obtain ⟨xl,hxl⟩:=Au zs (zs.length-1) (by omega);have Hx0:=K1 (hc 0 x0 hx0);have Hxl:=K1 (hc _ xl hxl);have hz0:zAt zs 0=x0:=by simp [zAt,List.getD,hx0]
 have hzl:zAt zs (zs.length-1)=xl:=by simp [zAt,List.getD,hxl]
 have D:=fun W (hb:Below w.heap.size w W)=>Om x0 xl DA dcap l W ((hd.below hb).more hb.size) hlm
 have HD:=K1 D;have Hz:=K1 (And.intro hz0 hzl);have i0:(0:Int)<=(zs.length:Int)-1:=by omega
 have i1:(zs.length:Int)-1<(zs.length:Int):=by omega
 have i2:IntKind.i64.wrap ((zs.length:Int)-1)=(zs.length:Int)-1:=IntWalk.i64_in _ (by omega);have i3:((zs.length:Int)-1).toNat=zs.length-1:=by omega
 have i4:(0:Int)<(zs.length:Int):=by omega
 have i5:0<zs.length:=by omega
 have i6:(1:Int)<=(zs.length:Int):=by omega
 have i7:1<=zs.length:=by omega
 clear D hc hx0 hxl hz0 hzl;have HC:=K1 C;have HN:=K1 N;have HM:=K1 M;have HI0:=K1 hI0;have HC0:=K1 hC0;clear C N M hI hI0 hC0 hk hsh;go_enter Tryz.func28,Tryz.ntmps28;go_wp2_with fail;refine HC.out.mono ?_;rintro e w1 ⟨rfl,hb1⟩;have hB1:=hb0.trans (hb1.mono hb0.size);have HI1:=K1 (Bp HI0.out hb1 (by simp;omega));have HC1:=K1 (Bp HC0.out hb1 (by simp));clear hb1;obtain ⟨c0,c1,c2,c3,c4,c5,c6,c7,c8,c9,c10,c11⟩:=D0 HC1.out;go_wp2_with fail;clear c0 c1 c2 c3 c4 c5 c6 c7 c8 c9 c10 c11;refine (HM.out _ hB1).mono ?_;rintro e w2 ⟨g,rfl,hb2,hg,hS⟩;have hB2:=hB1.trans (hb2.mono hB1.size)
 have HI2:=K1 (Bp HI1.out hb2 (AZ HI1.out));have HC2:=K1 (Bp HC1.out hb2 (AZ HC1.out));clear hb2;go_wp2_with fail;have c12:w2.cell? ⟨w.heap.size,12,none⟩=some (Us DA l.length dcap):=Ay HI2.out 12;have c0:w2.cell? ⟨w.heap.size+1,0,none⟩=some (Us (some ⟨b,off,none⟩) zs.length cap):=Ay HC2.out 0;have cx:w2.cell? ⟨b,off,none⟩=some (U O x0):=(hB2.cell (p:=⟨b,off,none⟩) hbl).trans Hx0.out;have cy:w2.cell? ⟨b,off+(zs.length-1),none⟩=some (U O xl):=(hB2.cell (p:=⟨b,off+(zs.length-1),none⟩) hbl).trans Hxl.out
 go_region_held3 (fun w'=>w'.cell? ⟨w.heap.size,12,none⟩=some (Us DA l.length dcap)/\w'.cell? ⟨w.heap.size+1,0,none⟩=some (Us (some ⟨b,off,none⟩) zs.length cap)/\w'.cell? ⟨b,off,none⟩=some (U O x0)/\w'.cell? ⟨b,off+(zs.length-1),none⟩=some (U O xl))
  (first
   | exact ⟨d12,d0,dx,dy⟩
   | exact ⟨c12,c0,cx,cy⟩)
  ((go_at_call 60
    refine (HD.out _ (Cs hB2)).mono ?_;rintro e w3 ⟨rfl,hb3⟩;have hB3:=(Cs hB2).trans (hb3.mono hB2.size);have HI3:=K1 (Bp (F8 HI2.out) hb3 (AZ HI2.out));have HC3:=K1 (Bp (F8 HC2.out) hb3 (AZ HC2.out));have HS3:=K1 (Es.below (w:=w2.drew) hS hb3);have d12:w3.cell? ⟨w.heap.size,12,none⟩=some (Us DA l.length dcap):=Ay HI3.out 12;have d0:w3.cell? ⟨w.heap.size+1,0,none⟩=some (Us (some ⟨b,off,none⟩) zs.length cap):=Ay HC3.out 0;have dx:w3.cell? ⟨b,off,none⟩=some (U O x0):=(hB3.cell (p:=⟨b,off,none⟩) hbl).trans Hx0.out
    have dy:w3.cell? ⟨b,off+(zs.length-1),none⟩=some (U O xl):=(hB3.cell (p:=⟨b,off+(zs.length-1),none⟩) hbl).trans Hxl.out))
 clear c12 c0 cx cy d0 dx dy i0 i1 i2 i3 i4 i5 i6 i7
 by_cases n1:(l.length:Int)<ba
 . have hfin:=K1 (in7 (zs:=zs) (st:=st) (ba:=ba) (l:=l) (sn:=sn) (rn:=rn) (.inl n1));have c5:w3.cell? ⟨w.heap.size+1,5,none⟩=some (U O ba):=Ay HC3.out 5
   go_wp2
   go_ret;exact ⟨AN hfin.out.symm,hB3⟩
 by_cases n2:1048576<(l.length:Int)
 . have hfin:=K1 (in7 (zs:=zs) (st:=st) (ba:=ba) (l:=l) (sn:=sn) (rn:=rn) (.inr n2));have c5:w3.cell? ⟨w.heap.size+1,5,none⟩=some (U O ba):=Ay HC3.out 5
   go_wp2
   go_ret;exact ⟨AN hfin.out.symm,hB3⟩
 have c5:w3.cell? ⟨w.heap.size+1,5,none⟩=some (U O ba):=Ay HC3.out 5
 cases hf:B3 x0 xl l
 . have hfin:=K1 (in5 (zs:=zs) (st:=st) (ba:=ba) (l:=l) (sn:=sn) (rn:=rn) n1 n2 (.inl (by rw [Hz.out.1,Hz.out.2];exact hf)))
   go_wp2
   go_quiet (fail)
   go_wp2
   go_ret;exact ⟨AN hfin.out.symm,B6 hB3 _⟩
 have c13:w3.cell? ⟨w.heap.size,13,none⟩=some (Us SA sn scap):=Ay HI3.out 13
 by_cases hs:(sn:Int)=cnt zs
 . have k1:((sn:Int) != cnt zs)=false:=by simpa using hs
   have hg8:=K1 (fun h4=>in8 (zs:=zs) (st:=st) (ba:=ba) (l:=l) (sn:=sn) (rn:=rn) n1 n2 (by rw [Hz.out.1,Hz.out.2];exact hf) hs h4);have hg0:=K1 (fun h4=>in0 (zs:=zs) (st:=st) (ba:=ba) (l:=l) (sn:=sn) (rn:=rn) n1 n2 (by rw [Hz.out.1,Hz.out.2];exact hf) hs h4);generalize nee 0 st ba l.length=D at *;clear hs
   go_wp2
   go_quiet ((go_at_call 61;exact Calls.quiet_of_same (Lm g zs _ _ HS3.out)))
   go_wp2
   have c14:w3.cell? ⟨w.heap.size,14,none⟩=some (Us RA rn rcap):=Ay HI3.out 14;clear c5 c13 k1 d12
   go_region_held3 (fun w'=>(w'.cell? ⟨w.heap.size+1,0,none⟩=some (Us (some ⟨b,off,none⟩) zs.length cap)/\w'.cell? ⟨w.heap.size+1,1,none⟩=some (U O sh)/\w'.cell? ⟨w.heap.size+1,2,none⟩=some (U O ra)/\w'.cell? ⟨w.heap.size+1,3,none⟩=some (U O mo)/\w'.cell? ⟨w.heap.size+1,4,none⟩=some (U O wo)/\w'.cell? ⟨w.heap.size+1,5,none⟩=some (U O ba)/\w'.cell? ⟨w.heap.size+1,6,none⟩=some (U O mi)/\w'.cell? ⟨w.heap.size+1,7,none⟩=some (U O st)/\w'.cell? ⟨w.heap.size+1,8,none⟩=some (U O bu)/\w'.cell? ⟨w.heap.size+1,9,none⟩=some (U O ch)/\w'.cell? ⟨w.heap.size+1,10,none⟩=some (U O wi)/\w'.cell? ⟨w.heap.size+1,11,none⟩=some (U O ca))/\w'.cell? ⟨w.heap.size,14,none⟩=some (Us RA rn rcap))
    (first
     | exact ⟨D0 HC4.out,Ay HI4.out 14⟩
     | exact ⟨D0 HC3.out,c14⟩)
    ((go_at_call 62
      refine (HN.out _ ?_).mono ?_
      . first
         | exact B6 hB3 _
         | exact Cs (B6 hB3 _)
      rintro e w4 ⟨rfl,hb4⟩;have hB4:Below w.heap.size w w4:=Below.trans (by first | exact B6 hB3 _ | exact Cs (B6 hB3 _)) (hb4.mono hB3.size);have HI4:=K1 (Bp (by exact HI3.out) hb4 (by exact AZ HI3.out))
      have HC4:=K1 (Bp (by exact HC3.out) hb4 (by exact AZ HC3.out))))
   by_cases hD:(rn:Int)<D
   . have hfin:=K1 (hg8.out hD)
     go_wp2
     go_ret;exact ⟨AN hfin.out.symm,hB4⟩
   . have hfin:=K1 (hg0.out (by omega))
     go_wp2
     go_ret;exact ⟨AN hfin.out.symm,hB4⟩
 . have k1:((sn:Int) != cnt zs)=true:=by simpa using hs
   have hfin:=K1 (in5 (zs:=zs) (st:=st) (ba:=ba) (l:=l) (sn:=sn) (rn:=rn) n1 n2 (.inr hs));clear hs
   go_wp2
   go_quiet ((go_at_call 61;exact Calls.quiet_of_same (Lm g zs _ _ HS3.out)))
   go_wp2
   go_ret;exact ⟨AN hfin.out.symm,B6 hB3 _⟩
end
end Go.Proofs.YtdpojpcoghcieaaGreat
