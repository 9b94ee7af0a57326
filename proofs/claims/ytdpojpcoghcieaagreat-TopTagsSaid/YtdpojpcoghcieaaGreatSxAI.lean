/- A part of the proof of TopTags: RingRound, PlanP, Rounds, Items. Conditions: none. -/
import Derived.Test.YtdpojpcoghcieaaGreatSxAG
import Derived.Test.YtdpojpcoghcieaaGreatSxAD
set_option maxHeartbeats 8000000
set_option linter.all false
namespace Go.Proofs.YtdpojpcoghcieaaGreat
open Lib renaming hid → K1
open List renaming filterMap_cons → p1, filterMap_nil → p2, getElem?_cons_zero → p3, getElem?_cons_succ → p4
open Go.RowKit
set_option maxRecDepth 100000
open Value renaming int → U, slice → Us
open IntKind renaming i64 → O
open List renaming length_append → Xa, mem_of_getElem? → Xc, append_assoc → Xe, append_nil → Xf, range → Xg, range_succ → Xh, take_zero → Xl, length_map → Xn, take_add_one → Xo, take_succ_cons → Xp, take_length → Xq
open And renaming intro → Xb
open Nat renaming zero_le → Xd, mul_le_mul_left → Xj, mul_le_mul → Xk
open World renaming size_alloc → Xi
open IntWalk renaming i64_in → Xm
section
def B1 (j:Jb):List (Nat × Nat):=B4 j.lo (BN (j.hi-j.lo) j.workers)
def Bj (s:Nat) (p:Nat × Nat):List (Nat × Nat):=B4 p.1 (Bd (p.2-p.1) s)
def Dz (j:Jb) (ph r:Nat) (xs ys:List (Nat × Nat)) (i:Nat):List Ac:=(xs[i]?.map (BS j true ph r i)).toList++(ys[i]?.map (BS j false ph r i)).toList
def BU (j:Jb) (ph r:Nat) (xs ys:List (Nat × Nat)) (k:Nat):List Ac:=(Xg k).flatMap (Dz j ph r xs ys)
def Ca (j:Jb) (u ph r:Nat):List Ac :=
 let xs:=Bj j.chunk ((B1 j)[segS j.workers u ph r]?.getD (0,0))
 let ys:=Bj j.chunk ((B1 j)[segR j.workers u ph r]?.getD (0,0))
 BU j ph r xs ys (max xs.length ys.length)
theorem FR (j:Jb) (ph r:Nat) (xs ys:List (Nat × Nat)) (k:Nat):BU j ph r xs ys (k+1)=BU j ph r xs ys k++Dz j ph r xs ys k:=by
 simp [BU,Xh]
theorem OW (j:Jb) (ph r:Nat) (xs ys:List (Nat × Nat)) (i:Nat):(Dz j ph r xs ys i).length<=2:=by
 unfold Dz
 cases xs[i]? <;> cases ys[i]? <;> simp
theorem GQ (j:Jb) (ph r:Nat) (xs ys:List (Nat × Nat)):∀ k,(BU j ph r xs ys k).length<=2*k
 | 0=>by simp [BU]
 | k+1=>by
   rw [FR,Xa];have:=GQ j ph r xs ys k;have:=OW j ph r xs ys k;omega
theorem EG {j:Jb} (h:j.lo<=j.hi) (hk:1<=j.workers):∀ p∈B1 j,p.1<=p.2/\p.2<=j.hi:=by
 intro p hp;obtain ⟨q,hq,rfl⟩:=List.mem_map.1 hp;obtain ⟨i,hi,rfl⟩:=List.mem_map.1 hq;have h1:=FA (j.hi-j.lo) j.workers i;have h2:=FB (n:=j.hi-j.lo) hk (i:=i+1) (by have:=List.mem_range.1 hi;omega);dsimp only;omega
theorem Ei (s:Nat) (p:Nat × Nat):(Bj s p).length=pcnt (p.2-p.1) s:=by rw [Bj,Eh,DN]
theorem GR {j:Jb} {u ph r:Nat} {p q:Nat × Nat} (h:(B1 j)[segS j.workers u ph r]?=some p) (k:(B1 j)[segR j.workers u ph r]?=some q) :
  Ca j u ph r=BU j ph r (Bj j.chunk p) (Bj j.chunk q) (max (Bj j.chunk p).length (Bj j.chunk q).length):=by
 unfold Ca;rw [h,k];rfl
theorem OX (j:Jb) (u ph r:Nat) (w:World) (hk:1<=j.workers/\j.workers<=1000) (hw:u<j.workers) (hr:r+1<j.workers) (hp:ph<=1) (hlo:j.lo<=j.hi) (hhi:j.hi<=1048576) (hs:1<=j.chunk/\j.chunk<=1048576) :
  Calls Tryz.prog 159 #[.agg j.cells.toArray,U O u,U O ph,U O r] w fun e w'=>∃ v,e=.returned v/\w'.ownsRow w.heap.size 144 9 v (Ca j u ph r).length (acells (Ca j u ph r))/\Below w.heap.size w w':=by
 have C1:=K1 (fun W=>O4 j u ph r W hk hw hr hp);have C2:=K1 (fun W=>O5 j u ph r W hk hw hr hp);have C3:Hid (∀ W:World,Calls Tryz.prog 166 #[.agg #[U O j.lo,U O j.hi],U O j.workers] W fun e w'=>∃ v,e=.returned v/\OwnR w' W.heap.size v (B1 j)/\Below W.heap.size W w'):=K1 (fun W=>Og j.lo j.hi j.workers hlo hhi hk W);have C5:=K1 (fun lo hi (h1:lo<=hi) (h2:hi<=1048576) W=>Kp lo hi j.chunk h1 h2 hs W);have C4:=K1 (fun lo hi (h1:lo<=hi) (h2:hi<=1048576) W=>Kp lo hi j.chunk h1 h2 hs W);have hm:=(((Mem.start w).alloc (.cells j.cells.toArray 277)).alloc (.cells #[U O ph] 3)).alloc (.cells #[U O r] 3)
 simp only [Xi] at hm;have HM:=K1 hm;clear hm;have hl1:=GL (w:=u) (ph:=ph) (r:=r) hk.1;have hl2:=GN (w:=u) (ph:=ph) (r:=r) hk.1;have hsl:(B1 j).length=j.workers:=by rw [B1,Eh,Ee]
 have hin:=EG hlo hk.1;obtain ⟨po,hpo⟩:=Au (B1 j) (segS j.workers u ph r) (by omega);obtain ⟨pi,hpi⟩:=Au (B1 j) (segR j.workers u ph r) (by omega);have HRL:=K1 (GR hpo hpi);generalize segS j.workers u ph r=so at *;generalize segR j.workers u ph r=si at *;generalize B1 j=segs at *;obtain ⟨lo1,hi1⟩:=po;obtain ⟨lo2,hi2⟩:=pi;obtain ⟨o1,o2⟩:=hin _ (Xc hpo);obtain ⟨p1,p2⟩:=hin _ (Xc hpi);dsimp only at o1 o2 p1 p2;have HO:=K1 hpo;have HP:=K1 hpi;have HLT:=K1 (Xb hl1 (Xb hl2 hsl));have b1:so<segs.length:=by omega
 have b2:si<segs.length:=by omega
 clear hpo hpi hin hl1 hl2 hsl;obtain ⟨step,bucket,lo,hi,k,chunk⟩:=j;dsimp only [Jb.cells] at hk hw hr HM C1 C2 C3 C4 C5 hlo hhi hs HRL ⊢;go_enter Tryz.func159,Tryz.ntmps159;go_wp2_with fail
 (with_reducible refine (C1.out _).mono ?_)
 rintro e w1 ⟨rfl,hb⟩;replace HM:=K1 (HM.out.below hb);clear hb;have c0:=HM.out.cells 1 rfl;have c1:=HM.out.cell 2 0 rfl rfl;have c2:=HM.out.cell 3 0 rfl rfl;go_wp2_with fail
 (with_reducible refine (C2.out _).mono ?_)
 rintro e w2 ⟨rfl,hb⟩;replace HM:=K1 (HM.out.below hb);clear hb c0 c1 c2;have c0:=HM.out.cells 1 rfl;go_wp2_with fail
 (with_reducible refine (C3.out _).mono ?_)
 rintro e w3 ⟨v,rfl,hv,hb⟩;obtain ⟨A3,cap3,rfl,_,hm⟩:=HM.out.call_rd hb hv;obtain ⟨b3,off3,rfl,_⟩:=hm.ranges 4 rfl (by omega);replace HM:=K1 hm.drew;clear hb hv c0 C1 C2 C3;go_wp2_with fail
 go_region_held3 (fun w'=>(∀ i,w'.cell? ⟨w.heap.size,i,none⟩=([U O step,U O bucket,U O lo,U O hi,U O k,U O chunk]:List Value)[i]?)/\(w'.cell? ⟨b3,off3+so*2,none⟩=some (U O lo1)/\w'.cell? ⟨b3,off3+so*2+1,none⟩=some (U O hi1))/\(w'.cell? ⟨b3,off3+si*2,none⟩=some (U O lo2)/\w'.cell? ⟨b3,off3+si*2+1,none⟩=some (U O hi2)))
  (exact ⟨HM.out.cells 1 rfl,HM.out.range2 4 rfl HO.out,HM.out.range2 4 rfl HP.out⟩)
  (first
   | (go_at_call 167
      (with_reducible refine (C4.out _ _ (by assumption) (by omega) _).mono ?_)
      rintro e w4 ⟨v,rfl,hv,hb⟩;obtain ⟨A4,cap4,rfl,hcap4,hm⟩:=HM.out.call_rd hb hv;replace HM:=K1 hm
      clear hb hv hm C4)
   | (go_at_call 167
      (with_reducible refine (C5.out _ _ (by assumption) (by omega) _).mono ?_)
      rintro e w5 ⟨v,rfl,hv,hb⟩;obtain ⟨A5,cap5,rfl,hcap5,hm⟩:=HM.out.call_rd hb hv;replace HM:=K1 hm
      clear hb hv hm C5))
 have hx1:=Ei chunk (lo1,hi1);have hx2:=Ei chunk (lo2,hi2);have hx3:=Cm (hi1-lo1) chunk;have hx4:=Cm (hi2-lo2) chunk;unfold Bj at hx1 hx2 HRL;dsimp only at hx1 hx2 HRL;generalize B4 lo1 (Bd (hi1-lo1) chunk)=xs at *;generalize B4 lo2 (Bd (hi2-lo2) chunk)=ys at *;have hxl:xs.length<=1048576:=by omega
 have hyl:ys.length<=1048576:=by omega
 clear hx1 hx2 hx3 hx4;have HRR:=K1 (Xb hp hs)
 have HADD:=K1 (fun (send:Bool) (i:Nat) (acs acs':List Ac) (A F:Option Addr) (c cf n:Nat) (rs:List (Nat × Nat)) (ix:Nat) (W:World) (L:List Ch) (h:Mem W L)
  (hj:L[1]?=some (.obj w.heap.size (.cells (Jb.cells ⟨step,bucket,lo,hi,k,chunk⟩).toArray 277 (0,0)))) (hp':L[2]?=some (.obj (w.heap.size+1) (.cells #[U O ph] 3 (0,0)))) (hr:L[3]?=some (.obj (w.heap.size+1+1) (.cells #[U O r] 3 (0,0))))
  (hl:L[6]?=some (.obj w5.heap.size (.cells #[Us A acs.length c] 278 (0,0)))) (ho:L[7]?=some (.own w.heap.size 144 9 (Us A acs.length c) acs.length (acells acs)))
  (hx:L[ix]?=some (.rd F (rcells rs))) (hn:n=rs.length) (hm:acs.length<=100000000) (he:acs'=acs++(rs[i]?.map (BS ⟨step,bucket,lo,hi,k,chunk⟩ send ph r i)).toList)=>O8 W L h ⟨step,bucket,lo,hi,k,chunk⟩ send ph r n i w.heap.size (w.heap.size+1) (w.heap.size+1+1) w5.heap.size w.heap.size A F c cf acs acs' rs 1 2 3 6 7 ix hj hp' hr hl ho hx hn hp hm he)
 generalize hnx:xs.length=nx at *;generalize hny:ys.length=ny at *;have HX:=K1 hnx;have HY:=K1 hny
 obtain ⟨M,hMM⟩:∃ M,M=max nx ny:=⟨_,rfl⟩
 rw [<- hMM] at HRL;have HE:(ny<=nx/\M=nx)\/(nx<ny/\M=ny):=by omega
 have hM2:M<=1048576:=by omega
 have HE':=K1 HE;clear hnx hny hMM HE;have HM0:=K1 ((HM.out.alloc (.cells #[Us none 0 0] 278)).add (c:=.own w.heap.size 144 9 (Us none 0 0) 0 []) ⟨Bh _ _ _ _,Nat.le_trans (HM.out.bel 0 rfl).size (by simp)⟩ (fun _ _ _ _ g hg=>by cases hg));clear HM;go_wp2_with fail
 all_goals rcases HE'.out with ⟨h1,h2⟩ | ⟨h1,h2⟩
 all_goals first | (exfalso;omega) | subst h2
 all_goals
  clear HE' h1
  go_loopw [62] (fun i wr=>∃ (n:Nat) (A:Option Addr) (c:Nat),n<=M/\i=U O n/\Hid (Mem wr [.bel w.heap.size w,.obj w.heap.size (.cells (Jb.cells ⟨step,bucket,lo,hi,k,chunk⟩).toArray 277 (0,0)),.obj (w.heap.size+1) (.cells #[U O ph] 3 (0,0)),.obj (w.heap.size+1+1) (.cells #[U O r] 3 (0,0)),.rd A4 (rcells xs),.rd A5 (rcells ys),
    .obj w5.heap.size (.cells #[Us A (BU ⟨step,bucket,lo,hi,k,chunk⟩ ph r xs ys n).length c] 278 (0,0)),.own w.heap.size 144 9 (Us A (BU ⟨step,bucket,lo,hi,k,chunk⟩ ph r xs ys n).length c) (BU ⟨step,bucket,lo,hi,k,chunk⟩ ph r xs ys n).length (acells (BU ⟨step,bucket,lo,hi,k,chunk⟩ ph r xs ys n))])) (fun i _=>M-(intOf i).toNat)
  case atStart=>exact ⟨0,none,0,Xd _,rfl,K1 (HM0.out.pick [0,1,2,3,5,6,7,8] _ rfl (by decide))⟩
  case round =>
   clear HM0;obtain ⟨n,A,c,hn,rfl,HM⟩:=hrel
   by_cases hlt:n<M
   . have hsz:Hid ((BU ⟨step,bucket,lo,hi,k,chunk⟩ ph r xs ys n).length<=2*n):=K1 (GQ _ _ _ _ _ n);have HS:=K1 (FR ⟨step,bucket,lo,hi,k,chunk⟩ ph r xs ys n);unfold Dz at HS;generalize BU ⟨step,bucket,lo,hi,k,chunk⟩ ph r xs ys n=acs at *;rw [<- Xe] at HS
     obtain ⟨acs1,h1⟩:∃ acs1,acs1=acs++(Option.map (BS ⟨step,bucket,lo,hi,k,chunk⟩ true ph r n) xs[n]?).toList:=⟨_,rfl⟩
     rw [<- h1] at HS;have H1:=K1 h1;have hl1:Hid (acs1.length<=acs.length+1):=K1 (by rw [h1,Xa];cases xs[n]? <;> simp);clear h1
     obtain ⟨acs2,h2⟩:∃ acs2,acs2=BU ⟨step,bucket,lo,hi,k,chunk⟩ ph r xs ys (n+1):=⟨_,rfl⟩
     rw [<- h2] at HS;have H2:=K1 h2;clear h2;go_wp2_with fail
     (with_reducible refine (HADD.out true n acs acs1 A A4 c cap4 _ xs 4 _ _ HM.out rfl rfl rfl rfl rfl rfl HX.out.symm (by have:=hsz.out;omega) H1.out).mono ?_)
     rintro e w6 ⟨rfl,A1,c1,hm1⟩;have HM1:=K1 hm1;clear hm1 HM;go_wp2_with fail
     (with_reducible refine (HADD.out false n acs1 acs2 A1 A5 c1 cap5 _ ys 5 _ _ HM1.out rfl rfl rfl rfl rfl rfl HY.out.symm (by have:=hsz.out;have:=hl1.out;omega) HS.out).mono ?_)
     rintro e w7 ⟨rfl,A2,c2,hm2⟩;have HM2:=K1 hm2;clear hm2 HM1;go_wp2_with fail;go_roundw
     case rel =>
      refine ⟨n+1,A2,c2,by omega,by go_num,?_⟩;rw [<- H2.out];exact HM2
     case measure=>simp [intOf];omega
   . have hnM:n=M:=by omega
     subst hnM;have HF:=K1 (show Mem wr _/\_ from ⟨HM.out,HRL.out⟩);have c0:=HM.out.cell 6 0 rfl rfl;clear HM HRL;go_wp2_with fail;go_ret;refine ⟨_,rfl,?_⟩;rw [HF.out.2];exact ⟨HF.out.1.own 7 rfl,HF.out.1.bel 0 rfl⟩
structure Sg where
 As:Option Addr
 ns:Nat
 cs:Nat
 sh:Int
 ra:Int
 mo:Int
 k:Nat
 ba:Int
 mi:Nat
 st:Int
 bu:Int
 s:Nat
 wi:Int
 ca:Int
 Ab:Option Addr
 bs:List (Nat × Nat)
 cb:Nat
 Ag:Option Addr
 gs:List (Nat × Nat)
 cg:Nat
def Sg.cells (g:Sg):List Value:=[Us g.As g.ns g.cs,U O g.sh,U O g.ra,U O g.mo,U O g.k,U O g.ba,U O g.mi,U O g.st,U O g.bu,U O g.s,U O g.wi,U O g.ca,
 Us g.Ab g.bs.length g.cb,Us g.Ag g.gs.length g.cg]
def EH (bs:List (Nat × Nat)) (k s t b:Nat):Jb:=⟨t,b,(bs[b]?.getD (0,0)).1,(bs[b]?.getD (0,0)).2,k,s⟩
def BJ (t:Nat) (a:Ac):It:=⟨if a.send then 3 else 4,t,0,a⟩
def rndB (bs:List (Nat × Nat)) (k s t w q b:Nat):List It:=(Ca (EH bs k s t b) w (q / (k-1)) (q % (k-1))).map (BJ t)
def BV (bs:List (Nat × Nat)) (k s t w q lo n:Nat):List It:=(Xg n).flatMap fun i=>rndB bs k s t w q (lo+i)
def Cn (bs:List (Nat × Nat)) (k s t w lo n m:Nat):List It:=(Xg m).flatMap fun q=>BV bs k s t w q lo n
def DH (bs:List (Nat × Nat)) (k s t w:Nat) (g:Nat × Nat):List It:=Cn bs k s t w g.1 (g.2-g.1) (2*(k-1))
def B8 (kind t:Nat) (n:Nat):It:=⟨kind,t,n,Ac.zero⟩
def fromTo (kind t lo n:Nat):List It:=(Xg n).map fun i=>B8 kind t (lo+i)
def CJ (bs:List (Nat × Nat)) (k s t w:Nat) (g:Nat × Nat):List It:=fromTo 2 t g.1 (g.2-g.1)++DH bs k s t w g++fromTo 5 t g.1 (g.2-g.1)
def Cv (bs gs:List (Nat × Nat)) (k s mi t w:Nat):List It:=fromTo 1 t 0 mi++gs.flatMap (CJ bs k s t w)++[B8 6 t 0]
theorem IR (bs:List (Nat × Nat)) (k s t w q lo n:Nat):BV bs k s t w q lo (n+1)=BV bs k s t w q lo n++rndB bs k s t w q (lo+n):=by simp [BV,Xh]
theorem IS (bs:List (Nat × Nat)) (k s t w lo n m:Nat):Cn bs k s t w lo n (m+1)=Cn bs k s t w lo n m++BV bs k s t w m lo n:=by simp [Cn,Xh]
theorem Fd (kind t lo n:Nat):fromTo kind t lo (n+1)=fromTo kind t lo n++[B8 kind t (lo+n)]:=by simp [fromTo,Xh]
def BsOk (bs:List (Nat × Nat)):Prop:=∀ p∈bs,p.1<=p.2/\p.2<=1000
theorem KD {j:Jb} {u ph r:Nat} (h:j.lo<=j.hi) (hk:1<=j.workers) (hhi:j.hi<=1000):(Ca j u ph r).length<=2000:=by
 have hl1:=GL (w:=u) (ph:=ph) (r:=r) hk;have hl2:=GN (w:=u) (ph:=ph) (r:=r) hk;have hsl:(B1 j).length=j.workers:=by rw [B1,Eh,Ee]
 obtain ⟨p,hp⟩:=Au (B1 j) (segS j.workers u ph r) (by omega);obtain ⟨q,hq⟩:=Au (B1 j) (segR j.workers u ph r) (by omega);have h1:=EG h hk _ (Xc hp);have h2:=EG h hk _ (Xc hq);rw [GR hp hq];have h3:=GQ j ph r (Bj j.chunk p) (Bj j.chunk q) (max (Bj j.chunk p).length (Bj j.chunk q).length);have h4:=Ei j.chunk p;have h5:=Ei j.chunk q;have h6:=Cm (p.2-p.1) j.chunk;have h7:=Cm (q.2-q.1) j.chunk;have h8:max (Bj j.chunk p).length (Bj j.chunk q).length<=1000:=Nat.max_le.2 ⟨by omega,by omega⟩;omega
theorem GT {bs:List (Nat × Nat)} {k s t b x y:Nat} (h:bs[b]?=some (x,y)):EH bs k s t b=⟨t,b,x,y,k,s⟩:=by
 unfold EH;rw [h];rfl
theorem OY {bs:List (Nat × Nat)} {k s t w q b:Nat} (hb:BsOk bs) (hk:1<=k) (hlt:b<bs.length):(rndB bs k s t w q b).length<=2000:=by
 obtain ⟨p,hp⟩:=Au bs b hlt;obtain ⟨x,y⟩:=p;have:=hb _ (Xc hp);rw [rndB,Xn,GT hp];exact KD this.1 hk this.2
theorem GU {bs:List (Nat × Nat)} {k s t w q lo:Nat} (hb:BsOk bs) (hk:1<=k):∀ n,lo+n<=bs.length->(BV bs k s t w q lo n).length<=2000*n
 | 0,_=>by simp [BV]
 | n+1,h=>by
   rw [IR,Xa];have h1:=GU (s:=s) (t:=t) (w:=w) (q:=q) (lo:=lo) hb hk n (by omega);have h2:=OY (s:=s) (t:=t) (w:=w) (q:=q) (b:=lo+n) hb hk (by omega);omega
theorem Fe {bs:List (Nat × Nat)} {k s t w lo n:Nat} (hb:BsOk bs) (hk:1<=k) (h:lo+n<=bs.length):∀ m,(Cn bs k s t w lo n m).length<=2000*n*m
 | 0=>by simp [Cn]
 | m+1=>by
   rw [IS,Xa,Nat.mul_succ];have h1:=Fe (s:=s) (t:=t) (w:=w) hb hk h m;have h2:=GU (s:=s) (t:=t) (w:=w) (q:=m) hb hk n h;omega
def GsOk (n:Nat) (gs:List (Nat × Nat)):Prop:=∀ p∈gs,p.1<=p.2/\p.2<=n
def Bx (bs gs:List (Nat × Nat)) (k s t w m:Nat):List It:=(gs.take m).flatMap (CJ bs k s t w)
theorem IT {bs gs:List (Nat × Nat)} {k s t w m:Nat} {g:Nat × Nat} (h:gs[m]?=some g):Bx bs gs k s t w (m+1)=Bx bs gs k s t w m++CJ bs k s t w g:=by
 unfold Bx;rw [Xo,h,List.flatMap_append];simp
theorem Co (kind t lo n:Nat):(fromTo kind t lo n).length=n:=by simp [fromTo]
theorem KE {bs:List (Nat × Nat)} {k s t w:Nat} {g:Nat × Nat} (hb:BsOk bs) (hl:bs.length<=60) (hk:1<=k/\k<=8) (h1:g.1<=g.2) (h2:g.2<=bs.length):(CJ bs k s t w g).length<=2000000:=by
 unfold CJ DH;rw [Xa,Xa,Co,Co];have h:=Fe (s:=s) (t:=t) (w:=w) (lo:=g.1) (n:=g.2-g.1) hb hk.1 (by omega) (2*(k-1));have h3:2000*(g.2-g.1)*(2*(k-1))<=2000*60*14:=Xk (Xj _ (by omega)) (by omega);omega
theorem FS {bs gs:List (Nat × Nat)} {k s t w:Nat} (hb:BsOk bs) (hl:bs.length<=60) (hk:1<=k/\k<=8) (hg:GsOk bs.length gs):∀ m,m<=gs.length->(Bx bs gs k s t w m).length<=2000000*m
 | 0,_=>by simp [Bx]
 | m+1,h=>by
   obtain ⟨g,hgm⟩:=Au gs m (by omega);have:=hg _ (Xc hgm);rw [IT hgm,Xa];have h1:=FS (s:=s) (t:=t) (w:=w) hb hl hk hg m (by omega);have h2:=KE (s:=s) (t:=t) (w:=w) hb hl hk this.1 this.2;omega
def BW (base:Nat) (its:List It) (A:Option Addr) (c:Nat):Ch:=.own base 146 12 (Us A its.length c) its.length (icells its)
def Cb (bl step:Nat) (its:List It) (A:Option Addr) (c:Nat):Ch:=.obj bl (.cells #[U O step,Us A its.length c] 258 (0,0))
theorem FT (w:World) (L B:List Ch) (kind n step bl base:Nat) (x:Ac) (A:Option Addr) (c:Nat) (its:List It) (i o:Nat) (hne:i≠o) (hi:i<L.length) (ho:o<L.length)
  (h:Mem w (two L o i (BW base its A c) (Cb bl step its A c)++B)) (hl:its.length<=1000000000) :
  Calls Tryz.prog 141 #[.pointer (some ⟨bl,0,none⟩),U O kind,U O n,.agg x.cells.toArray] w fun e w'=>e=.returned (.tuple #[])/\∃ A' c',Mem w' (two L o i (BW base (its++[⟨kind,step,n,x⟩]) A' c') (Cb bl step (its++[⟨kind,step,n,x⟩]) A' c')++B):=by
 obtain ⟨a,ha⟩:=Au L i hi;obtain ⟨b,hb⟩:=Au L o ho;refine (O9 w _ h kind n step bl base x A c its i o (at_l (FD ha hne)) (at_l (I8 hb hne)) hl).mono ?_;rintro e w' ⟨he,A',c',h'⟩;refine ⟨he,A',c',?_⟩;rw [JT hb ha hne] at h';have e1:(its++[(⟨kind,step,n,x⟩:It)]).length=its.length+1:=by simp
 unfold BW Cb;rw [e1];exact h'
theorem Mem.action {W:World} {L:List Ch} (h:Mem W L) (ix:Nat) {b off i:Nat} {l:List Ac} {a:Ac} (hx:L[ix]?=some (.rd (some ⟨b,off,none⟩) (acells l))) (hi:l[i]?=some a) :
  W.cell? ⟨b,off+i*9,none⟩=some (.bool a.send)/\W.cell? ⟨b,off+i*9+1,none⟩=some (.bool a.add)/\W.cell? ⟨b,off+i*9+2,none⟩=some (U O a.step)/\W.cell? ⟨b,off+i*9+3,none⟩=some (U O a.bucket)/\W.cell? ⟨b,off+i*9+4,none⟩=some (U O a.phase) /\
  W.cell? ⟨b,off+i*9+5,none⟩=some (U O a.round)/\W.cell? ⟨b,off+i*9+6,none⟩=some (U O a.chunk)/\W.cell? ⟨b,off+i*9+7,none⟩=some (U O a.lo)/\W.cell? ⟨b,off+i*9+8,none⟩=some (U O a.hi):=by
 have key:∀ j u,a.cells[j]?=some u->W.cell? ⟨b,off+i*9+j,none⟩=some u:=fun j u hu=>by
  rw [Nat.add_assoc];exact h.rdAt ix hx (Ef Ac.cells 9 (fun _=>rfl) l i a hi j u hu)
 exact ⟨key 0 _ rfl,key 1 _ rfl,key 2 _ rfl,key 3 _ rfl,key 4 _ rfl,key 5 _ rfl,key 6 _ rfl,key 7 _ rfl,key 8 _ rfl⟩
theorem Mem.rdA {W:World} {L:List Ch} (h:Mem W L) (i:Nat) {A:Option Addr} {vs:List Value} (hi:L[i]?=some (.rd A vs)) (h0:0<vs.length):∃ b off,A=some ⟨b,off,none⟩:=by
 obtain ⟨b,off,e,_⟩:=h.rd i hi h0;exact ⟨b,off,e⟩
theorem OZ (w:World) (L:List Ch) (g:Sg) (u step bl base glo ghi:Nat) (A:Option Addr) (c:Nat) (its:List It) (il io ib:Nat) (hne:il≠io) (hi:il<L.length) (ho:io<L.length)
  (h:Mem w (two L io il (BW base its A c) (Cb bl step its A c))) (hb:L[ib]?=some (.rd g.Ab (rcells g.bs))) (h1:ib≠il) (h2:ib≠io)
  (hk:1<=g.k/\g.k<=1000) (hu:u<g.k) (hs:1<=g.s/\g.s<=1048576) (hB:BsOk g.bs) (hg1:glo<=ghi) (hg2:ghi<=g.bs.length) (hbl:g.bs.length<=1000) (hcb:g.bs.length<=g.cb) (hl:its.length+2000*(ghi-glo)*(2*(g.k-1))<=1000000000) :
  Calls Tryz.prog 142 #[.agg g.cells.toArray,.pointer (some ⟨bl,0,none⟩),U O u,.agg #[U O glo,U O ghi]] w fun e w'=>e=.returned (.tuple #[])/\∃ A' c',Mem w' (two L io il (BW base (its++DH g.bs g.k g.s step u (glo,ghi)) A' c') (Cb bl step (its++DH g.bs g.k g.s step u (glo,ghi)) A' c')):=by
 obtain ⟨As,ns,cs,sh,ra,mo,k,ba,mi,st,bu,s,wi,ca,Ab,bs,cb,Ag,gs,cg⟩:=g;dsimp only [Sg.cells,DH] at *
 obtain ⟨d,hd⟩:∃ d,d=k-1:=⟨_,rfl⟩
 rw [<- hd] at hl ⊢
 obtain ⟨m,hm⟩:∃ m,m=2*d:=⟨_,rfl⟩
 rw [<- hm] at hl ⊢
 obtain ⟨n,hn⟩:∃ n,n=ghi-glo:=⟨_,rfl⟩
 rw [<- hn] at hl ⊢;have e0:(k:Int)-1=(d:Int):=by omega
 have e1:(2:Int)*(d:Int)=(m:Int):=by omega
 have hm2:m<=2000:=by omega
 have hd2:d<=1000:=by omega
 have HMD:=K1 (Xb hm (Xb hd hn));have HRL:=K1 (fun q=>Fe (s:=s) (t:=step) (w:=u) (lo:=glo) (n:=n) hB hk.1 (by omega) q);have HRB:=K1 (fun q b (hb:glo+b<=bs.length)=>GU (s:=s) (t:=step) (w:=u) (q:=q) (lo:=glo) hB hk.1 b hb);have HBS:=K1 hB;have hmm:=(h.alloc (.cells (Sg.cells ⟨As,ns,cs,sh,ra,mo,k,ba,mi,st,bu,s,wi,ca,Ab,bs,cb,Ag,gs,cg⟩).toArray 210)).alloc (.cells #[U O glo,U O ghi] 47);simp only [Xi,Sg.cells] at hmm;have HM0:=K1 hmm.asc;have HIX:=K1 (Xb hne (Xb hi (Xb ho (Xb h1 (Xb h2 hb)))));have HL:=K1 hl;clear hmm hm hd hn h hB hne hi ho h1 h2 hb hl;go_enter Tryz.func142,Tryz.ntmps142
 go_wp2_with fail;generalize w.heap.size=B0 at *
 go_loopw [19] (fun i wr=>∃ (q:Nat) (A:Option Addr) (c:Nat),q<=m/\i=U O q/\Hid (Mem wr (two L io il (BW base (its++Cn bs k s step u glo n q) A c) (Cb bl step (its++Cn bs k s step u glo n q) A c) ++
   [.obj B0 (.cells #[Us As ns cs,U O sh,U O ra,U O mo,U O k,U O ba,U O mi,U O st,U O bu,U O s,U O wi,U O ca,Us Ab bs.length cb,Us Ag gs.length cg] 210 (0,0)),.obj (B0+1) (.cells #[U O glo,U O ghi] 47 (0,0))]))) (fun i _=>m-(intOf i).toNat)
 case atStart=>exact ⟨0,A,c,Xd _,rfl,K1 (by rw [show its++Cn bs k s step u glo n 0=its by simp [Cn]];exact HM0.out)⟩
 case round =>
  clear HM0;obtain ⟨q,A,c,hq,rfl,HM⟩:=hrel
  by_cases hlt:q<m
  . have c1:=HM.out.cells (L.length+1) (BK 1 rfl);go_wp2_with fail;clear c1;generalize hI1:its++Cn bs k s step u glo n q=its1 at *;have HI1:=K1 hI1;clear hI1
    go_loopw [9] (fun i wr=>∃ (b:Nat) (A:Option Addr) (c:Nat),b<=n/\i=U O (glo+b:Nat)/\Hid (Mem wr (two L io il (BW base (its1++BV bs k s step u q glo b) A c) (Cb bl step (its1++BV bs k s step u q glo b) A c) ++
      [.obj B0 (.cells #[Us As ns cs,U O sh,U O ra,U O mo,U O k,U O ba,U O mi,U O st,U O bu,U O s,U O wi,U O ca,Us Ab bs.length cb,Us Ag gs.length cg] 210 (0,0)),.obj (B0+1) (.cells #[U O glo,U O ghi] 47 (0,0))]))) (fun i _=>ghi-(intOf i).toNat)
    case atStart=>exact ⟨0,A,c,Xd _,rfl,K1 (by rw [show its1++BV bs k s step u q glo 0=its1 by simp [BV]];exact HM.out)⟩
    case round =>
     clear HM;obtain ⟨b,A,c,hb,rfl,HM⟩:=hrel;have c1:=HM.out.cells (L.length+1) (BK 1 rfl)
     obtain ⟨j,hj⟩:∃ j,j=glo+b:=⟨_,rfl⟩
     rw [<- hj]
     by_cases hltb:j<ghi
     . obtain ⟨p,hp⟩:=Au bs j (by omega);obtain ⟨x,y⟩:=p;have hxy:=HBS.out _ (Xc hp);dsimp only at hxy;have HXY:=K1 (Xb hp hxy);have HJ:=K1 hj;have hjl:j<bs.length:=by omega
       clear hj hp hxy;obtain ⟨bb,ob,rfl,_⟩:=HM.out.ranges ib (at_l (FE HIX.out.2.2.2.2.2 (Ne.symm HIX.out.2.2.2.2.1) (Ne.symm HIX.out.2.2.2.1))) (by omega);go_wp2_with fail
       refine FJ 17 1 (fun W'=>W'.cell? ⟨bl,0,none⟩=some (U O step)/\(∀ i,W'.cell? ⟨B0,i,none⟩=([Us As ns cs,U O sh,U O ra,U O mo,U O k,U O ba,U O mi,U O st,U O bu,U O s,U O wi,U O ca,Us (some ⟨bb,ob,none⟩) bs.length cb,Us Ag gs.length cg]:List Value)[i]?)/\W'.cell? ⟨bb,ob+j*2,none⟩=some (U O x)/\W'.cell? ⟨bb,ob+j*2+1,none⟩=some (U O y))
        (by kernel_rfl) (by kernel_rfl) (by kernel_rfl) (by intro d v c a w h;cases d <;> exact h)
        ⟨HM.out.drew.cell il 0 (at_l (FD (Au L il HIX.out.2.1).choose_spec HIX.out.1)) rfl,HM.out.drew.cells (L.length+0) (BK 0 rfl),HM.out.drew.range2 ib (at_l (FE HIX.out.2.2.2.2.2 (Ne.symm HIX.out.2.2.2.2.1) (Ne.symm HIX.out.2.2.2.1))) HXY.out.1⟩ ?_
       apply Exists.intro;apply Xb
       . intro W' hS;obtain ⟨s1,s2,s3,s4⟩:=hS;simp only [Xp,Xl]
         repeat still_step
         exact wpStill_nil rfl
       simp only [List.drop_succ_cons,List.drop_zero,Xp,Xl];refine Spine.step ?_;go_wp2_with fail;have HMa:=K1 (HM.out.drew.alloc (.cells #[U O 0,U O 0,U O 0,U O 0,U O 0,U O 0] 277));refine Behind.go ⟨HMa.out.cell il 0 (at_l (at_l (FD (Au L il HIX.out.2.1).choose_spec HIX.out.1))) rfl,HMa.out.cells (L.length+0) (at_l (BK 0 rfl)),HMa.out.range2 ib (at_l (at_l (FE HIX.out.2.2.2.2.2 (Ne.symm HIX.out.2.2.2.2.1) (Ne.symm HIX.out.2.2.2.1)))) HXY.out.1⟩ (Spine.nil_ ?_);clear HMa;go_wp2_with fail;refine A9 fun W2 hW=>?_;have HM2:=K1 (HM.out.allocd hW.out).asc;clear hW HM;generalize wr.heap.size=gj at *
       obtain ⟨ph,hph⟩:∃ ph,ph=q / d:=⟨_,rfl⟩
       obtain ⟨rr,hrr⟩:∃ rr,rr=q % d:=⟨_,rfl⟩
       have e2:(q:Int).tdiv (d:Int)=(ph:Int):=by rw [hph];exact (Int.ofNat_tdiv _ _).symm
       have e3:(q:Int).tmod (d:Int)=(rr:Int):=by rw [hrr];exact (Int.ofNat_tmod _ _).symm
       have hd1:1<=d:=by have:=HMD.out.1;omega
       have hph1:ph<=1:=by
        have h1:q<2*d:=by have:=HMD.out.1;omega
        rw [hph];have:=(Nat.div_lt_iff_lt_mul hd1).2 h1;omega
       have hrr1:rr+1<k:=by have:=Nat.mod_lt q hd1;have:=HMD.out.2.1;omega
       have HPR:=K1 (Xb hph hrr);clear hph hrr;have w1:IntKind.i64.wrap (d:Int)=(d:Int):=Xm _ (by omega);have w2:IntKind.i64.wrap (ph:Int)=(ph:Int):=Xm _ (by omega);have w3:IntKind.i64.wrap (rr:Int)=(rr:Int):=Xm _ (by omega);have hd0:¬ d=0:=by omega
       have CR:=K1 (fun W=>OX ⟨step,j,x,y,k,s⟩ u ph rr W hk hu hrr1 hph1 HXY.out.2.1 (Nat.le_trans HXY.out.2.2 (by decide)) hs);dsimp only [Jb.cells] at CR;replace HM2:=K1 HM2.out.drew
       refine K7 [0,1,2,3,4,5,6,7,8,9,10,11,12,13,16] [14,15] (fun w'=>(∀ i,w'.cell? ⟨gj,i,none⟩=([U O step,U O j,U O x,U O y,U O k,U O s]:List Value)[i]?)/\(∀ i,w'.cell? ⟨B0,i,none⟩=([Us As ns cs,U O sh,U O ra,U O mo,U O k,U O ba,U O mi,U O st,U O bu,U O s,U O wi,U O ca,Us (some ⟨bb,ob,none⟩) bs.length cb,Us Ag gs.length cg]:List Value)[i]?))
        (by kernel_rfl) (by kernel_rfl) (by kernel_rfl) (by kernel_rfl) (by intro d v c a w h;cases d <;> exact h)
        ⟨HM2.out.cells (L.length+2) (BK 2 rfl),HM2.out.cells (L.length+0) (BK 0 rfl)⟩ ?_
       simp only [AW,p1,p2,p3,p4];apply Exists.intro;apply Xb
       . intro W' hS;obtain ⟨s1,s2⟩:=hS
         repeat still_step
         exact wpStill_nil rfl
       refine Spine.step ?_;go_wp2_with fail
       (with_reducible refine (CR.out _).mono ?_)
       rintro e w4 ⟨v,rfl,hv,hb⟩;obtain ⟨A4,cap4,rfl,hcap,hmm⟩:=HM2.out.call_rd hb hv;replace HM2:=K1 hmm.asc;clear hb hv hmm CR;go_wp2_with fail;refine Behind.go ⟨HM2.out.cells (L.length+2) (BK 2 rfl),HM2.out.cells (L.length+0) (BK 0 rfl)⟩ (Spine.step ?_);go_wp2_with fail;refine Behind.go ⟨HM2.out.cells (L.length+2) (BK 2 rfl),HM2.out.cells (L.length+0) (BK 0 rfl)⟩ (Spine.nil_ ?_)
       have HRND:Hid (BV bs k s step u q glo (b+1)=BV bs k s step u q glo b++(Ca ⟨step,j,x,y,k,s⟩ u ph rr).map (BJ step)):=K1 (by
        rw [IR,rndB,<- HJ.out,GT HXY.out.1,<- HMD.out.2.1,<- HPR.out.1,<- HPR.out.2])
       have HAL:=K1 (show (Ca ⟨step,j,x,y,k,s⟩ u ph rr).length<=2000 from KD HXY.out.2.1 hk.1 HXY.out.2.2);generalize Ca ⟨step,j,x,y,k,s⟩ u ph rr=acs at *
       have HIL:Hid ((its1++BV bs k s step u q glo b).length+2000<=1000000000):=K1 (by
        have h1:=HRL.out q;have h2:=HRB.out q b (by have:=HJ.out;omega);have h3:2000*n*(q+1)<=2000*n*m:=Xj _ (by omega);rw [Nat.mul_succ] at h3;have h4:=HL.out;have h5:=HJ.out;have h6:=HMD.out.2.2;rw [Xa,<- HI1.out,Xa]
        omega)
       generalize hI2:its1++BV bs k s step u q glo b=its2 at *;have HI2:=K1 hI2;clear hI2 w1 w2 w3 e2 e3;go_wp2_with fail
       go_loopw [63] (fun i wr=>∃ (e:Nat) (A:Option Addr) (c:Nat),e<=acs.length/\i=U O e/\Hid (Mem wr (two L io il (BW base (its2++(acs.take e).map (BJ step)) A c) (Cb bl step (its2++(acs.take e).map (BJ step)) A c) ++
         [.obj B0 (.cells #[Us As ns cs,U O sh,U O ra,U O mo,U O k,U O ba,U O mi,U O st,U O bu,U O s,U O wi,U O ca,Us (some ⟨bb,ob,none⟩) bs.length cb,Us Ag gs.length cg] 210 (0,0)),.obj (B0+1) (.cells #[U O glo,U O ghi] 47 (0,0)),.obj gj (.cells #[U O step,U O j,U O x,U O y,U O k,U O s] 277 (0,0)),.rd A4 (acells acs)]))) (fun i _=>acs.length-(intOf i).toNat)
       case atStart=>exact ⟨0,A,c,Xd _,rfl,K1 (by rw [Xl,List.map_nil,Xf];exact HM2.out)⟩
       case round =>
        clear HM2;obtain ⟨e,A,c,he,rfl,HM⟩:=hrel;have hal:=HAL.out
        by_cases hlte:e<acs.length
        . obtain ⟨a,ha⟩:=Au acs e hlte;obtain ⟨b4,o4,rfl⟩:=HM.out.rdA (L.length+3) (BK 3 rfl) (by rw [JX];omega)
          have HTK:Hid (its2++(acs.take (e+1)).map (BJ step)=(its2++(acs.take e).map (BJ step))++[BJ step a]):=K1 (by
           rw [Xo,ha,List.map_append,Xe];rfl)
          have HIE:Hid ((its2++(acs.take e).map (BJ step)).length<=1000000000):=K1 (by
           have:=HIL.out;have:=HAL.out;rw [Xa,Xn,List.length_take]
           omega)
          have hact:=HM.out.action (L.length+3) (BK 3 rfl) ha;clear ha;obtain ⟨sd,ad,st',bk,ph',rd',ck,lo',hi'⟩:=a;dsimp only at hact;obtain ⟨q0,q1,q2,q3,q4,q5,q6,q7,q8⟩:=hact
          cases sd
          all_goals
           go_wp2_with fail;refine Dw fun W3 hW=>?_;have HM3:=K1 (HM.out.alloc_ hW.out).asc;clear hW q0 q1 q2 q3 q4 q5 q6 q7 q8;refine (FT W3 L _ _ 0 step bl base ⟨_,ad,st',bk,ph',rd',ck,lo',hi'⟩ A c _ il io HIX.out.1 HIX.out.2.1 HIX.out.2.2.1 HM3.out HIE.out).mono ?_;rintro e' w5 ⟨rfl,A5,c5,hm5⟩;have HM5:=K1 (hm5.left2 (B:=[_,_,_,_]) (C:=[_]));clear hm5 HM3 HM;go_wp2_with fail;go_roundw
           case rel =>
            refine ⟨e+1,A5,c5,by omega,by go_num,?_⟩;rw [HTK.out];exact HM5
           case measure=>simp [intOf];omega
        . have hel:e=acs.length:=by omega
          subst hel
          have HF:=K1 (show Mem wr (two L io il (BW base (its1++BV bs k s step u q glo (b+1)) A c) (Cb bl step (its1++BV bs k s step u q glo (b+1)) A c)++[_,_]) by
           have:=HM.out;rw [Xq,<- HI2.out,Xe,<- HRND.out] at this
           exact this.left2 (B:=[_,_]) (C:=[_,_]))
          clear HM;go_wp2_with fail;go_roundw
          case rel=>exact ⟨b+1,A,c,by have:=HJ.out;have:=HMD.out.2.2;omega,congrArg (Value.int .i64) (by have:=HJ.out;omega),HF⟩
          case measure=>simp [intOf];omega
     . have hbn:b=n:=by have:=HMD.out.2.2;omega
       subst hbn
       have HF:=K1 (show Mem wr (two L io il (BW base (its++Cn bs k s step u glo b (q+1)) A c) (Cb bl step (its++Cn bs k s step u glo b (q+1)) A c)++[_,_]) by
        have:=HM.out;rw [<- HI1.out,Xe,<- IS] at this
        exact this)
       clear HM hj;go_wp2_with fail;go_roundw
       case rel=>exact ⟨q+1,A,c,by omega,by go_num,HF⟩
       case measure=>simp [intOf];omega
  . have hqm:q=m:=by omega
    subst hqm;have HF:=K1 HM.out.left;clear HM;go_wp2_with fail
    go_end0
    exact ⟨rfl,A,c,HF.out⟩
def BX (w:World) (B0:Nat) (Ab:Option Addr) (bs:List (Nat × Nat)) (Ag:Option Addr) (gs:List (Nat × Nat)) (cs:Array Value):List Ch :=
 [.bel B0 w,.rd Ab (rcells bs),.rd Ag (rcells gs),.obj B0 (.cells cs 210 (0,0)),.rd none [],.rd none []]
section
variable {w:World} {B0:Nat} {Ab Ag:Option Addr} {bs gs:List (Nat × Nat)} {cs:Array Value}
theorem GW:4<(BX w B0 Ab bs Ag gs cs).length:=(by decide:4<6)
theorem GX:5<(BX w B0 Ab bs Ag gs cs).length:=(by decide:5<6)
theorem Pa {c:Ch}:4<(BX w B0 Ab bs Ag gs cs++[c]).length:=by simp [BX]
theorem Pb {c:Ch}:5<(BX w B0 Ab bs Ag gs cs++[c]).length:=by simp [BX]
end
theorem KF (w:World) (g:Sg) (u t:Nat) (hr1:RdR w w.heap.size g.Ab g.bs) (hr2:RdR w w.heap.size g.Ag g.gs)
  (hk:1<=g.k/\g.k<=8) (hu:u<g.k) (hs:1<=g.s/\g.s<=1048576) (hB:BsOk g.bs) (hbl:g.bs.length<=60) (hcb:g.bs.length<=g.cb) (hG:GsOk g.bs.length g.gs) (hgl:g.gs.length<=60) (hcg:g.gs.length<=g.cg) (hmi:g.mi<=1000) :
  Calls Tryz.prog 108 #[.agg g.cells.toArray,U O u,U O t] w fun e w'=>∃ A c,e=.returned (Us A (Cv g.bs g.gs g.k g.s g.mi t u).length c) /\
   w'.ownsRow w.heap.size 146 12 (Us A (Cv g.bs g.gs g.k g.s g.mi t u).length c) (Cv g.bs g.gs g.k g.s g.mi t u).length (icells (Cv g.bs g.gs g.k g.s g.mi t u))/\Below w.heap.size w w':=by
 obtain ⟨As,ns,cs,sh,ra,mo,k,ba,mi,st,bu,s,wi,ca,Ab,bs,cb,Ag,gs,cg⟩:=g;dsimp only [Sg.cells] at *;have hmm:=((((Mem.start w).add_rd (i:=0) rfl hr1).add_rd (i:=0) rfl hr2).alloc (.cells (Sg.cells ⟨As,ns,cs,sh,ra,mo,k,ba,mi,st,bu,s,wi,ca,Ab,bs,cb,Ag,gs,cg⟩).toArray 210)).alloc (.cells #[U O t,Us none 0 0] 258);simp only [Xi,Sg.cells] at hmm;have hm2:=hmm.add (c:=BW w.heap.size [] none 0) ⟨Bh _ _ _ _,by simp only [Xi];omega⟩ (fun _ _ _ _ g hg=>by cases hg)
 have HM0:=K1 (show Mem _ (two (BX w w.heap.size Ab bs Ag gs #[Us As ns cs,U O sh,U O ra,U O mo,U O k,U O ba,U O mi,U O st,U O bu,U O s,U O wi,U O ca,Us Ab bs.length cb,Us Ag gs.length cg]) 5 4 (BW w.heap.size (fromTo 1 t 0 0) none 0) (Cb (w.heap.size+1) t (fromTo 1 t 0 0) none 0)) from hm2);have HB:=K1 hB;have HG:=K1 hG;have hgl2:=K1 (fun m=>FS (s:=s) (t:=t) (w:=u) hB hbl hk hG m);clear hmm hm2 hB hG hr1 hr2;go_enter Tryz.func108,Tryz.ntmps108;go_wp2_with fail;refine A9 fun W0 hW0=>?_;replace HM0:=K1 (hW0.out.symm ▸ HM0.out);clear hW0
 obtain ⟨CS,hCS⟩:∃ CS:Array Value,CS=#[Us As ns cs,U O sh,U O ra,U O mo,U O k,U O ba,U O mi,U O st,U O bu,U O s,U O wi,U O ca,Us Ab bs.length cb,Us Ag gs.length cg]:=⟨_,rfl⟩
 rw [<- hCS] at HM0;have HCS:=K1 hCS;clear hCS;generalize hB0:w.heap.size=B0 at *;have HB0:=K1 hB0;clear hB0
 go_loopw [22] (fun i wr=>∃ (n:Nat) (A:Option Addr) (c:Nat),n<=mi/\i=U O n/\Hid (Mem wr (two (BX w B0 Ab bs Ag gs CS) 5 4 (BW B0 (fromTo 1 t 0 n) A c) (Cb (B0+1) t (fromTo 1 t 0 n) A c)))) (fun i _=>mi-(intOf i).toNat)
 case atStart=>exact ⟨0,none,0,Xd _,rfl,HM0⟩
 case round =>
  clear HM0;obtain ⟨n,A,c,hn,rfl,HM⟩:=hrel
  by_cases hlt:n<mi
  . go_wp2_with fail;refine (FT wr (BX w B0 Ab bs Ag gs CS) [] 1 n t (B0+1) B0 Ac.zero A c (fromTo 1 t 0 n) 4 5 (by decide) GW GX (by rw [Xf];exact HM.out) (by rw [Co];omega)).mono ?_;rintro e w1 ⟨rfl,A1,c1,hm1⟩;rw [Xf] at hm1;have HM1:=K1 (show Mem w1 (two (BX w B0 Ab bs Ag gs CS) 5 4 (BW B0 (fromTo 1 t 0 (n+1)) A1 c1) (Cb (B0+1) t (fromTo 1 t 0 (n+1)) A1 c1)) by rw [Fd,Nat.zero_add];exact hm1);clear hm1 HM;go_wp2_with fail;go_roundw
    case rel=>exact ⟨n+1,A1,c1,by omega,by go_num,HM1⟩
    case measure=>simp [intOf];omega
  . have hnm:n=mi:=by omega
    subst hnm
    have c0:∀ i,wr.cell? ⟨B0,i,none⟩=([Us As ns cs,U O sh,U O ra,U O mo,U O k,U O ba,U O n,U O st,U O bu,U O s,U O wi,U O ca,Us Ab bs.length cb,Us Ag gs.length cg]:List Value)[i]?:=by
     have:=HM.out.cells 3 rfl;rw [HCS.out] at this;exact this
    go_wp2_with fail;have HI0:Hid ((fromTo 1 t 0 n).length<=1000):=K1 (by rw [Co];exact hmi);have HI00:Hid (fromTo 1 t 0 n=_):=K1 rfl;generalize hI0:fromTo 1 t 0 n=its0 at *;clear HI00;have HIQ:=K1 hI0;clear hI0
    go_loopw [33] (fun i wr=>∃ (m:Nat) (A:Option Addr) (c:Nat),m<=gs.length/\i=U O m/\Hid (Mem wr (two (BX w B0 Ab bs Ag gs CS) 5 4 (BW B0 (its0++Bx bs gs k s t u m) A c) (Cb (B0+1) t (its0++Bx bs gs k s t u m) A c)))) (fun i _=>gs.length-(intOf i).toNat)
    case atStart=>exact ⟨0,A,c,Xd _,rfl,K1 (by rw [show its0++Bx bs gs k s t u 0=its0 by simp [Bx]];exact HM.out)⟩
    case round =>
     clear HM c0;obtain ⟨m,A,c,hm,rfl,HM⟩:=hrel
     by_cases hltm:m<gs.length
     . obtain ⟨p,hp⟩:=Au gs m hltm;obtain ⟨lo,hi⟩:=p;have hpp:=HG.out _ (Xc hp);dsimp only at hpp;obtain ⟨hp1,hp2⟩:=hpp;obtain ⟨bg,og,rfl⟩:=HM.out.rdA 2 rfl (by rw [En];omega);obtain ⟨d1,d2⟩:=HM.out.range2 2 rfl hp;have HP:=K1 hp;clear hp;go_wp2_with fail;refine A9 fun W hW=>?_;replace HM:=K1 (HM.out.alloc_ hW.out);clear hW d1 d2;generalize wr.heap.size=gw at *
       have HLN:Hid ((its0++Bx bs gs k s t u m).length<=200000000):=K1 (by
        have h1:=hgl2.out m (by omega);have h2:=HI0.out;rw [Xa]
        omega)
       generalize hI1:its0++Bx bs gs k s t u m=its1 at *;have HI1:=K1 hI1;clear hI1
       go_loopw [12] (fun i wr=>∃ (b:Nat) (A:Option Addr) (c:Nat),b<=hi-lo/\i=U O (lo+b:Nat)/\Hid (Mem wr (two (BX w B0 Ab bs (some ⟨bg,og,none⟩) gs CS) 5 4 (BW B0 (its1++fromTo 2 t lo b) A c) (Cb (B0+1) t (its1++fromTo 2 t lo b) A c)++[.obj gw (.cells #[U O lo,U O hi] 47 (0,0))]))) (fun i _=>hi-(intOf i).toNat)
       case atStart=>exact ⟨0,_,_,Xd _,rfl,K1 (by rw [show its1++fromTo 2 t lo 0=its1 by simp [fromTo]];exact HM.out)⟩
       case round =>
        clear HM;obtain ⟨b,A,c,hb,rfl,HM⟩:=hrel
        obtain ⟨j,hj⟩:∃ j,j=lo+b:=⟨_,rfl⟩
        rw [<- hj];have hjb:j<=60:=by omega
        have HJ:=K1 hj;clear hj;have q1:=HM.out.cells 6 rfl
        by_cases hltb:j<hi
        . have HLE:=K1 (show (its1++fromTo 2 t lo b).length<=1000000000 by rw [Xa,Co];have:=HLN.out;omega);go_wp2_with fail;refine (FT wr (BX w B0 Ab bs (some ⟨bg,og,none⟩) gs CS) [_] 2 j t (B0+1) B0 Ac.zero A c _ 4 5 (by decide) GW GX HM.out HLE.out).mono ?_;rintro e w1 ⟨rfl,A1,c1,hm1⟩
          have HM1:=K1 (show Mem w1 (two (BX w B0 Ab bs (some ⟨bg,og,none⟩) gs CS) 5 4 (BW B0 (its1++fromTo 2 t lo (b+1)) A1 c1) (Cb (B0+1) t (its1++fromTo 2 t lo (b+1)) A1 c1)++[_]) by
           rw [Fd,<- Xe,B8,<- HJ.out];exact hm1)
          clear hm1 HM q1;go_wp2_with fail;go_roundw
          case rel=>exact ⟨b+1,A1,c1,by have:=HJ.out;omega,congrArg (Value.int .i64) (by have:=HJ.out;omega),HM1⟩
          case measure=>simp [intOf];omega
        . have hbe:b=hi-lo:=by have:=HJ.out;omega
          subst hbe
          have HCR:Hid (∀ i,wr.cell? ⟨B0,i,none⟩=([Us As ns cs,U O sh,U O ra,U O mo,U O k,U O ba,U O n,U O st,U O bu,U O s,U O wi,U O ca,Us Ab bs.length cb,Us (some ⟨bg,og,none⟩) gs.length cg]:List Value)[i]?):=K1 (by
           have:=HM.out.cells 3 rfl;rw [HCS.out] at this
           exact this)
          have c0:=HCR.out;generalize hI2:its1++fromTo 2 t lo (hi-lo)=its2 at *;have HI2:=K1 hI2;have HL2:=K1 (show its2.length<=200000060 by rw [<- hI2,Xa,Co];have:=HLN.out;omega);clear hI2;go_wp2_with fail
          refine (OZ wr (BX w B0 Ab bs (some ⟨bg,og,none⟩) gs CS++[Ch.obj gw (Obj.cells #[U O lo,U O hi] 47 (0,0))]) ⟨As,ns,cs,sh,ra,mo,k,ba,n,st,bu,s,wi,ca,Ab,bs,cb,some ⟨bg,og,none⟩,gs,cg⟩ u t (B0+1) B0 lo hi A c its2 4 5 1 (by decide) Pa Pb HM.out rfl (by decide) (by decide) (by dsimp only;omega) hu hs HB.out hp1 hp2 (by dsimp only;omega) hcb
           (by
            dsimp only;have h3:2000*(hi-lo)*(2*(k-1))<=2000*60*14:=Xk (Xj _ (by omega)) (by omega);have:=HL2.out
            omega)).mono ?_
          dsimp only;rintro e w2 ⟨rfl,A2,c2,hm2⟩
          have HL3:Hid ((its2++DH bs k s t u (lo,hi)).length<=300000000):=K1 (by
           have h:=Fe (s:=s) (t:=t) (w:=u) (lo:=lo) (n:=hi-lo) HB.out hk.1 (by omega) (2*(k-1));have h3:2000*(hi-lo)*(2*(k-1))<=2000*60*14:=Xk (Xj _ (by omega)) (by omega);have h4:=HL2.out;rw [Xa];unfold DH;dsimp only
           omega)
          generalize hI3:its2++DH bs k s t u (lo,hi)=its3 at *;have HI3:=K1 hI3;clear hI3 c0 q1;replace HM:=K1 (show Mem w2 (two (BX w B0 Ab bs (some ⟨bg,og,none⟩) gs CS) 5 4 (BW B0 its3 A2 c2) (Cb (B0+1) t its3 A2 c2)++[.obj gw (.cells #[U O lo,U O hi] 47 (0,0))]) from hm2);clear hm2;have c6:=HM.out.cells 6 rfl;go_wp2_with fail;clear c6
          go_loopw [13] (fun i wr=>∃ (b:Nat) (A:Option Addr) (c:Nat),b<=hi-lo/\i=U O (lo+b:Nat)/\Hid (Mem wr (two (BX w B0 Ab bs (some ⟨bg,og,none⟩) gs CS) 5 4 (BW B0 (its3++fromTo 5 t lo b) A c) (Cb (B0+1) t (its3++fromTo 5 t lo b) A c)++[.obj gw (.cells #[U O lo,U O hi] 47 (0,0))]))) (fun i _=>hi-(intOf i).toNat)
          case atStart=>exact ⟨0,_,_,Xd _,rfl,K1 (by rw [show its3++fromTo 5 t lo 0=its3 by simp [fromTo]];exact HM.out)⟩
          case round =>
           clear HM;obtain ⟨b,A,c,hb,rfl,HM⟩:=hrel
           obtain ⟨j,hj⟩:∃ j,j=lo+b:=⟨_,rfl⟩
           rw [<- hj];have hjb:j<=60:=by omega
           have HJ:=K1 hj;clear hj;have q1:=HM.out.cells 6 rfl
           by_cases hltb:j<hi
           . have HLE:=K1 (show (its3++fromTo 5 t lo b).length<=1000000000 by rw [Xa,Co];have:=HL3.out;omega);go_wp2_with fail;refine (FT wr (BX w B0 Ab bs (some ⟨bg,og,none⟩) gs CS) [_] 5 j t (B0+1) B0 Ac.zero A c _ 4 5 (by decide) GW GX HM.out HLE.out).mono ?_;rintro e w1 ⟨rfl,A1,c1,hm1⟩
             have HM1:=K1 (show Mem w1 (two (BX w B0 Ab bs (some ⟨bg,og,none⟩) gs CS) 5 4 (BW B0 (its3++fromTo 5 t lo (b+1)) A1 c1) (Cb (B0+1) t (its3++fromTo 5 t lo (b+1)) A1 c1)++[_]) by
              rw [Fd,<- Xe,B8,<- HJ.out];exact hm1)
             clear hm1 HM q1;go_wp2_with fail;go_roundw
             case rel=>exact ⟨b+1,A1,c1,by have:=HJ.out;omega,congrArg (Value.int .i64) (by have:=HJ.out;omega),HM1⟩
             case measure=>simp [intOf];omega
           . have hbe:b=hi-lo:=by have:=HJ.out;omega
             subst hbe
             have HF:=K1 (show Mem wr (two (BX w B0 Ab bs (some ⟨bg,og,none⟩) gs CS) 5 4 (BW B0 (its0++Bx bs gs k s t u (m+1)) A c) (Cb (B0+1) t (its0++Bx bs gs k s t u (m+1)) A c)) by
              have:=HM.out.left;rw [IT HP.out,CJ];rw [<- HI3.out,<- HI2.out,<- HI1.out] at this
              simpa only [Xe] using this)
             clear HM;go_wp2_with fail;go_roundw
             case rel=>exact ⟨m+1,A,c,by omega,by go_num,HF⟩
             case measure=>simp [intOf];omega
     . have hml:m=gs.length:=by omega
       subst hml
       have HLG:Hid ((its0++Bx bs gs k s t u gs.length).length<=200000000):=K1 (by
        have h1:=hgl2.out gs.length (Nat.le_refl _);have h2:=HI0.out;rw [Xa]
        omega)
       have HFIN:Hid (its0++Bx bs gs k s t u gs.length++[B8 6 t 0]=Cv bs gs k s n t u):=K1 (by
        rw [Cv,HIQ.out,Bx,Xq])
       generalize its0++Bx bs gs k s t u gs.length=its1 at *;go_wp2_with fail;refine (FT wr (BX w B0 Ab bs Ag gs CS) [] 6 0 t (B0+1) B0 Ac.zero A c its1 4 5 (by decide) GW GX (by rw [Xf];exact HM.out) (by have:=HLG.out;omega)).mono ?_;rintro e w1 ⟨rfl,A1,c1,hm1⟩;rw [Xf] at hm1;have HM1:=K1 hm1;have cc1:=hm1.cells 4 rfl;clear hm1 HM;go_wp2_with fail;go_ret;rw [<- HFIN.out,HB0.out];exact ⟨A1,c1,by rw [Xa];rfl,HM1.out.own 5 rfl,HM1.out.bel 0 rfl⟩
end
end Go.Proofs.YtdpojpcoghcieaaGreat
