/- A part of the proof of TopTags: Micro, Fixp, Sum, Vec. Conditions: none. -/
import Derived.Laws.Bits64b
import Derived.Test.YtdpojpcoghcieaaGreatSxAL
import Derived.Test.YtdpojpcoghcieaaGreatSxAB
set_option maxHeartbeats 8000000
set_option linter.all false
namespace Go.Proofs.YtdpojpcoghcieaaGreat
open Lib renaming hid → K1
open Go.RowKit
set_option maxRecDepth 100000
open Value renaming int → U, slice → Us
open IntKind renaming i64 → O
open And renaming intro → XL
open Nat renaming le_refl → XM, mod_lt → XQ, zero_le → XT, mul_le_mul_right → XU, succ_mul → XV, div_add_mod → XW, lt_of_lt_of_le → Yf
open Below renaming refl → XN
open Int renaming natCast_mul → XO, mul_assoc → XS, add_mul → XY, mul_add → XZ
open World renaming putObj_heap_other → XP, putObj_heap_same → Yo
open Mem renaming start → XR
open Option renaming map_some → XX
open IntWalk renaming i64_in → Ya
open List renaming getElem?_eq_getElem → Yb, getElem?_map → Yc, getElem?_range → Yd, mem_of_getElem? → Ye, size_toArray → Yg, length_cons → Yh, length_nil → Yi, push_toArray → Yj, append_toArray → Yk, nil_append → Yl, cons_append → Ym, length_take → Yn, length_set → Yp
section
def subL {α:Type} (l:List α) (a b:Nat):List α:=(l.drop a).take (b-a)
theorem Dc {α:Type} {l:List α} {a b:Nat} (h:a<=b) (hb:b<=l.length):(subL l a b).length=b-a:=by simp [subL];omega
theorem P3 {α:Type} {l:List α} {a b j:Nat} (hj:j<b-a):(subL l a b)[j]?=l[a+j]?:=by
 simp [subL,hj]
theorem Hf (l:List Nat) (a b:Nat):Ah (subL l a b)=subL (Ah l) a b:=by simp [Ah,subL,List.map_take,List.map_drop]
theorem DV (l:List Nat):(Ah l).length=l.length:=by simp [Ah]
theorem Rd.sub {w:World} {B:Nat} {A:Option Addr} {vs:List Value} (h:Rd w B A vs) (l m:Nat) (hm:m<=vs.length) :
  Rd w B (if m=l then A else A.map fun p=>p.add l) (subL vs l m):=fun h0=>by
 have h1:l<m:=by simp [subL] at h0;omega
 obtain ⟨b,off,e,hb,hc⟩:=h (by omega);refine ⟨b,off+l,by rw [if_neg (by omega),e];simp [Addr.add],hb,fun j u hu=>?_⟩
 have hj:j<m-l:=by
  have:=(List.getElem?_eq_some_iff.1 hu).1;simp [subL] at this;omega
 rw [P3 hj] at hu;rw [Nat.add_assoc];exact hc _ u hu
theorem Af {w:World} {g:Nat} {cs:Array Value} {t:TypeId} (h:w.heap[g]?=some (.cells cs t (0,0))) (k:Nat):w.cell? ⟨g,k,none⟩=cs.toList[k]?:=by
 rw [Ay h,Array.getElem?_toList]
theorem Hh (ds:List Nat) (a n:Nat):(Cd ds a n).length=n:=GZ _ _ _
def BD (ds:List Nat) (n batch t:Nat):List Nat:=subL (Cd ds (t / (n / batch)*(n-1)) n) (t % (n / batch)*batch) (t % (n / batch)*batch+batch)
def B5 {α:Type} (l:List α) (i k:Nat):List α:=subL l (bnd l.length k i) (bnd l.length k (i+1))
def Ci (ds:List Nat) (n batch t u k a mi:Nat):List Nat:=B5 (B5 (BD ds n batch t) u k) a mi
theorem P4 (w:World) (lo hi gs n batch steps:Nat) (ds:List Nat) (h:Dk w lo hi gs n batch steps ds) :
  Calls Tryz.prog 240 #[.pointer (some ⟨gs,0,none⟩)] w fun e w'=>e=.returned (U O steps)/\w=w':=by
 obtain ⟨_,Ab,cb,Ao,co,os,h1,_⟩:=h;have c1:=Af h1;clear h1;go_enter Tryz.func240,Tryz.ntmps240
 go_wp2
 go_ret;exact ⟨rfl,rfl⟩
theorem P5 (w:World) (lo hi gs n batch steps t:Nat) (ds:List Nat) (h:Dk w lo hi gs n batch steps ds) (hb:1<=batch/\batch<=n) (ht:t<steps) (hs:steps<=1000) :
  Calls Tryz.prog 231 #[.pointer (some ⟨gs,0,none⟩),U O t] w fun e w'=>e=.returned (.tuple #[U O (t / (n / batch):Nat),U O (t % (n / batch):Nat),.bool true])/\Below w.heap.size w w':=by
 have CS:=K1 (P4 w lo hi gs n batch steps ds h);obtain ⟨_,Ab,cb,Ao,co,os,h1,_⟩:=h;rw [Hd hb.1] at h1;have c1:=Af h1;clear h1;have hnb:1<=n / batch:=Nat.div_pos hb.2 hb.1;generalize n / batch=nb at *
 obtain ⟨q,hq⟩:∃ q,q=t / nb:=⟨_,rfl⟩
 obtain ⟨r,hr⟩:∃ r,r=t % nb:=⟨_,rfl⟩
 have hq1:q<=t:=hq ▸ Nat.div_le_self _ _;have hr1:r<=t:=hr ▸ Nat.mod_le _ _;have e1:(t:Int).tdiv (nb:Int)=(q:Int):=by rw [hq];exact (Int.ofNat_tdiv _ _).symm
 have e2:(t:Int).tmod (nb:Int)=(r:Int):=by rw [hr];exact (Int.ofNat_tmod _ _).symm
 have w1:IntKind.i64.wrap (q:Int)=(q:Int):=Ya _ (by omega);have w2:IntKind.i64.wrap (r:Int)=(r:Int):=Ya _ (by omega);have hz:¬ nb=0:=by omega
 rw [<- hq,<- hr];clear hq hr;go_enter Tryz.func231,Tryz.ntmps231;go_wp2_with fail
 (with_reducible refine CS.out.mono ?_)
 rintro e w1 ⟨rfl,rfl⟩;clear CS;go_wp2_with fail
 go_region
 go_wp2_with fail
 go_ret3
 exact ⟨rfl,B6 (XN _ _) _⟩
theorem Dk.step {w:World} {lo hi gs n batch steps:Nat} {ds:List Nat} (h:Dk w lo hi gs n batch steps ds) (hh:hi<=w.heap.size) (hb:1<=batch/\batch<=n) {t:Nat} (ht:t<steps) :
  ∃ (Ab:Option Addr) (cb:Nat) (Ao:Option Addr) (co:Nat) (os:Ords) (A1:Option Addr) (c1:Nat),(∀ i,w.cell? ⟨gs,i,none⟩=([U O batch,U O steps,Us Ab (n / batch) cb,Us Ao (pcnt steps (n / batch)) co]:List Value)[i]?) /\
    Rd w w.heap.size Ab (rcells (epBs n batch))/\(epBs n batch)[t % (n / batch)]?=some (t % (n / batch)*batch,t % (n / batch)*batch+batch)/\t % (n / batch)*batch+batch<=n /\
    Rd w w.heap.size Ao (BC n os)/\(BC n os)[t / (n / batch)]?=some (Us A1 n c1)/\n<=c1/\t / (n / batch)<pcnt steps (n / batch)/\Rd w w.heap.size A1 (Ah (Cd ds (t / (n / batch)*(n-1)) n))/\t % (n / batch)<n / batch:=by
 obtain ⟨_,Ab,cb,Ao,co,os,h1,h2,h3,h4,h5,h6,h7⟩:=h;rw [Hd hb.1] at h1;have hnb:1<=n / batch:=Nat.div_pos hb.2 hb.1;have hr:t % (n / batch)<n / batch:=XQ _ hnb
 have hq:t / (n / batch)<pcnt steps (n / batch):=by
  unfold pcnt;rw [if_neg (by omega)];have:=Nat.div_le_div_right (c:=n / batch) (show t<=steps-1 by omega);omega
 have hle:t % (n / batch)*batch+batch<=n:=by
  have h8:=XU batch hr;have h9:=Nat.div_mul_le_self n batch;rw [XV] at h8;omega
 have hle2:t % (n / batch)*batch+batch<=n-n % batch:=by
  have h8:=XU batch hr;have h9:=XW n batch;rw [XV,Nat.mul_comm (n / batch)] at h8;omega
 have hlen:os.length=pcnt steps (n / batch):=by
  have:=congrArg List.length h5
  simpa [C6] using this
 obtain ⟨o,ho⟩:∃ o,os[t / (n / batch)]?=some o:=⟨_,Yb (by omega)⟩
 have ho2:o.2.2=Cd ds (t / (n / batch)*(n-1)) n:=by
  have e:=congrArg (·[t / (n / batch)]?) h5;simp only [Yc,ho,C6,Yd hq,XX,Option.some.injEq] at e;exact e
 have hm:=Ye ho;refine ⟨Ab,cb,Ao,co,os,o.1,o.2.1,Af h1,h2.1.more hh,?_,hle,h3.1.more hh,?_,(h4 o hm).1,hq,?_,hr⟩
 . have hr2:t % (n / batch)<pcnt (n-n % batch) batch:=by
    have:=Hd (n:=n) hb.1;rw [epBs,DN] at this;omega
   simp only [epBs,Bd,Yc,Yd hr2,XX,blk1];rw [Nat.min_eq_left (by omega)]
 . simp [BC,ho]
 . rw [<- ho2];exact (h4 o hm).2.1.more hh
theorem Mem.sub {W:World} {L:List Ch} {A:Option Addr} {vs:List Value} {i:Nat} (h:Mem W L) (hi:L[i]?=some (.rd A vs)) (l m:Nat) (hm:m<=vs.length):Mem W (L++[.rd (if m=l then A else A.map fun p=>p.add l) (subL vs l m)]) :=
 h.more hi (fun h=>h) ((h.rd i hi).sub l m hm) (fun h=>h) (by
  rintro g ⟨h0,q,hq,rfl⟩;have h1:l<m:=by simp [subL] at h0;omega
  rw [if_neg (by omega)] at hq
  rcases A with _ | a
  . cases hq
  . simp at hq;subst hq
    exact ⟨by omega,a,rfl,by simp only [Addr.add];split <;> rfl⟩)
theorem P6 (w:World) (lo hi gs n batch steps t:Nat) (ds:List Nat) (h:Dk w lo hi gs n batch steps ds) (hh:hi<=w.heap.size) (hn:n<=1000) (hb:1<=batch/\batch<=n) (ht:t<steps) (hs:steps<=1000) :
  Calls Tryz.prog 222 #[.pointer (some ⟨gs,0,none⟩),U O t] w fun e w'=>∃ A,e=.returned (Us A batch batch)/\Rd w' w'.heap.size A (Ah (BD ds n batch t))/\Below w.heap.size w w':=by
 have CE:=K1 (P5 w lo hi gs n batch steps t ds h hb ht hs);obtain ⟨Ab,cb,Ao,co,os,A1,c1,h1,h2,h3,h4,h5,h6,h7,h8,h9,h10⟩:=h.step hh hb ht;have hgs:gs<w.heap.size:=Yf h.in_.2 hh;clear h;unfold BD;generalize n / batch=nb at *;generalize t / nb=q at *;generalize hr:t % nb=r at *
 obtain ⟨x,hx⟩:∃ x,x=r*batch:=⟨_,rfl⟩
 obtain ⟨y,hy⟩:∃ y,y=x+batch:=⟨_,rfl⟩
 rw [<- hx,<- hy] at h3 h4;rw [<- hx,<- hy,Hf];have hl:(Ah (Cd ds (q*(n-1)) n)).length=n:=by rw [DV,Hh]
 generalize Ah (Cd ds (q*(n-1)) n)=vs at *;have HM:=K1 ((((XR w).add_rd (i:=0) rfl h2).add_rd (i:=0) rfl h5).add_rd (i:=0) rfl h9);obtain ⟨b1,o1,rfl,_,_⟩:=h2 (by have:=(List.getElem?_eq_some_iff.1 h3).1;rw [En];omega);obtain ⟨b2,o2,rfl,_,_⟩:=h5 (by have:=(List.getElem?_eq_some_iff.1 h6).1;omega);have HX:=K1 (XL h3 (XL h6 (XL h4 hl)));clear h2 h3 h5 h6 h9 hl hr hx;go_enter Tryz.func222,Tryz.ntmps222;go_wp2_with fail
 (with_reducible refine CE.out.mono ?_)
 rintro e w1 ⟨rfl,hb1⟩;replace HM:=K1 (HM.out.below hb1);have k1:∀ i,w1.cell? ⟨gs,i,none⟩=([U O batch,U O steps,Us (some ⟨b1,o1,none⟩) nb cb,Us (some ⟨b2,o2,none⟩) (pcnt steps nb) co]:List Value)[i]?:=fun i=>(hb1.cell hgs).trans (h1 i)
 have HB1:=K1 hb1;obtain ⟨k2,k3⟩:=HM.out.range2 1 rfl HX.out.1;clear hb1 CE h1;go_wp2_with fail;refine A9 fun W hW=>?_
 have k4:∀ i,W.cell? ⟨gs,i,none⟩=([U O batch,U O steps,Us (some ⟨b1,o1,none⟩) nb cb,Us (some ⟨b2,o2,none⟩) (pcnt steps nb) co]:List Value)[i]?:=fun i=>by
  rw [hW.out];exact (((XN w1.heap.size w1).alloc (XM _) _).cell (Yf hgs HB1.out.size)).trans (k1 i)
 replace HM:=K1 (HM.out.alloc_ hW.out);clear hW k1 k2 k3;have k5:=HM.out.cells 4 rfl;have k6:=HM.out.rdAt 2 rfl HX.out.2.1;have hxy:x<=y:=by omega
 have hyc:y<=c1:=Nat.le_trans HX.out.2.2.1 h7;have hqn:q<pcnt steps nb:=h8
 go_region
 go_wp2_with fail;have hs:=(HM.out.drew.rd 3 rfl).sub x y (by rw [HX.out.2.2.2];omega);rw [if_neg (by omega),hy] at hs;go_ret;exact ⟨_,rfl,hs,(HM.out.drew.bel 0 rfl)⟩
theorem Hi {n k i:Nat} (hi:i<k):bnd n k (i+1)<=n:=FB (by omega) (by omega)
theorem IY {α:Type} {l:List α} {i k:Nat} (hi:i<k):(B5 l i k).length=bnd l.length k (i+1)-bnd l.length k i:=Dc (FA _ _ _) (Hi hi)
theorem FU {α:Type} {l:List α} {i k:Nat} (hi:i<k):(B5 l i k).length<=l.length:=by
 have:=Hi (n:=l.length) hi;rw [IY hi];omega
theorem KT (w:World) (A:Option Addr) (n cap i k:Nat) (l:List Nat) (hr:Rd w w.heap.size A (Ah l)) (hl:l.length=n) (hc:n<=cap) (hn:n<=1000) (hk:k<=1000) (hi:i<k) :
  Calls Tryz.prog 223 #[Us A n cap,U O i,U O k] w fun e w'=>∃ A' m,e=.returned (Us A' m m)/\(B5 l i k).length=m/\Rd w' w'.heap.size A' (Ah (B5 l i k))/\Below w.heap.size w w':=by
 have CE:=K1 (Km n k w (by omega) ⟨by omega,hk⟩);have hlen:=IY (l:=l) hi;have hp:Ah (B5 l i k)=subL (Ah l) (bnd n k i) (bnd n k (i+1)):=by rw [B5,Hf,hl]
 rw [hl] at hlen;have h1:=FA n k i;have h2:=Hi (n:=n) hi;have h3:(BN n k)[i]?=some (bnd n k i,bnd n k (i+1)):=by simp [BN,hi]
 have h4:=Ee n k;rw [hlen,hp];have h5:(Ah l).length=n:=by rw [DV,hl]
 generalize bnd n k i=x at *;generalize bnd n k (i+1)=y at *;generalize BN n k=ev at *;generalize Ah l=vs at *;have HM:=K1 ((XR w).add_rd (i:=0) rfl hr);have HX:=K1 (XL h3 (XL h4 h5));clear hlen hp h3 h4 h5 hr hl;go_enter Tryz.func223,Tryz.ntmps223;go_wp2_with fail
 (with_reducible refine CE.out.mono ?_)
 rintro e w1 ⟨v,rfl,hv,hb1⟩;obtain ⟨A1,c1,rfl⟩:=DF hv;replace HM:=K1 (HM.out.push_rd hb1 (AJ hv) (AF hv));clear hb1 hv CE;obtain ⟨b1,o1,rfl,_,_⟩:=HM.out.rd 2 rfl (by have:=(List.getElem?_eq_some_iff.1 HX.out.1).1;rw [En];omega);obtain ⟨k2,k3⟩:=HM.out.range2 2 rfl HX.out.1;have h6:=HX.out.2.1;generalize ev.length=ne at *;subst h6
 by_cases hxy:x=y
 . subst hxy;go_wp2_with fail
   have hs:=(HM.out.alloc (.cells #[U O x,U O x] 47)).rd 1 rfl |>.sub x x (by rw [HX.out.2.2];omega)
   rw [if_pos rfl] at hs;go_ret;exact ⟨_,_,rfl,by omega,hs,(HM.out.alloc _).bel 0 rfl⟩
 have hlt:x<y:=by omega
 have hyx:¬ y=x:=by omega
 go_wp2_with fail
 have hs:=(HM.out.alloc (.cells #[U O x,U O y] 47)).rd 1 rfl |>.sub x y (by rw [HX.out.2.2];omega)
 rw [if_neg hyx] at hs;go_ret;exact ⟨_,_,rfl,by omega,hs,(HM.out.alloc _).bel 0 rfl⟩
theorem IZ {ds:List Nat} {n batch t:Nat} (h:t % (n / batch)*batch+batch<=n):(BD ds n batch t).length=batch:=by
 rw [BD,Dc (by omega) (by rw [Hh];exact h)];omega
theorem P7 (w:World) (lo hi gs n batch steps t u k a mi:Nat) (ds:List Nat) (h:Dk w lo hi gs n batch steps ds) (hh:hi<=w.heap.size) (hn:n<=1000) (hb:1<=batch/\batch<=n) (ht:t<steps) (hs:steps<=1000) (hk:u<k/\k<=1000) (hm:a<mi/\mi<=1000) :
  Calls Tryz.prog 207 #[.pointer (some ⟨gs,0,none⟩),U O t,U O u,U O k,U O a,U O mi] w fun e w'=>∃ A c,e=.returned (Us A (Ci ds n batch t u k a mi).length c)/\w'.ownsRow w.heap.size 3 1 (Us A (Ci ds n batch t u k a mi).length c) (Ci ds n batch t u k a mi).length (Ah (Ci ds n batch t u k a mi))/\Below w.heap.size w w':=by
 have CV:=K1 (P6 w lo hi gs n batch steps t ds h hh hn hb ht hs);obtain ⟨_,_,_,_,_,_,_,_,_,_,h4,_⟩:=h.step hh hb ht;have hvl:(BD ds n batch t).length=batch:=IZ h4;have CP1:=K1 (fun W A hr=>KT W A batch batch u k (BD ds n batch t) hr hvl (XM _) (by omega) hk.2 hk.1);have hp1:=FU (l:=BD ds n batch t) hk.1;rw [hvl] at hp1;unfold Ci;clear h h4;generalize BD ds n batch t=vl at *;have CP2:=K1 (fun W A m (hr:Rd W W.heap.size A (Ah (B5 vl u k))) hl hm2=>KT W A m m a mi (B5 vl u k) hr hl (XM _) hm2 hm.2 hm.1);have hp2:=FU (l:=B5 vl u k) hm.1;generalize B5 vl u k=p1 at *
 have CC:=K1 (fun W A m (hr:Rd W W.heap.size A (Ah (B5 p1 a mi))) (hl:(B5 p1 a mi).length=m) hm2=>II A m m (Ah (B5 p1 a mi)) W hr (by rw [DV,hl,Nat.mul_one]) (by intro u hu;simp only [Ah,List.mem_map] at hu;obtain ⟨_,_,rfl⟩:=hu;rfl) hm2);generalize B5 p1 a mi=p2 at *;clear hvl;go_enter Tryz.func207,Tryz.ntmps207;go_wp2_with fail
 (with_reducible refine CV.out.mono ?_)
 rintro e w1 ⟨A1,rfl,hr1,hb1⟩;go_wp2_with fail
 (with_reducible refine (CP1.out w1 A1 hr1).mono ?_)
 rintro e w2 ⟨A2,m2,rfl,hm2,hr2,hb2⟩;have hb2':=hb1.trans (hb2.mono hb1.size);clear hr1 hb1 hb2 CV CP1;go_wp2_with fail
 (with_reducible refine (CP2.out w2 A2 m2 hr2 hm2 (by omega)).mono ?_)
 rintro e w3 ⟨A3,m3,rfl,hm3,hr3,hb3⟩;have hb3':=hb2'.trans (hb3.mono hb2'.size);clear hr2 hb2' hb3 CP2;go_wp2_with fail
 (with_reducible refine (CC.out w3 A3 m3 hr3 hm3 (by omega)).mono ?_)
 rintro e w4 ⟨A4,c4,rfl,ho,hc,hb4⟩;have hF:=DG hb3'.size ho;have hb4':=hb3'.trans (hb4.mono hb3'.size);clear hr3 hb3' hb4 CC;go_wp2_with fail;go_ret;rw [hm3];exact ⟨A4,c4,rfl,hF,hb4'⟩
def mulF (a b:Int) (q:Nat):Int:=wrap64 (a*b / (2:Int) ^ q)
theorem KU (w:World) (a b:Int) :
  Calls Tryz.prog 233 #[U O a,U O b] w fun e w'=>e=.returned (U O (wrap64 (a-b)))/\w=w':=by
 go_enter Tryz.func233,Tryz.ntmps233
 go_wp2
 go_ret;exact ⟨rfl,rfl⟩
theorem P8 (w:World) (a:Int) :
  Calls Tryz.prog 243 #[U O a] w fun e w'=>e=.returned (U O (max a 0))/\w=w':=by
 go_enter Tryz.func243,Tryz.ntmps243
 go_wp2
 all_goals
  go_ret;refine ⟨?_,rfl⟩;simp
  try omega
theorem P9 (w:World) (a g:Int) :
  Calls Tryz.prog 227 #[U O a,U O g] w fun e w'=>e=.returned (U O (if a<=0 then 0 else g))/\w=w':=by
 by_cases h:a<=0
 all_goals
  go_enter Tryz.func227,Tryz.ntmps227
  go_wp2
  go_ret;refine ⟨?_,rfl⟩;simp
theorem KV (x k:Int):wrap64 (x+18446744073709551616*k)=wrap64 x:=by unfold wrap64;omega
theorem B9 (x:Int):IntKind.u64.wrap x=x % 18446744073709551616:=by simp [IntKind.wrap,IntKind.bits,IntKind.signed]
theorem PA (hi:Int) (lo q:Nat) (hq:q<=62) (hl:lo<18446744073709551616) :
  wrap64 (bits BinOp.or IntKind.u64 (IntKind.u64.wrap (IntKind.u64.wrap hi*2 ^ (64-q))) (↑lo / 2 ^ q))=wrap64 ((hi*18446744073709551616+lo) / (2:Int) ^ q):=by
 obtain ⟨h,hh⟩:∃ h:Nat,(h:Int)=hi % 18446744073709551616:=⟨(hi % 18446744073709551616).toNat,by omega⟩
 obtain ⟨z,hz⟩:∃ z:Int,hi=h+18446744073709551616*z:=⟨hi / 18446744073709551616,by omega⟩
 have hlt:h<18446744073709551616:=by omega
 rw [B9 hi,<- hh,B9]
 obtain ⟨s,hs⟩:∃ s,s=64-q:=⟨_,rfl⟩
 have e64:2 ^ q*2 ^ s=18446744073709551616:=by rw [<- Nat.pow_add,show q+s=64 by omega]
 rw [<- hs];have hq0:0<2 ^ q:=Nat.two_pow_pos q;have hs0:0<2 ^ s:=Nat.two_pow_pos s;have eq2:(2:Int) ^ q=((2 ^ q:Nat):Int):=by simp
 have es2:(2:Int) ^ s=((2 ^ s:Nat):Int):=by simp
 rw [eq2,es2]
 have e1:((h:Int)*((2 ^ s:Nat):Int)) % 18446744073709551616=((h % 2 ^ q*2 ^ s:Nat):Int):=by
  rw [<- XO,show (18446744073709551616:Int)=((2 ^ q*2 ^ s:Nat):Int) by rw [e64];rfl,<- Int.natCast_emod,Nat.mul_mod_mul_right]
 have e2:(lo:Int) / ((2 ^ q:Nat):Int)=((lo / 2 ^ q:Nat):Int):=(Int.natCast_ediv _ _).symm;rw [e1,e2];have hb:lo / 2 ^ q<2 ^ s:=Nat.div_lt_of_lt_mul (by rw [e64];exact hl)
 have ha:h % 2 ^ q*2 ^ s+2 ^ s<=18446744073709551616:=by
  have:=XU (2 ^ s) (XQ h hq0);rw [XV,e64] at this;exact this
 rw [bits_or_u64_nat _ _ (by omega) (by omega)]
 have e3:h % 2 ^ q*2 ^ s ||| lo / 2 ^ q=h % 2 ^ q*2 ^ s+lo / 2 ^ q:=by
  have:=Nat.shiftLeft_add_eq_or_of_lt hb (h % 2 ^ q);rw [Nat.shiftLeft_eq] at this;exact this.symm
 rw [e3]
 have e4:(hi*18446744073709551616+(lo:Int)) / ((2 ^ q:Nat):Int)=hi*((2 ^ s:Nat):Int)+((lo / 2 ^ q:Nat):Int):=by
  rw [show (18446744073709551616:Int)=((2 ^ s:Nat):Int)*((2 ^ q:Nat):Int) by rw [<- XO,Nat.mul_comm,e64];rfl,<- XS,Int.add_comm,Int.add_mul_ediv_right _ _ (by omega),Int.add_comm,e2]
 rw [e4]
 have e5:hi*((2 ^ s:Nat):Int)=((h % 2 ^ q*2 ^ s:Nat):Int)+18446744073709551616*(((h / 2 ^ q:Nat):Int)+z*((2 ^ s:Nat):Int)):=by
  have hd:=XW h (2 ^ q);have e6:((2 ^ q:Nat):Int)*((2 ^ s:Nat):Int)=18446744073709551616:=by rw [<- XO,e64];rfl
  have hd2:(h:Int)=((2 ^ q:Nat):Int)*((h / 2 ^ q:Nat):Int)+((h % 2 ^ q:Nat):Int):=by rw [<- XO,<- Int.natCast_add,hd]
  rw [hz,hd2,XO];generalize ((2 ^ q:Nat):Int)=Q at *;generalize ((2 ^ s:Nat):Int)=S at *;generalize ((h / 2 ^ q:Nat):Int)=D at *;generalize ((h % 2 ^ q:Nat):Int)=M at *;rw [<- e6];simp only [XY,XZ];have:Q*D*S=Q*S*D:=by rw [XS,Int.mul_comm D,XS]
  rw [this];have h2:Q*S*z*S=Q*S*(z*S):=by rw [XS]
  rw [h2];omega
 rw [e5,Int.natCast_add];have:((h % 2 ^ q*2 ^ s:Nat):Int)+18446744073709551616*(((h / 2 ^ q:Nat):Int)+z*((2 ^ s:Nat):Int))+((lo / 2 ^ q:Nat):Int)=(((h % 2 ^ q*2 ^ s:Nat):Int)+((lo / 2 ^ q:Nat):Int))+18446744073709551616*(((h / 2 ^ q:Nat):Int)+z*((2 ^ s:Nat):Int)):=by omega
 rw [this,KV]
theorem PB (w:World) (hi:Int) (lo q:Nat) (hq:q<=62)  (hl:lo<18446744073709551616) :
  Calls Tryz.prog 247 #[U O hi,.int .u64 lo,U O q] w fun e w'=>e=.returned (U O (wrap64 ((hi*18446744073709551616+lo) / (2:Int) ^ q)))/\Below w.heap.size w w':=by
 go_enter Tryz.func247,Tryz.ntmps247
 go_wp2
 go_region
 go_wp2
 go_ret;exact ⟨by simp [PA hi lo q hq hl],Cs (XN _ _)⟩
def negH (a b v:Int):Int:=if a<0 then wrap64 (v-b) else v
def DI (a b h:Int):Nat->Int
 | 0=>wrap64 h
 | 1=>negH a b (wrap64 h)
 | _=>negH b a (negH a b (wrap64 h))
theorem PC (a b h:Int):DI a b h 0=wrap64 h:=by unfold DI;rfl
theorem KW (a b h:Int):DI a b h 1=negH a b (DI a b h 0):=by unfold DI;rfl
theorem KX (a b h:Int):DI a b h 2=negH b a (DI a b h 1):=by unfold DI;rfl
theorem KY (a:Int) (ha:-9223372036854775808<=a/\a<=9223372036854775807):a.natAbs<=9223372036854775808:=by omega
theorem PD (a b:Int) (ha:-9223372036854775808<=a/\a<=9223372036854775807) (hb:-9223372036854775808<=b/\b<=9223372036854775807) :
  -85070591730234615865843651857942052864<=a*b/\a*b<=85070591730234615865843651857942052864:=by
 have h:=Nat.mul_le_mul (KY a ha) (KY b hb);rw [<- Int.natAbs_mul] at h;omega
theorem Ja (v b:Int):wrap64 (wrap64 v-b)=wrap64 (v-b):=by unfold wrap64;omega
theorem Hj (v:Int) (h:-9223372036854775808<=v/\v<=9223372036854775807):wrap64 v=v:=by unfold wrap64;omega
theorem PE (v b a:Int):wrap64 (wrap64 v-b-a)=wrap64 (v-b-a):=by unfold wrap64;omega
theorem PF (a b:Int) (x y h l:Nat) (ha:-9223372036854775808<=a/\a<=9223372036854775807) (hb:-9223372036854775808<=b/\b<=9223372036854775807)
  (hx:h=x*y / 18446744073709551616/\l=x*y % 18446744073709551616/\(x:Int)=a % 18446744073709551616/\(y:Int)=b % 18446744073709551616) :
  a*b=DI a b h 2*18446744073709551616+l:=by
 obtain ⟨h1,h2,h3,h4⟩:=hx;have h5:x*y=18446744073709551616*h+l:=by rw [h1,h2];exact (XW _ _).symm
 have h6:(x:Int)*y=18446744073709551616*h+l:=by rw [<- XO,h5];simp
 have hl:l<18446744073709551616:=by rw [h2];exact XQ _ (by omega)
 have hab:=PD a b ha hb;clear h1 h2 h5;unfold DI negH
 by_cases ca:a<0
 . have ex:(x:Int)=a+18446744073709551616:=by omega
   by_cases cb:b<0
   . have ey:(y:Int)=b+18446744073709551616:=by omega
     simp only [ca,cb,if_true];rw [Ja,PE];rw [ex,ey,XY,XZ] at h6;generalize a*b=p at *;rw [show (h:Int)-b-a=((h:Int)-b-a-18446744073709551616)+18446744073709551616*1 by omega,KV,Hj _ (by omega)];omega
   . have ey:(y:Int)=b:=by omega
     simp only [ca,cb,if_true,if_false];rw [Ja];rw [ex,ey,XY] at h6;generalize a*b=p at *;rw [Hj _ (by omega)];omega
 . have ex:(x:Int)=a:=by omega
   by_cases cb:b<0
   . have ey:(y:Int)=b+18446744073709551616:=by omega
     simp only [ca,cb,if_true,if_false];rw [Ja];rw [ex,ey,XZ] at h6;generalize a*b=p at *;rw [Hj _ (by omega)];omega
   . have ey:(y:Int)=b:=by omega
     simp only [ca,cb,if_false];rw [ex,ey] at h6;generalize a*b=p at *;rw [Hj _ (by omega)];omega
theorem PG (a b:Int) (W:World):(Instr.index 373 (.agg #[U O a,U O b,U O b,U O a]) (U O 0)).run Tryz.prog W=.ok (.agg #[U O a,U O b]) W:=by kernel_rfl
theorem PH (a b:Int) (W:World):(Instr.index 373 (.agg #[U O a,U O b,U O b,U O a]) (U O 1)).run Tryz.prog W=.ok (.agg #[U O b,U O a]) W:=by kernel_rfl
theorem PI (w:World) (a b:Int) (ha:-9223372036854775808<=a/\a<=9223372036854775807) (hb:-9223372036854775808<=b/\b<=9223372036854775807) :
  Calls Tryz.prog 246 #[U O a,U O b] w fun e w'=>(∃ (h:Int) (l:Nat),e=.returned (.tuple #[U O h,.int .u64 l])/\a*b=h*18446744073709551616+l/\l<18446744073709551616)/\Below w.heap.size w w':=by
 have i0:=PG;have i1:=PH
 obtain ⟨x,hx⟩:∃ x:Nat,(x:Int)=a % 18446744073709551616:=⟨(a % 18446744073709551616).toNat,by omega⟩
 obtain ⟨y,hy⟩:∃ y:Nat,(y:Int)=b % 18446744073709551616:=⟨(b % 18446744073709551616).toNat,by omega⟩
 have CM:=K1 (Tryz.bits_Mul64 x y (by omega) (by omega))
 obtain ⟨h,hh⟩:∃ h,h=x*y / 18446744073709551616:=⟨_,rfl⟩
 obtain ⟨l,hl⟩:∃ l,l=x*y % 18446744073709551616:=⟨_,rfl⟩
 rw [<- hh,<- hl] at CM;have ux:IntKind.u64.wrap a=(x:Int):=by rw [B9,hx]
 have uy:IntKind.u64.wrap b=(y:Int):=by rw [B9,hy]
 have HX:=K1 (XL hh (XL hl (XL hx hy)));clear hh hl hx hy;go_enter Tryz.func246,Tryz.ntmps246;go_wp2_with fail
 (with_reducible refine (CM.out _).mono ?_)
 rintro e w1 ⟨rfl,rfl⟩;go_wp2_with fail
 go_loopw [4,26] (fun v i wr=>∃ j:Nat,i=U O j/\j<=2/\v=U O (DI a b h j)/\Hid (Below w1.heap.size w1 wr)) (fun _ i _=>2-(intOf i).toNat)
 case atStart=>exact ⟨0,rfl,by omega,congrArg (Value.int .i64) (PC a b h).symm,K1 (XN _ _)⟩
 case round =>
  obtain ⟨j,rfl,hj,rfl,HB⟩:=hrel;have hc:j=0\/j=1\/j=2:=by omega
  rcases hc with rfl | rfl | rfl
  . by_cases hs:a<0
    . as_aux_lemma =>
       go_wp2_with fail;go_roundw
       case rel=>exact ⟨1,by go_num,by omega,by rw [KW];simp [negH,hs],K1 (HB.out.alloc HB.out.size _)⟩
       case measure=>simp [intOf]
    . as_aux_lemma =>
       go_wp2_with fail;go_roundw
       case rel=>exact ⟨1,by go_num,by omega,by rw [KW];simp [negH,hs],K1 (HB.out.alloc HB.out.size _)⟩
       case measure=>simp [intOf]
  . by_cases hs:b<0
    . as_aux_lemma =>
       go_wp2_with fail;go_roundw
       case rel=>exact ⟨2,by go_num,by omega,by rw [KX];simp [negH,hs],K1 (HB.out.alloc HB.out.size _)⟩
       case measure=>simp [intOf]
    . as_aux_lemma =>
       go_wp2_with fail;go_roundw
       case rel=>exact ⟨2,by go_num,by omega,by rw [KX];simp [negH,hs],K1 (HB.out.alloc HB.out.size _)⟩
       case measure=>simp [intOf]
  . go_wp2_with fail
    go_ret2
    exact ⟨⟨_,l,rfl,PF a b x y h l ha hb HX.out,by rw [HX.out.2.1];exact XQ _ (by omega)⟩,HB.out⟩
end
section
open Go.RowKit Go.Shelf
attribute [local go_sem] Oper.semAt_some
theorem FV (w:World) (a b:Int) (q:Nat) (hq:q<=62) (ha:-9223372036854775808<=a/\a<=9223372036854775807) (hb:-9223372036854775808<=b/\b<=9223372036854775807) :
  Calls Tryz.prog 236 #[U O a,U O b,U O q] w fun e w'=>e=.returned (U O (mulF a b q))/\Below w.heap.size w w':=by
 have CP:=K1 (PI w a b ha hb);unfold mulF;generalize a*b=p at *;go_enter Tryz.func236,Tryz.ntmps236;go_wp2_with fail
 (with_reducible refine CP.out.mono ?_)
 rintro e w1 ⟨⟨h,l,rfl,rfl,hl⟩,hb1⟩;have HB:=K1 hb1;clear hb1 CP;have CS:=K1 (fun W=>PB W h l q hq hl);clear hl;go_wp2_with fail
 (with_reducible refine (CS.out _).mono ?_)
 rintro e w2 ⟨rfl,hb2⟩;have HB2:=K1 (HB.out.trans (hb2.mono HB.out.size));clear hb2 HB CS;go_wp2_with fail;go_ret;exact ⟨rfl,HB2.out⟩
theorem PJ (A:Option Addr) (n cap:Nat) (w:World) :
  Calls Tryz.prog 249 #[Us A n cap] w fun e w'=>e=.returned (.func (.func 252) #[] #[.pointer (some ⟨w.heap.size,0,none⟩)])/\w'=w.alloc (.cells #[Us A n cap] 26):=by
 go_enter Tryz.func249,Tryz.ntmps249
 go_wp2
 go_ret;exact ⟨rfl,rfl⟩
structure FW (W:World) (Bv:Nat) (A:Option Addr) (zs:List Int) (cap:Nat):Prop where
 l:W.cell? ⟨Bv,0,none⟩=some (Us A zs.length cap)
 r:RdI W W.heap.size A zs
theorem FW.below {W W':World} {Bv:Nat} {A:Option Addr} {zs:List Int} {cap:Nat} (h:FW W Bv A zs cap) (hb:Below W.heap.size W W'):FW W' Bv A zs cap :=
 ⟨(hb.cell (p:=⟨Bv,0,none⟩) (World.block_lt_of_cell? W _ h.l)).trans h.l,(h.r.below hb).more hb.size⟩
theorem PK (n l Bv cap:Nat) (A:Option Addr) (zs:List Int) (hm:zs.length<=1048576) (J:List Int->World->Prop)
  (hE:∀ pre W,J pre W->FW W Bv A zs cap)
  (hY:∀ (pre:List Int) (x:Int) (W:World),J pre W->pre.length<zs.length->zs[pre.length]?=some x->YieldAt Fence.wide (n-1) Tryz.prog l #[U O x] W fun e W'=>e=.returned (.bool true)/\J (pre++[x]) W')
  (W:World) (h0:J [] W):CallsIn Fence.wide n Tryz.prog 252 #[.func (.yield l) #[] #[],.pointer (some ⟨Bv,0,none⟩)] W fun e W'=>(∃ v,e=.returned v)/\J zs W':=by
 have HE:=K1 hE;have HY:=K1 hY;have E0:=hE _ _ h0;have c1:=E0.l;clear hE hY E0;refine callsIn_of_wp Tryz.func252 rfl trivial ?_ rfl;simp only [Tryz.ntmps252,Yg,Yh,Yi,Nat.reduceAdd,Nat.reduceSub,Array.replicate_succ,Array.replicate_zero,Yj,Yk,Yl,Ym]
 gi_wp2_with fail
 gi_loopw [7] (fun i wr=>∃ k:Nat,k<=zs.length/\i=U O k/\Hid (J (zs.take k) wr)) (fun i _=>zs.length-(intOf i).toNat)
 case atStart=>exact ⟨0,XT _,rfl,K1 h0⟩
 case round =>
  clear c1 h0;obtain ⟨k,hk,rfl,HS⟩:=hrel
  by_cases hlt:k<zs.length
  . have E1:=HE.out _ _ HS.out;obtain ⟨b,off,rfl,hb,hc⟩:=E1.r.at_ (by omega);obtain ⟨x,hp⟩:=Au zs k hlt;have d1:=hc k _ hp;have HSH:=K1 (show zs.take k++[x]=zs.take (k+1) by rw [List.take_add_one,hp];rfl)
    obtain ⟨fn,tmps,assign,body,hy,hR⟩:=HY.out _ x wr HS.out (by rw [Yn];omega) (by
     rw [Yn,Nat.min_eq_left (by omega),hp])
    clear E1 hc hp
    gi_wp2_with fail
    refine ⟨fun h=>(by cases h),hR.mono ?_⟩;rintro e' w4 ⟨rfl,hJ4⟩;rw [HSH.out] at hJ4;have H4:=K1 hJ4;clear hJ4 hy hR HSH d1
    gi_wp2_with fail
    go_roundw
    case rel=>exact ⟨k+1,by omega,by go_num,H4⟩
    case measure=>simp [intOf];omega
  . have H4:=K1 (show J zs wr by have h:=HS.out;rw [show zs.take k=zs from List.take_of_length_le (by omega)] at h;exact h);clear HS
    gi_wp2_with fail
    go_end0
    exact ⟨⟨_,rfl⟩,H4.out⟩
def sumW (zs:List Int):Int:=zs.foldl (fun s x=>wrap64 (s+x)) 0
theorem PM (zs:List Int) (x:Int):sumW (zs++[x])=wrap64 (sumW zs+x):=by simp [sumW]
structure Tot (w:World) (rec:LoopState->Option Code->Loop) (D l S:Nat) (s:Int) (W:World):Prop where
 rec_:W.heap[l]?=some (.loop (rec .ready none))
 dfr:W.heap[D]?=some (.deferred (some []))
 box:W.heap[S]?=some (.cells #[U O s] 2 (0,0))
 bel:Below w.heap.size w W
theorem PN (Bv cap:Nat) (A:Option Addr) (zs:List Int) (hm:zs.length<=1048576) (w:World) (hl:FW w Bv A zs cap) :
  Calls Tryz.prog 248 #[.func (.func 252) #[] #[.pointer (some ⟨Bv,0,none⟩)]] w fun e w'=>e=.returned (U O (sumW zs))/\Below w.heap.size w w':=by
 have HL:=K1 hl;have HS:=K1 PM;clear hl;refine (callsIn_wide (n:=5)).1 ?_;refine callsIn_of_wp_marks Tryz.func248 rfl trivial ?_ rfl;simp only [Tryz.ntmps248,Yg,Yh,Yi,Nat.reduceAdd,Nat.reduceSub,Array.replicate_succ,Array.replicate_zero,Yj,Yk,Yl,Ym]
 gi_wp2_with fail
 have hbox:=heap_alloc_new w (.cells #[U O 0] 2);have hbel:Below w.heap.size w (w.alloc (.cells #[U O 0] 2)):=(XN _ _).alloc (XM _) _;have hsz:(w.alloc (.cells #[U O 0] 2)).heap.size=w.heap.size+1:=by simp
 have hat:=HL.out.below hbel;have HX:=K1 (XL hbox (XL hbel (XL hsz hat)));clear hbox hbel hsz hat;generalize w.alloc (.cells #[U O 0] 2)=w0 at *;refine IL rfl (fun _ _=>by go_simp) fun fn rec W1 hrec hl1 hd1 hb1=>?_;have HJ:Hid (Tot w rec w0.heap.size (w0.heap.size+1) w.heap.size (sumW []) W1):=K1 ⟨hl1,hd1,Bp HX.out.1 hb1 (AZ HX.out.1),HX.out.2.1.trans (hb1.mono HX.out.2.1.size)⟩;refine (PK _ _ Bv cap A zs hm (fun pre=>Tot w rec w0.heap.size (w0.heap.size+1) w.heap.size (sumW pre)) (fun pre W h=>HL.out.below h.bel) (fun pre x W h hlt _=>?_) W1 HJ.out).mono ?_
 . have hy:=run_yield (P:=Tryz.prog) (args:=#[U O x]) h.rec_ (by rw [hrec];rfl);rw [hrec] at hy;have HREC:=K1 hrec;refine ⟨fn,_,_,_,hy,roundIn_of_wpIn trivial ?_⟩;clear hy hrec;have hsz:=h.bel.size;have hW0:=HX.out.2.2.1;have hbg:=run_beginRound (P:=Tryz.prog) h.rec_ (by rw [HREC.out]);have ne1:w.heap.size≠w0.heap.size+1:=by omega
   have ne2:w0.heap.size≠w0.heap.size+1:=by omega
   have hrc2:=Yo (o:=.loop { rec .ready none with state:=.busy }) (AZ h.rec_);have hdf2:=(XP (o:=.loop { rec .ready none with state:=.busy }) ne2).trans h.dfr;have hbx2:=(XP (o:=.loop { rec .ready none with state:=.busy }) ne1).trans h.box;have hbl2:=Ep (o':=.loop { rec .ready none with state:=.busy }) h.bel hsz (k:=w0.heap.size+1) (by omega);have H2:=K1 (XL hrc2 (XL hdf2 (XL hbx2 hbl2)));have HBG:=K1 hbg;have c1:=Ay hbx2 0;have f1:=DD hbx2 0;have HW0:=K1 (XL hW0 (XL ne1 (XL ne2 hsz)));have HSX:=K1 (HS.out pre x);clear h hlt HJ hl1 hd1 hb1 hbg hrc2 hdf2 hbx2 hbl2 hW0 ne1 ne2 hsz
   generalize sumW (pre++[x])=s1 at *;generalize sumW pre=s0 at *;simp only [List.zip_toArray,List.zip_cons_cons,List.zip_nil_left]
   gi_wp2_with fail
   refine ⟨_,HBG.out,?_⟩;clear HBG
   obtain ⟨W2,hW2⟩:∃ W2,W2=W.putObj (w0.heap.size+1) (.loop { rec .ready none with state:=.busy }):=⟨_,rfl⟩
   rw [<- hW2] at H2 c1 f1 ⊢;clear hW2
   gi_wp2_with fail
   obtain ⟨w4,hw4⟩:∃ w4,w4=W2.setCell ⟨w.heap.size,0,none⟩ (U O (wrap64 (s0+x))):=⟨_,rfl⟩
   rw [<- hw4];obtain ⟨e0,e1,e2,e3⟩:=HW0.out;have hl4:=GD H2.out.1 (p:=⟨w.heap.size,0,none⟩) (Ne.symm e1) (U O (wrap64 (s0+x)));have hd4:=GD H2.out.2.1 (p:=⟨w.heap.size,0,none⟩) (by show w0.heap.size≠w.heap.size;omega) (U O (wrap64 (s0+x)));have hb4:=Ec H2.out.2.2.1 0 (U O (wrap64 (s0+x)));have hbb:=H2.out.2.2.2.setCell (p:=⟨w.heap.size,0,none⟩) (XM _) (U O (wrap64 (s0+x)));rw [<- hw4] at hl4 hd4 hb4 hbb;have hend:=run_endRound (P:=Tryz.prog) none hl4;refine ⟨_,_,hend,rfl,⟨?_,(XP e2).trans hd4,?_,Ep hbb hbb.size (by omega)⟩⟩
   . rw [Yo (AZ hl4),HREC.out];rfl
   . rw [HSX.out];exact (XP e1).trans hb4
 . rintro e W2 ⟨⟨v0,rfl⟩,h2⟩;have hend:=run_endLoop (P:=Tryz.prog) h2.rec_ (by simp [hrec]);have hp:(rec .ready none).pending=none:=by rw [hrec]
   replace hend:=hend.trans (congrArg (fun p=>Result.ok p _) hp);have hX:=HX.out.2.2.1;have ne1:w.heap.size≠w0.heap.size+1:=by omega
   have ne2:w0.heap.size≠w0.heap.size+1:=by omega
   have hv3:=(XP (o:=.loop { rec .ready none with state:=.exhausted }) ne1).trans h2.box;have hd3:=(XP (o:=.loop { rec .ready none with state:=.exhausted }) ne2).trans h2.dfr;have hb3:=Ep (o':=.loop { rec .ready none with state:=.exhausted }) h2.bel h2.bel.size (k:=w0.heap.size+1) (by omega);refine ⟨_,_,hend,?_⟩;have hsz:=h2.bel.size
   obtain ⟨W3,hW3⟩:∃ W3,W3=W2.putObj (w0.heap.size+1) (.loop { rec .ready none with state:=.exhausted }):=⟨_,rfl⟩
   rw [<- hW3] at hv3 hd3 hb3 ⊢;have c1:=Ay hv3 0;have f1:=DD hv3 0;have HF:=K1 (XL hd3 (XL hb3 hX));clear hend h2 hW3 hv3 hd3 hb3 HJ hl1 hd1 hb1 hrec hX ne1 ne2 hsz;clear hp;generalize hs1:sumW zs=s1 at *;have HS1:=K1 hs1;clear hs1
   gi_wp2_with fail
   refine ⟨by simp,.inl ⟨_,_,rfl,run_takeDeferred HF.out.1,?_⟩⟩;have hX:=HF.out.2.2;exact ⟨_,results_tmp rfl _ _ _,by rw [HS1.out];rfl,Ep HF.out.2.1 HF.out.2.1.size (by omega)⟩
theorem PO (w:World) (A:Option Addr) (zs:List Int) (n cap:Nat) (hn:zs.length=n) (hm:n<=1048576) (hr:RdI w w.heap.size A zs) :
  Calls Tryz.prog 238 #[Us A n cap] w fun e w'=>e=.returned (U O (sumW zs))/\Below w.heap.size w w':=by
 have hb:Below w.heap.size w (w.alloc (.cells #[Us A n cap] 26)):=(XN _ _).alloc (XM _) _;have HB:=K1 hb;subst hn;have CT:=K1 (PN w.heap.size cap A zs hm (w.alloc (.cells #[Us A zs.length cap] 26)) ⟨Ay (heap_alloc_new w _) 0,(hr.below hb).more hb.size⟩);clear hb hr;go_enter Tryz.func238,Tryz.ntmps238;go_wp2_with fail
 (with_reducible refine (PJ _ _ _ _).mono ?_)
 rintro e w1 ⟨rfl,rfl⟩;go_wp2_with fail
 (with_reducible refine CT.out.mono ?_)
 rintro e w2 ⟨rfl,hb2⟩;have HB2:=K1 (HB.out.trans (hb2.mono HB.out.size));clear hb2 HB CT;go_wp2_with fail;go_ret;exact ⟨rfl,HB2.out⟩
end
section
abbrev zC (zs:List Int):List Value:=zs.map (Value.int .i64)
def In64 (zs:List Int):Prop:=∀ z∈zs,-9223372036854775808<=z/\z<=9223372036854775807
theorem Ek (l:List Int):∀ u∈zC l,u.oneCell'=true:=fun u hu=>by
 obtain ⟨_,_,rfl⟩:=List.mem_map.1 hu;rfl
theorem Br (l:List Int):(zC l).length=l.length:=by simp
theorem Bk {l:List Int} {i:Nat} {x:Int} (h:l[i]?=some x):(zC l)[i]?=some (U O x):=by simp [h]
theorem Dn (l:List Int) (i:Nat) (x:Int):zC (l.set i x)=(zC l).set i (U O x):=by simp
theorem DJ (x:Int):-9223372036854775808<=wrap64 x/\wrap64 x<=9223372036854775807:=by unfold wrap64;omega
theorem In64.set {l:List Int} (h:In64 l) (i:Nat) {x:Int} (hx:-9223372036854775808<=x/\x<=9223372036854775807):In64 (l.set i x):=fun z hz=>by
 rcases List.mem_or_eq_of_mem_set hz with h1 | rfl
 . exact h z h1
 . exact hx
theorem In64.at_ {l:List Int} (h:In64 l) {i:Nat} {x:Int} (hx:l[i]?=some x):-9223372036854775808<=x/\x<=9223372036854775807:=h x (Ye hx)
theorem Eu (A:Option Addr) (n cap:Nat) (zs:List Int) (w:World) (hr:Rd w w.heap.size A (zC zs)) (hl:zs.length=n) (hn:n<=1000000000) :
  Calls Tryz.prog 109 #[Us A n cap] w fun e w'=>∃ A' c',e=.returned (Us A' n c')/\w'.ownsRow w.heap.size 2 1 (Us A' n c') n (zC zs)/\n<=c'/\Below w.heap.size w w':=by
 have C:=K1 (NO A n cap (zC zs) w hr (by simp [hl]) (Ek zs) hn);clear hr;go_enter Tryz.func109,Tryz.ntmps109;go_wp2_with fail
 (with_reducible refine C.out.mono ?_)
 rintro e w1 ⟨A',c',rfl,h1,h2,h3⟩;clear C;go_wp2_with fail;go_ret;exact ⟨A',c',rfl,h1,h2,h3⟩
def Bn (lo:Nat) (ys xs:List Int):Nat->List Int
 | 0=>xs
 | k+1=>(Bn lo ys xs k).set (lo+k) (wrap64 (((Bn lo ys xs k)[lo+k]?.getD 0)+(ys[k]?.getD 0)))
theorem D4 (lo:Nat) (ys xs:List Int):∀ k,(Bn lo ys xs k).length=xs.length
 | 0=>rfl
 | k+1=>by rw [Bn,Yp,D4 lo ys xs k]
theorem FX {lo:Nat} {ys xs:List Int} (h:In64 xs):∀ k,In64 (Bn lo ys xs k)
 | 0=>h
 | k+1=>(FX h k).set _ (DJ _)
theorem Hk (w:World) (L:List Ch) (h:Mem w L) (i j base N C lo n c cw:Nat) (A0 A B:Option Addr) (xs ys:List Int) (hi:L[i]?=some (.own base 2 1 (Us A0 N C) N (zC xs))) (hj:L[j]?=some (.rd B (zC ys)))
  (hy:ys.length=n) (hx:lo+n<=xs.length) (hN:xs.length=N) (hA:0<n->A=A0.map fun p=>p.add lo) (hc:n<=c) (hcw:n<=cw) (hn:N<=1000000000) :
  Calls Tryz.prog 209 #[Us A n c,Us B n cw] w fun e w'=>e=.returned (.bool true)/\Mem w' (L.set i (.own base 2 1 (Us A0 N C) N (zC (Bn lo ys xs n)))):=by
 have HI:=K1 hi;have HJ:=K1 hj
 have HM0:=K1 (show Mem w (L.set i (.own base 2 1 (Us A0 N C) N (zC (Bn lo ys xs 0)))) by
  rw [show Bn lo ys xs 0=xs from rfl,Dv hi];exact h)
 have HX:=K1 (XL hx (XL hy (XL hN hA)));have HN:=K1 (Dl hi hj (by simp));have hlN:lo+n<=N:=by omega
 clear h hi hj hx hy hN hA;go_enter Tryz.func209,Tryz.ntmps209;go_wp2_with fail
 go_loopw [13] (fun iv wr=>∃ k:Nat,k<=n/\iv=U O k/\Hid (Mem wr (L.set i (.own base 2 1 (Us A0 N C) N (zC (Bn lo ys xs k)))))) (fun iv _=>n-(intOf iv).toNat)
 case atStart=>exact ⟨0,XT _,rfl,HM0⟩
 case round =>
  clear HM0;obtain ⟨k,hk,rfl,HM⟩:=hrel
  by_cases hlt:k<n
  . obtain ⟨g,hg⟩:=HM.out.ownA i (AU HI.out) (by omega);have ha:=HX.out.2.2.2 (by omega)
    obtain ⟨b1,o1,hb1⟩:∃ b off,B=some ⟨b,off,none⟩:=by
     obtain ⟨b,off,e,_⟩:=HM.out.rd j (By HN.out HJ.out) (by rw [Br];have:=HX.out.2.1;omega);exact ⟨b,off,e⟩
    subst hg;subst hb1
    simp only [XX,Cg,Nat.zero_add] at ha;subst ha;obtain ⟨y,hyk⟩:=Au ys k (by have:=HX.out.2.1;omega);obtain ⟨x,hxk⟩:=Au (Bn lo ys xs k) (lo+k) (by rw [D4];have:=HX.out.1;omega);have hc1:wr.cell? ⟨g,lo+k,none⟩=some (U O x):=((HM.out.own i (AU HI.out)).cellAt (lo+k) (by omega)).trans (Bk hxk);have hc2:wr.cell? ⟨b1,o1+k,none⟩=some (U O y):=HM.out.rdAt j (By HN.out HJ.out) (Bk hyk);have kf:=HM.out.ownF i (AU HI.out);have HS:Hid (zC (Bn lo ys xs (k+1))=(zC (Bn lo ys xs k)).set (lo+k) (U O (wrap64 (x+y)))):=K1 (by rw [Bn,Dn,hxk,hyk];rfl);clear hyk hxk;generalize hs:wrap64 (x+y)=s at *
    have hm2:=(HM.out.setOwn (j:=lo+k) (AU HI.out) (U O s))
    rw [List.set_set,<- HS.out] at hm2;have HM2:=K1 hm2;clear HM hm2;go_wp2_with fail
    go_region
    go_wp2_with fail;go_roundw
    case rel=>exact ⟨k+1,by omega,by go_num,K1 (by first | exact HM2.out.drew | exact HM2.out)⟩
    case measure=>simp [intOf];omega
  . have hkn:k=n:=by omega
    subst hkn;go_wp2_with fail;go_ret;exact ⟨rfl,HM.out⟩
def Cy (xs ys:List Int) (q:Nat):Nat->Int
 | 0=>0
 | k+1=>wrap64 (Cy xs ys q k+mulF (xs[k]?.getD 0) (ys[k]?.getD 0) q)
theorem PP (w:World) (A B:Option Addr) (n ca cb q:Nat) (xs ys:List Int) (hA:Rd w w.heap.size A (zC xs)) (hB:Rd w w.heap.size B (zC ys)) (hx:xs.length=n) (hy:ys.length=n) (h1:In64 xs) (h2:In64 ys) (hq:q<=62) (hn:n<=1000000000) (hca:n<=ca) (hcb:n<=cb) :
  Calls Tryz.prog 250 #[Us A n ca,Us B n cb,U O q] w fun e w'=>e=.returned (.tuple #[U O (Cy xs ys q n),.bool true])/\Below w.heap.size w w':=by
 have HM0:=K1 (((XR w).add_rd (i:=0) rfl hA).add_rd (i:=0) rfl hB);have HX:=K1 (XL hx (XL hy (XL h1 h2)));have CM:=K1 (fun W a b h3 h4=>FV W a b q hq h3 h4);clear hA hB hx hy h1 h2;go_enter Tryz.func250,Tryz.ntmps250;go_wp2_with fail
 go_loopw [8,18] (fun s iv wr=>∃ k:Nat,k<=n/\iv=U O k/\s=U O (Cy xs ys q k)/\Hid (Mem wr [.bel w.heap.size w,.rd A (zC xs),.rd B (zC ys)])) (fun _ iv _=>n-(intOf iv).toNat)
 case atStart=>exact ⟨0,XT _,rfl,rfl,HM0⟩
 case round =>
  clear HM0;obtain ⟨k,hk,rfl,rfl,HM⟩:=hrel
  by_cases hlt:k<n
  . obtain ⟨x,hxk⟩:=Au xs k (by have:=HX.out.1;omega);obtain ⟨y,hyk⟩:=Au ys k (by have:=HX.out.2.1;omega);obtain ⟨b1,o1,rfl,_⟩:=HM.out.rd 1 rfl (by rw [Br];have:=HX.out.1;omega);obtain ⟨b2,o2,rfl,_⟩:=HM.out.rd 2 rfl (by rw [Br];have:=HX.out.2.1;omega);have c1:=HM.out.rdAt 1 rfl (Bk hxk);have c2:=HM.out.rdAt 2 rfl (Bk hyk);have HS:Hid (Cy xs ys q (k+1)=wrap64 (Cy xs ys q k+mulF x y q)):=K1 (by rw [Cy,hxk,hyk];rfl);have CK:=K1 (fun W=>CM.out W x y (HX.out.2.2.1.at_ hxk) (HX.out.2.2.2.at_ hyk));clear hxk hyk;generalize Cy xs ys q k=s0 at *;generalize mulF x y q=p at *;go_wp2_with fail
    (with_reducible refine (CK.out _).mono ?_)
    rintro e w2 ⟨rfl,hb2⟩;have HM2:=K1 (HM.out.below hb2);clear hb2 HM c1 c2 CK;go_wp2_with fail;go_roundw
    case rel =>
     refine ⟨k+1,by omega,by go_num,?_,HM2⟩;rw [HS.out]
    case measure=>simp [intOf];omega
  . have hkn:k=n:=by omega
    subst hkn;go_wp2_with fail
    go_ret2
    exact ⟨rfl,HM.out.bel 0 rfl⟩
def Dd (xs:List Int) (a:Int) (q:Nat):Nat->List Int
 | 0=>xs
 | k+1=>(Dd xs a q k).set k (mulF (xs[k]?.getD 0) a q)
theorem Hl (xs:List Int) (a:Int) (q:Nat):∀ k,(Dd xs a q k).length=xs.length
 | 0=>rfl
 | k+1=>by rw [Dd,Yp,Hl xs a q k]
theorem KZ (xs:List Int) (a:Int) (q:Nat):∀ k j,k<=j->(Dd xs a q k)[j]?=xs[j]?
 | 0,_,_=>rfl
 | k+1,j,h=>by rw [Dd,List.getElem?_set_ne (by omega),KZ xs a q k j (by omega)]
theorem PQ (w:World) (A:Option Addr) (n ca q:Nat) (a:Int) (xs:List Int) (hA:Rd w w.heap.size A (zC xs)) (hx:xs.length=n) (h1:In64 xs) (ha:-9223372036854775808<=a/\a<=9223372036854775807) (hq:q<=62) (hn:n<=1000000000) :
  Calls Tryz.prog 237 #[Us A n ca,U O a,U O q] w fun e w'=>∃ A' c',e=.returned (Us A' n c')/\w'.ownsRow w.heap.size 2 1 (Us A' n c') n (zC (Dd xs a q n))/\n<=c'/\Below w.heap.size w w':=by
 have CC:=K1 (Eu A n ca xs w hA hx hn);have HX:=K1 (XL hx h1);have CM:=K1 (fun W b h3=>FV W b a q hq h3 ha);clear hA hx h1 ha;go_enter Tryz.func237,Tryz.ntmps237;go_wp2_with fail
 (with_reducible refine CC.out.mono ?_)
 rintro e w1 ⟨A',c',rfl,ho,hc,hb⟩;have HM0:=K1 ((XR w).push_own hb ho rfl);clear CC ho hb;go_wp2_with fail
 go_loopw [14] (fun iv wr=>∃ k:Nat,k<=n/\iv=U O k/\Hid (Mem wr [.bel w.heap.size w,.own w.heap.size 2 1 (Us A' n c') n (zC (Dd xs a q k))])) (fun iv _=>n-(intOf iv).toNat)
 case atStart=>exact ⟨0,XT _,rfl,HM0⟩
 case round =>
  clear HM0;obtain ⟨k,hk,rfl,HM⟩:=hrel
  by_cases hlt:k<n
  . obtain ⟨g,rfl⟩:=HM.out.ownA 1 rfl (by omega);obtain ⟨x,hxk⟩:=Au xs k (by have:=HX.out.1;omega);have hc1:wr.cell? ⟨g,k,none⟩=some (U O x):=((HM.out.own 1 rfl).cellAt k (by omega)).trans (Bk ((KZ xs a q k k (XM _)).trans hxk));have HS:Hid (zC (Dd xs a q (k+1))=(zC (Dd xs a q k)).set k (U O (mulF x a q))):=K1 (by rw [Dd,Dn,hxk];rfl);have CK:=K1 (fun W=>CM.out W x (HX.out.2.at_ hxk));clear hxk;generalize mulF x a q=p at *;go_wp2_with fail
    (with_reducible refine (CK.out _).mono ?_)
    rintro e w2 ⟨rfl,hb2⟩;have HM2:=K1 (HM.out.below hb2);clear hb2 HM hc1 CK;have kf:=HM2.out.ownF 1 rfl
    have hc2:∃ v,w2.cell? ⟨g,k,none⟩=some v:=⟨_,((HM2.out.own 1 rfl).cellAt k (by omega)).trans (Yb (by rw [Br,Hl,HX.out.1];exact hlt))⟩
    obtain ⟨v,hc2⟩:=hc2;have hm3:=HM2.out.setOwn (j:=k) (i:=1) rfl (U O p);rw [<- HS.out] at hm3;have HM3:=K1 hm3;clear hm3 HM2;go_wp2_with fail;go_roundw
    case rel=>exact ⟨k+1,by omega,by go_num,HM3⟩
    case measure=>simp [intOf];omega
  . have hkn:k=n:=by omega
    subst hkn;go_wp2_with fail;go_ret;exact ⟨_,_,rfl,HM.out.own 1 rfl,hc,HM.out.bel 0 rfl⟩
end
end Go.Proofs.YtdpojpcoghcieaaGreat
