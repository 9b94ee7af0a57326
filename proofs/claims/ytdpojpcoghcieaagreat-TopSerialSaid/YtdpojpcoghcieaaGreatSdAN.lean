/- A part of the proof of TopSerial: Micro, Shelf, Fixp, RefMulP. Conditions: none. -/
import Derived.Shelf.Bits.Mul64
import Derived.Ground.Names2Prog
import Derived.Shelf.Slices.Clone
import Derived.Laws.Bits64b
import Derived.Laws.BitsAllLaws
import Derived.Test.YtdpojpcoghcieaaGreatSdAM
set_option maxHeartbeats 8000000
namespace Go.Proofs.YtdpojpcoghcieaaGreat
open Lib renaming hid → K1
open Go.RowKit
def subL {α:Type} (l:List α) (a b:Nat):List α:=(l.drop a).take (b-a)
theorem subL_len {α:Type} {l:List α} {a b:Nat} (h:a≤b) (hb:b≤l.length):(subL l a b).length=b-a:=by simp [subL];omega
theorem subL_at {α:Type} {l:List α} {a b j:Nat} (hj:j<b-a):(subL l a b)[j]?=l[a+j]?:=by
 simp [subL,hj]
theorem iCells_sub (l:List Nat) (a b:Nat):iCells (subL l a b)=subL (iCells l) a b:=by simp [iCells,subL,List.map_take,List.map_drop]
theorem iCells_len (l:List Nat):(iCells l).length=l.length:=by simp [iCells]
theorem Rd.sub {w:World} {B:Nat} {A:Option Addr} {vs:List Value} (h:Rd w B A vs) (l m:Nat) (hm:m≤vs.length) :
  Rd w B (if m=l then A else A.map fun p=>p.add l) (subL vs l m):=fun h0=>by
 have h1:l<m:=by simp [subL] at h0;omega
 obtain ⟨b,off,e,hb,hc⟩:=h (by omega)
 refine ⟨b,off+l,by rw [if_neg (by omega),e];simp [Addr.add],hb,fun j u hu=>?_⟩
 have hj:j<m-l:=by
  have:=(List.getElem?_eq_some_iff.1 hu).1
  simp [subL] at this;omega
 rw [subL_at hj] at hu
 rw [Nat.add_assoc]
 exact hc _ u hu
theorem blk_cells {w:World} {g:Nat} {cs:Array Value} {t:TypeId} (h:w.heap[g]?=some (.cells cs t (0,0))) (k:Nat):w.cell? ⟨g,k,none⟩=cs.toList[k]?:=by
 rw [blk_cell h,Array.getElem?_toList]
theorem shufL_len (ds:List Nat) (a n:Nat):(shufL ds a n).length=n:=permTo_len _ _ _
def viewL (ds:List Nat) (n batch t:Nat):List Nat:=subL (shufL ds (t / (n / batch)*(n-1)) n) (t % (n / batch)*batch) (t % (n / batch)*batch+batch)
def pieceL {α:Type} (l:List α) (i k:Nat):List α:=subL l (bnd l.length k i) (bnd l.length k (i+1))
def microL (ds:List Nat) (n batch t u k a mi:Nat):List Nat:=pieceL (pieceL (viewL ds n batch t) u k) a mi
set_option maxRecDepth 100000 in
theorem samSteps_any (w:World) (lo hi gs n batch steps:Nat) (ds:List Nat) (h:SampAt w lo hi gs n batch steps ds) :
  Calls Tryz.prog 240 #[.pointer (some ⟨gs,0,none⟩)] w fun e w'=>e=.returned (.int .i64 steps)∧w=w':=by
 obtain ⟨_,Ab,cb,Ao,co,os,h1,_⟩:=h
 have c1:=blk_cells h1
 clear h1
 go_enter Tryz.func240,Tryz.ntmps240
 go_wp2
 go_ret
 exact ⟨rfl,rfl⟩
set_option maxRecDepth 100000 in
theorem samEpoch_any (w:World) (lo hi gs n batch steps t:Nat) (ds:List Nat) (h:SampAt w lo hi gs n batch steps ds) (hb:1≤batch∧batch≤n) (ht:t<steps) (hs:steps≤1000) :
  Calls Tryz.prog 231 #[.pointer (some ⟨gs,0,none⟩),.int .i64 t] w fun e w'=>e=.returned (.tuple #[.int .i64 (t / (n / batch):Nat),.int .i64 (t % (n / batch):Nat),.bool true])∧Below w.heap.size w w':=by
 have CS:=K1 (samSteps_any w lo hi gs n batch steps ds h)
 obtain ⟨_,Ab,cb,Ao,co,os,h1,_⟩:=h
 rw [epBs_len hb.1] at h1
 have c1:=blk_cells h1
 clear h1
 have hnb:1≤n / batch:=Nat.div_pos hb.2 hb.1
 generalize n / batch=nb at *
 obtain ⟨q,hq⟩:∃ q,q=t / nb:=⟨_,rfl⟩
 obtain ⟨r,hr⟩:∃ r,r=t % nb:=⟨_,rfl⟩
 have hq1:q≤t:=hq ▸ Nat.div_le_self _ _
 have hr1:r≤t:=hr ▸ Nat.mod_le _ _
 have e1:(t:Int).tdiv (nb:Int)=(q:Int):=by rw [hq];exact (Int.ofNat_tdiv _ _).symm
 have e2:(t:Int).tmod (nb:Int)=(r:Int):=by rw [hr];exact (Int.ofNat_tmod _ _).symm
 have w1:IntKind.i64.wrap (q:Int)=(q:Int):=IntWalk.i64_in _ (by omega)
 have w2:IntKind.i64.wrap (r:Int)=(r:Int):=IntWalk.i64_in _ (by omega)
 have hz:¬ nb=0:=by omega
 rw [← hq,← hr]
 clear hq hr
 go_enter Tryz.func231,Tryz.ntmps231
 go_wp2_with fail
 (with_reducible refine CS.out.mono ?_)
 rintro e w1 ⟨rfl,rfl⟩
 clear CS
 go_wp2_with fail
 go_region
 go_wp2_with fail
 go_ret3
 exact ⟨rfl,below_drewN (Below.refl _ _) _⟩
theorem SampAt.step {w:World} {lo hi gs n batch steps:Nat} {ds:List Nat} (h:SampAt w lo hi gs n batch steps ds) (hh:hi≤w.heap.size) (hb:1≤batch∧batch≤n) {t:Nat} (ht:t<steps) :
  ∃ (Ab:Option Addr) (cb:Nat) (Ao:Option Addr) (co:Nat) (os:Ords) (A1:Option Addr) (c1:Nat),(∀ i,w.cell? ⟨gs,i,none⟩=([.int .i64 batch,.int .i64 steps,.slice Ab (n / batch) cb,.slice Ao (pcnt steps (n / batch)) co]:List Value)[i]?) ∧
    Rd w w.heap.size Ab (rcells (epBs n batch))∧(epBs n batch)[t % (n / batch)]?=some (t % (n / batch)*batch,t % (n / batch)*batch+batch)∧t % (n / batch)*batch+batch≤n ∧
    Rd w w.heap.size Ao (ordVals n os)∧(ordVals n os)[t / (n / batch)]?=some (.slice A1 n c1)∧n≤c1∧t / (n / batch)<pcnt steps (n / batch)∧Rd w w.heap.size A1 (iCells (shufL ds (t / (n / batch)*(n-1)) n))∧t % (n / batch)<n / batch:=by
 obtain ⟨_,Ab,cb,Ao,co,os,h1,h2,h3,h4,h5,h6,h7⟩:=h
 rw [epBs_len hb.1] at h1
 have hnb:1≤n / batch:=Nat.div_pos hb.2 hb.1
 have hr:t % (n / batch)<n / batch:=Nat.mod_lt _ hnb
 have hq:t / (n / batch)<pcnt steps (n / batch):=by
  unfold pcnt
  rw [if_neg (by omega)]
  have:=Nat.div_le_div_right (c:=n / batch) (show t≤steps-1 by omega)
  omega
 have hle:t % (n / batch)*batch+batch≤n:=by
  have h8:=Nat.mul_le_mul_right batch hr
  have h9:=Nat.div_mul_le_self n batch
  rw [Nat.succ_mul] at h8
  omega
 have hle2:t % (n / batch)*batch+batch≤n-n % batch:=by
  have h8:=Nat.mul_le_mul_right batch hr
  have h9:=Nat.div_add_mod n batch
  rw [Nat.succ_mul,Nat.mul_comm (n / batch)] at h8
  omega
 have hlen:os.length=pcnt steps (n / batch):=by
  have:=congrArg List.length h5
  simpa [ordersL] using this
 obtain ⟨o,ho⟩:∃ o,os[t / (n / batch)]?=some o:=⟨_,List.getElem?_eq_getElem (by omega)⟩
 have ho2:o.2.2=shufL ds (t / (n / batch)*(n-1)) n:=by
  have e:=congrArg (·[t / (n / batch)]?) h5
  simp only [List.getElem?_map,ho,ordersL,List.getElem?_range hq,Option.map_some,Option.some.injEq] at e
  exact e
 have hm:=List.mem_of_getElem? ho
 refine ⟨Ab,cb,Ao,co,os,o.1,o.2.1,blk_cells h1,h2.1.more hh,?_,hle,h3.1.more hh,?_,(h4 o hm).1,hq,?_,hr⟩
 · have hr2:t % (n / batch)<pcnt (n-n % batch) batch:=by
    have:=epBs_len (n:=n) hb.1
    rw [epBs,blocks_len] at this
    omega
   simp only [epBs,blocksL,List.getElem?_map,List.getElem?_range hr2,Option.map_some,blk1]
   rw [Nat.min_eq_left (by omega)]
 · simp [ordVals,ho]
 · rw [← ho2];exact (h4 o hm).2.1.more hh
set_option maxRecDepth 100000 in
theorem view_any (w:World) (lo hi gs n batch steps t:Nat) (ds:List Nat) (h:SampAt w lo hi gs n batch steps ds) (hh:hi≤w.heap.size) (hn:n≤1000) (hb:1≤batch∧batch≤n) (ht:t<steps) (hs:steps≤1000) :
  Calls Tryz.prog 222 #[.pointer (some ⟨gs,0,none⟩),.int .i64 t] w fun e w'=>∃ A,e=.returned (.slice A batch batch)∧Rd w' w'.heap.size A (iCells (viewL ds n batch t))∧Below w.heap.size w w':=by
 have CE:=K1 (samEpoch_any w lo hi gs n batch steps t ds h hb ht hs)
 obtain ⟨Ab,cb,Ao,co,os,A1,c1,h1,h2,h3,h4,h5,h6,h7,h8,h9,h10⟩:=h.step hh hb ht
 have hgs:gs<w.heap.size:=Nat.lt_of_lt_of_le h.in_.2 hh
 clear h
 unfold viewL
 generalize n / batch=nb at *
 generalize t / nb=q at *
 generalize hr:t % nb=r at *
 obtain ⟨x,hx⟩:∃ x,x=r*batch:=⟨_,rfl⟩
 obtain ⟨y,hy⟩:∃ y,y=x+batch:=⟨_,rfl⟩
 rw [← hx,← hy] at h3 h4
 rw [← hx,← hy,iCells_sub]
 have hl:(iCells (shufL ds (q*(n-1)) n)).length=n:=by rw [iCells_len,shufL_len]
 generalize iCells (shufL ds (q*(n-1)) n)=vs at *
 have HM:=K1 ((((Mem.start w).add_rd (i:=0) rfl h2).add_rd (i:=0) rfl h5).add_rd (i:=0) rfl h9)
 obtain ⟨b1,o1,rfl,_,_⟩:=h2 (by have:=(List.getElem?_eq_some_iff.1 h3).1;rw [rcells_len];omega)
 obtain ⟨b2,o2,rfl,_,_⟩:=h5 (by have:=(List.getElem?_eq_some_iff.1 h6).1;omega)
 have HX:=K1 (And.intro h3 (And.intro h6 (And.intro h4 hl)))
 clear h2 h3 h5 h6 h9 hl hr hx
 go_enter Tryz.func222,Tryz.ntmps222
 go_wp2_with fail
 (with_reducible refine CE.out.mono ?_)
 rintro e w1 ⟨rfl,hb1⟩
 replace HM:=K1 (HM.out.below hb1)
 have k1:∀ i,w1.cell? ⟨gs,i,none⟩=([.int .i64 batch,.int .i64 steps,.slice (some ⟨b1,o1,none⟩) nb cb,.slice (some ⟨b2,o2,none⟩) (pcnt steps nb) co]:List Value)[i]?:=fun i=>(hb1.cell hgs).trans (h1 i)
 have HB1:=K1 hb1
 obtain ⟨k2,k3⟩:=HM.out.range2 1 rfl HX.out.1
 clear hb1 CE h1
 go_wp2_with fail
 refine name_wp fun W hW=>?_
 have k4:∀ i,W.cell? ⟨gs,i,none⟩=([.int .i64 batch,.int .i64 steps,.slice (some ⟨b1,o1,none⟩) nb cb,.slice (some ⟨b2,o2,none⟩) (pcnt steps nb) co]:List Value)[i]?:=fun i=>by
  rw [hW.out];exact (((Below.refl w1.heap.size w1).alloc (Nat.le_refl _) _).cell (Nat.lt_of_lt_of_le hgs HB1.out.size)).trans (k1 i)
 replace HM:=K1 (HM.out.alloc_ hW.out)
 clear hW k1 k2 k3
 have k5:=HM.out.cells 4 rfl
 have k6:=HM.out.rdAt 2 rfl HX.out.2.1
 have hxy:x≤y:=by omega
 have hyc:y≤c1:=Nat.le_trans HX.out.2.2.1 h7
 have hqn:q<pcnt steps nb:=h8
 go_region
 go_wp2_with fail
 have hs:=(HM.out.drew.rd 3 rfl).sub x y (by rw [HX.out.2.2.2];omega)
 rw [if_neg (by omega),hy] at hs
 go_ret
 exact ⟨_,rfl,hs,(HM.out.drew.bel 0 rfl)⟩
theorem bnd_lt {n k i:Nat} (hi:i<k):bnd n k (i+1)≤n:=bnd_le (by omega) (by omega)
theorem pieceL_len {α:Type} {l:List α} {i k:Nat} (hi:i<k):(pieceL l i k).length=bnd l.length k (i+1)-bnd l.length k i:=subL_len (bnd_mono _ _ _) (bnd_lt hi)
theorem pieceL_le {α:Type} {l:List α} {i k:Nat} (hi:i<k):(pieceL l i k).length≤l.length:=by
 have:=bnd_lt (n:=l.length) hi
 rw [pieceL_len hi];omega
set_option maxRecDepth 100000 in
theorem piece_any (w:World) (A:Option Addr) (n cap i k:Nat) (l:List Nat) (hr:Rd w w.heap.size A (iCells l)) (hl:l.length=n) (hc:n≤cap) (hn:n≤1000) (hk:k≤1000) (hi:i<k) :
  Calls Tryz.prog 223 #[.slice A n cap,.int .i64 i,.int .i64 k] w fun e w'=>∃ A' m,e=.returned (.slice A' m m)∧(pieceL l i k).length=m∧Rd w' w'.heap.size A' (iCells (pieceL l i k))∧Below w.heap.size w w':=by
 have CE:=K1 (even_any n k w (by omega) ⟨by omega,hk⟩)
 have hlen:=pieceL_len (l:=l) hi
 have hp:iCells (pieceL l i k)=subL (iCells l) (bnd n k i) (bnd n k (i+1)):=by rw [pieceL,iCells_sub,hl]
 rw [hl] at hlen
 have h1:=bnd_mono n k i
 have h2:=bnd_lt (n:=n) hi
 have h3:(evenL n k)[i]?=some (bnd n k i,bnd n k (i+1)):=by simp [evenL,hi]
 have h4:=even_len n k
 rw [hlen,hp]
 have h5:(iCells l).length=n:=by rw [iCells_len,hl]
 generalize bnd n k i=x at *
 generalize bnd n k (i+1)=y at *
 generalize evenL n k=ev at *
 generalize iCells l=vs at *
 have HM:=K1 ((Mem.start w).add_rd (i:=0) rfl hr)
 have HX:=K1 (And.intro h3 (And.intro h4 h5))
 clear hlen hp h3 h4 h5 hr hl
 go_enter Tryz.func223,Tryz.ntmps223
 go_wp2_with fail
 (with_reducible refine CE.out.mono ?_)
 rintro e w1 ⟨v,rfl,hv,hb1⟩
 obtain ⟨A1,c1,rfl⟩:=own_slice hv
 replace HM:=K1 (HM.out.push_rd hb1 (rd_of_own hv) (own_from_base hv))
 clear hb1 hv CE
 obtain ⟨b1,o1,rfl,_,_⟩:=HM.out.rd 2 rfl (by have:=(List.getElem?_eq_some_iff.1 HX.out.1).1;rw [rcells_len];omega)
 obtain ⟨k2,k3⟩:=HM.out.range2 2 rfl HX.out.1
 have h6:=HX.out.2.1
 generalize ev.length=ne at *
 subst h6
 by_cases hxy:x=y
 · subst hxy
   go_wp2_with fail
   have hs:=(HM.out.alloc (.cells #[.int .i64 x,.int .i64 x] 47)).rd 1 rfl |>.sub x x (by rw [HX.out.2.2];omega)
   rw [if_pos rfl] at hs
   go_ret
   exact ⟨_,_,rfl,by omega,hs,(HM.out.alloc _).bel 0 rfl⟩
 have hlt:x<y:=by omega
 have hyx:¬ y=x:=by omega
 go_wp2_with fail
 have hs:=(HM.out.alloc (.cells #[.int .i64 x,.int .i64 y] 47)).rd 1 rfl |>.sub x y (by rw [HX.out.2.2];omega)
 rw [if_neg hyx] at hs
 go_ret
 exact ⟨_,_,rfl,by omega,hs,(HM.out.alloc _).bel 0 rfl⟩
theorem viewL_len {ds:List Nat} {n batch t:Nat} (h:t % (n / batch)*batch+batch≤n):(viewL ds n batch t).length=batch:=by
 rw [viewL,subL_len (by omega) (by rw [shufL_len];exact h)];omega
set_option maxRecDepth 100000 in
theorem micro_any (w:World) (lo hi gs n batch steps t u k a mi:Nat) (ds:List Nat) (h:SampAt w lo hi gs n batch steps ds) (hh:hi≤w.heap.size) (hn:n≤1000) (hb:1≤batch∧batch≤n) (ht:t<steps) (hs:steps≤1000) (hk:u<k∧k≤1000) (hm:a<mi∧mi≤1000) :
  Calls Tryz.prog 207 #[.pointer (some ⟨gs,0,none⟩),.int .i64 t,.int .i64 u,.int .i64 k,.int .i64 a,.int .i64 mi] w fun e w'=>∃ A c,e=.returned (.slice A (microL ds n batch t u k a mi).length c)∧w'.ownsRow w.heap.size 3 1 (.slice A (microL ds n batch t u k a mi).length c) (microL ds n batch t u k a mi).length (iCells (microL ds n batch t u k a mi))∧Below w.heap.size w w':=by
 have CV:=K1 (view_any w lo hi gs n batch steps t ds h hh hn hb ht hs)
 obtain ⟨_,_,_,_,_,_,_,_,_,_,h4,_⟩:=h.step hh hb ht
 have hvl:(viewL ds n batch t).length=batch:=viewL_len h4
 have CP1:=K1 (fun W A hr=>piece_any W A batch batch u k (viewL ds n batch t) hr hvl (Nat.le_refl _) (by omega) hk.2 hk.1)
 have hp1:=pieceL_le (l:=viewL ds n batch t) hk.1
 rw [hvl] at hp1
 unfold microL
 clear h h4
 generalize viewL ds n batch t=vl at *
 have CP2:=K1 (fun W A m (hr:Rd W W.heap.size A (iCells (pieceL vl u k))) hl hm2=>piece_any W A m m a mi (pieceL vl u k) hr hl (Nat.le_refl _) hm2 hm.2 hm.1)
 have hp2:=pieceL_le (l:=pieceL vl u k) hm.1
 generalize pieceL vl u k=p1 at *
 have CC:=K1 (fun W A m (hr:Rd W W.heap.size A (iCells (pieceL p1 a mi))) (hl:(pieceL p1 a mi).length=m) hm2=>cloneI_any A m m (iCells (pieceL p1 a mi)) W hr (by rw [iCells_len,hl,Nat.mul_one]) (by intro u hu;simp only [iCells,List.mem_map] at hu;obtain ⟨_,_,rfl⟩:=hu;rfl) hm2)
 generalize pieceL p1 a mi=p2 at *
 clear hvl
 go_enter Tryz.func207,Tryz.ntmps207
 go_wp2_with fail
 (with_reducible refine CV.out.mono ?_)
 rintro e w1 ⟨A1,rfl,hr1,hb1⟩
 go_wp2_with fail
 (with_reducible refine (CP1.out w1 A1 hr1).mono ?_)
 rintro e w2 ⟨A2,m2,rfl,hm2,hr2,hb2⟩
 have hb2':=hb1.trans (hb2.mono hb1.size)
 clear hr1 hb1 hb2 CV CP1
 go_wp2_with fail
 (with_reducible refine (CP2.out w2 A2 m2 hr2 hm2 (by omega)).mono ?_)
 rintro e w3 ⟨A3,m3,rfl,hm3,hr3,hb3⟩
 have hb3':=hb2'.trans (hb3.mono hb2'.size)
 clear hr2 hb2' hb3 CP2
 go_wp2_with fail
 (with_reducible refine (CC.out w3 A3 m3 hr3 hm3 (by omega)).mono ?_)
 rintro e w4 ⟨A4,c4,rfl,ho,hc,hb4⟩
 have hF:=own_from hb3'.size ho
 have hb4':=hb3'.trans (hb4.mono hb3'.size)
 clear hr3 hb3' hb4 CC
 go_wp2_with fail
 go_ret
 rw [hm3]
 exact ⟨A4,c4,rfl,hF,hb4'⟩
end Go.Proofs.YtdpojpcoghcieaaGreat
namespace Go.Proofs
open Go.Shelf
def Tryz.lays264_ren:Go.Shelf.Ren:=⟨fun | 264=>251 | n=>n,fun | 53=>141 | 46=>268 | n=>n,fun | n=>n⟩
theorem Tryz.lays264:Go.Proofs.Lays.n264 Tryz.prog Tryz.lays264_ren:={
 mixed:=by kernel_rfl
 f264:=Tryz.func251.trans (congrArg some (by kernel_rfl))
 t46:=Tryz.underlying268
 a46:=Tryz.isAgg268
 z46:=Tryz.sizeOf268
 v46:=Tryz.zeroValue268
 t53:=Tryz.underlying141
 a53:=Tryz.isAgg141
 z53:=Tryz.sizeOf141
 v53:=Tryz.zeroValue141 }
open Go.RowKit Go.Lib in
theorem Tryz.bits_Mul64 (x y:Nat) (hx:x<18446744073709551616) (hy:y<18446744073709551616) (w:World) :
  Calls Tryz.prog 251 #[.int .u64 x,.int .u64 y] w fun e w'=>e=.returned (.tuple #[.int .u64 ((x*y / 18446744073709551616:Nat):Int),.int .u64 ((x*y % 18446744073709551616:Nat):Int)])∧w'=w:=Any.bits_Mul64 Tryz.lays264 x y hx hy w
end Go.Proofs
namespace Go.Proofs.YtdpojpcoghcieaaGreat
open Lib renaming hid → K1
open Go.RowKit
def mulF (a b:Int) (q:Nat):Int:=wrap64 (a*b / (2:Int) ^ q)
set_option maxRecDepth 100000 in
theorem sub_any (w:World) (a b:Int) :
  Calls Tryz.prog 233 #[.int .i64 a,.int .i64 b] w fun e w'=>e=.returned (.int .i64 (wrap64 (a-b)))∧w=w':=by
 go_enter Tryz.func233,Tryz.ntmps233
 go_wp2
 go_ret
 exact ⟨rfl,rfl⟩
set_option maxRecDepth 100000 in
theorem relu_any (w:World) (a:Int) :
  Calls Tryz.prog 243 #[.int .i64 a] w fun e w'=>e=.returned (.int .i64 (max a 0))∧w=w':=by
 go_enter Tryz.func243,Tryz.ntmps243
 go_wp2
 all_goals
  go_ret
  refine ⟨?_,rfl⟩
  simp
  try omega
set_option maxRecDepth 100000 in
theorem gate_any (w:World) (a g:Int) :
  Calls Tryz.prog 227 #[.int .i64 a,.int .i64 g] w fun e w'=>e=.returned (.int .i64 (if a≤0 then 0 else g))∧w=w':=by
 by_cases h:a≤0
 all_goals
  go_enter Tryz.func227,Tryz.ntmps227
  go_wp2
  go_ret
  refine ⟨?_,rfl⟩
  simp
theorem wrap64_more (x k:Int):wrap64 (x+18446744073709551616*k)=wrap64 x:=by unfold wrap64;omega
theorem u64_wrap (x:Int):IntKind.u64.wrap x=x % 18446744073709551616:=by simp [IntKind.wrap,IntKind.bits,IntKind.signed]
theorem shift_plain (hi:Int) (lo q:Nat) (hq:q≤62) (hl:lo<18446744073709551616) :
  wrap64 (bits BinOp.or IntKind.u64 (IntKind.u64.wrap (IntKind.u64.wrap hi*2 ^ (64-q))) (↑lo / 2 ^ q))=wrap64 ((hi*18446744073709551616+lo) / (2:Int) ^ q):=by
 obtain ⟨h,hh⟩:∃ h:Nat,(h:Int)=hi % 18446744073709551616:=⟨(hi % 18446744073709551616).toNat,by omega⟩
 obtain ⟨z,hz⟩:∃ z:Int,hi=h+18446744073709551616*z:=⟨hi / 18446744073709551616,by omega⟩
 have hlt:h<18446744073709551616:=by omega
 rw [u64_wrap hi,← hh,u64_wrap]
 obtain ⟨s,hs⟩:∃ s,s=64-q:=⟨_,rfl⟩
 have e64:2 ^ q*2 ^ s=18446744073709551616:=by rw [← Nat.pow_add,show q+s=64 by omega]
 rw [← hs]
 have hq0:0<2 ^ q:=Nat.two_pow_pos q
 have hs0:0<2 ^ s:=Nat.two_pow_pos s
 have eq2:(2:Int) ^ q=((2 ^ q:Nat):Int):=by simp
 have es2:(2:Int) ^ s=((2 ^ s:Nat):Int):=by simp
 rw [eq2,es2]
 have e1:((h:Int)*((2 ^ s:Nat):Int)) % 18446744073709551616=((h % 2 ^ q*2 ^ s:Nat):Int):=by
  rw [← Int.natCast_mul,show (18446744073709551616:Int)=((2 ^ q*2 ^ s:Nat):Int) by rw [e64];rfl,← Int.natCast_emod,Nat.mul_mod_mul_right]
 have e2:(lo:Int) / ((2 ^ q:Nat):Int)=((lo / 2 ^ q:Nat):Int):=(Int.natCast_ediv _ _).symm
 rw [e1,e2]
 have hb:lo / 2 ^ q<2 ^ s:=Nat.div_lt_of_lt_mul (by rw [e64];exact hl)
 have ha:h % 2 ^ q*2 ^ s+2 ^ s≤18446744073709551616:=by
  have:=Nat.mul_le_mul_right (2 ^ s) (Nat.mod_lt h hq0)
  rw [Nat.succ_mul,e64] at this
  exact this
 rw [bits_or_u64_nat _ _ (by omega) (by omega)]
 have e3:h % 2 ^ q*2 ^ s ||| lo / 2 ^ q=h % 2 ^ q*2 ^ s+lo / 2 ^ q:=by
  have:=Nat.shiftLeft_add_eq_or_of_lt hb (h % 2 ^ q)
  rw [Nat.shiftLeft_eq] at this
  exact this.symm
 rw [e3]
 have e4:(hi*18446744073709551616+(lo:Int)) / ((2 ^ q:Nat):Int)=hi*((2 ^ s:Nat):Int)+((lo / 2 ^ q:Nat):Int):=by
  rw [show (18446744073709551616:Int)=((2 ^ s:Nat):Int)*((2 ^ q:Nat):Int) by rw [← Int.natCast_mul,Nat.mul_comm,e64];rfl,← Int.mul_assoc,Int.add_comm,Int.add_mul_ediv_right _ _ (by omega),Int.add_comm,e2]
 rw [e4]
 have e5:hi*((2 ^ s:Nat):Int)=((h % 2 ^ q*2 ^ s:Nat):Int)+18446744073709551616*(((h / 2 ^ q:Nat):Int)+z*((2 ^ s:Nat):Int)):=by
  have hd:=Nat.div_add_mod h (2 ^ q)
  have e6:((2 ^ q:Nat):Int)*((2 ^ s:Nat):Int)=18446744073709551616:=by rw [← Int.natCast_mul,e64];rfl
  have hd2:(h:Int)=((2 ^ q:Nat):Int)*((h / 2 ^ q:Nat):Int)+((h % 2 ^ q:Nat):Int):=by rw [← Int.natCast_mul,← Int.natCast_add,hd]
  rw [hz,hd2,Int.natCast_mul]
  generalize ((2 ^ q:Nat):Int)=Q at *
  generalize ((2 ^ s:Nat):Int)=S at *
  generalize ((h / 2 ^ q:Nat):Int)=D at *
  generalize ((h % 2 ^ q:Nat):Int)=M at *
  rw [← e6]
  simp only [Int.add_mul,Int.mul_add]
  have:Q*D*S=Q*S*D:=by rw [Int.mul_assoc,Int.mul_comm D,Int.mul_assoc]
  rw [this]
  have h2:Q*S*z*S=Q*S*(z*S):=by rw [Int.mul_assoc]
  rw [h2]
  omega
 rw [e5,Int.natCast_add]
 have:((h % 2 ^ q*2 ^ s:Nat):Int)+18446744073709551616*(((h / 2 ^ q:Nat):Int)+z*((2 ^ s:Nat):Int))+((lo / 2 ^ q:Nat):Int)=(((h % 2 ^ q*2 ^ s:Nat):Int)+((lo / 2 ^ q:Nat):Int))+18446744073709551616*(((h / 2 ^ q:Nat):Int)+z*((2 ^ s:Nat):Int)):=by omega
 rw [this,wrap64_more]
set_option maxRecDepth 100000 in
theorem fshift_any (w:World) (hi:Int) (lo q:Nat) (hq:q≤62)  (hl:lo<18446744073709551616) :
  Calls Tryz.prog 247 #[.int .i64 hi,.int .u64 lo,.int .i64 q] w fun e w'=>e=.returned (.int .i64 (wrap64 ((hi*18446744073709551616+lo) / (2:Int) ^ q)))∧Below w.heap.size w w':=by
 go_enter Tryz.func247,Tryz.ntmps247
 go_wp2
 go_region
 go_wp2
 go_ret
 exact ⟨by simp [shift_plain hi lo q hq hl],below_drew (Below.refl _ _)⟩
def negH (a b v:Int):Int:=if a<0 then wrap64 (v-b) else v
def prodH (a b h:Int):Nat→Int
 | 0=>wrap64 h
 | 1=>negH a b (wrap64 h)
 | _=>negH b a (negH a b (wrap64 h))
theorem prodH_0 (a b h:Int):prodH a b h 0=wrap64 h:=by unfold prodH;rfl
theorem prodH_1 (a b h:Int):prodH a b h 1=negH a b (prodH a b h 0):=by unfold prodH;rfl
theorem prodH_2 (a b h:Int):prodH a b h 2=negH b a (prodH a b h 1):=by unfold prodH;rfl
theorem abs_le63 (a:Int) (ha:-9223372036854775808≤a∧a≤9223372036854775807):a.natAbs≤9223372036854775808:=by omega
theorem mul_bound (a b:Int) (ha:-9223372036854775808≤a∧a≤9223372036854775807) (hb:-9223372036854775808≤b∧b≤9223372036854775807) :
  -85070591730234615865843651857942052864≤a*b∧a*b≤85070591730234615865843651857942052864:=by
 have h:=Nat.mul_le_mul (abs_le63 a ha) (abs_le63 b hb)
 rw [← Int.natAbs_mul] at h
 omega
theorem wrap64_sub_wrap (v b:Int):wrap64 (wrap64 v-b)=wrap64 (v-b):=by unfold wrap64;omega
theorem wrap64_self (v:Int) (h:-9223372036854775808≤v∧v≤9223372036854775807):wrap64 v=v:=by unfold wrap64;omega
theorem wrap64_sub2 (v b a:Int):wrap64 (wrap64 v-b-a)=wrap64 (v-b-a):=by unfold wrap64;omega
theorem prod_plain (a b:Int) (x y h l:Nat) (ha:-9223372036854775808≤a∧a≤9223372036854775807) (hb:-9223372036854775808≤b∧b≤9223372036854775807)
  (hx:h=x*y / 18446744073709551616∧l=x*y % 18446744073709551616∧(x:Int)=a % 18446744073709551616∧(y:Int)=b % 18446744073709551616) :
  a*b=prodH a b h 2*18446744073709551616+l:=by
 obtain ⟨h1,h2,h3,h4⟩:=hx
 have h5:x*y=18446744073709551616*h+l:=by rw [h1,h2];exact (Nat.div_add_mod _ _).symm
 have h6:(x:Int)*y=18446744073709551616*h+l:=by rw [← Int.natCast_mul,h5];simp
 have hl:l<18446744073709551616:=by rw [h2];exact Nat.mod_lt _ (by omega)
 have hab:=mul_bound a b ha hb
 clear h1 h2 h5
 unfold prodH negH
 by_cases ca:a<0
 · have ex:(x:Int)=a+18446744073709551616:=by omega
   by_cases cb:b<0
   · have ey:(y:Int)=b+18446744073709551616:=by omega
     simp only [ca,cb,if_true]
     rw [wrap64_sub_wrap,wrap64_sub2]
     rw [ex,ey,Int.add_mul,Int.mul_add] at h6
     generalize a*b=p at *
     rw [show (h:Int)-b-a=((h:Int)-b-a-18446744073709551616)+18446744073709551616*1 by omega,wrap64_more,wrap64_self _ (by omega)]
     omega
   · have ey:(y:Int)=b:=by omega
     simp only [ca,cb,if_true,if_false]
     rw [wrap64_sub_wrap]
     rw [ex,ey,Int.add_mul] at h6
     generalize a*b=p at *
     rw [wrap64_self _ (by omega)]
     omega
 · have ex:(x:Int)=a:=by omega
   by_cases cb:b<0
   · have ey:(y:Int)=b+18446744073709551616:=by omega
     simp only [ca,cb,if_true,if_false]
     rw [wrap64_sub_wrap]
     rw [ex,ey,Int.mul_add] at h6
     generalize a*b=p at *
     rw [wrap64_self _ (by omega)]
     omega
   · have ey:(y:Int)=b:=by omega
     simp only [ca,cb,if_false]
     rw [ex,ey] at h6
     generalize a*b=p at *
     rw [wrap64_self _ (by omega)]
     omega
theorem ixp_0 (a b:Int) (W:World):(Instr.index 373 (.agg #[.int .i64 a,.int .i64 b,.int .i64 b,.int .i64 a]) (.int .i64 0)).run Tryz.prog W=.ok (.agg #[.int .i64 a,.int .i64 b]) W:=by kernel_rfl
theorem ixp_1 (a b:Int) (W:World):(Instr.index 373 (.agg #[.int .i64 a,.int .i64 b,.int .i64 b,.int .i64 a]) (.int .i64 1)).run Tryz.prog W=.ok (.agg #[.int .i64 b,.int .i64 a]) W:=by kernel_rfl
set_option maxRecDepth 100000 in
theorem product_any (w:World) (a b:Int) (ha:-9223372036854775808≤a∧a≤9223372036854775807) (hb:-9223372036854775808≤b∧b≤9223372036854775807) :
  Calls Tryz.prog 246 #[.int .i64 a,.int .i64 b] w fun e w'=>(∃ (h:Int) (l:Nat),e=.returned (.tuple #[.int .i64 h,.int .u64 l])∧a*b=h*18446744073709551616+l∧l<18446744073709551616)∧Below w.heap.size w w':=by
 have i0:=ixp_0
 have i1:=ixp_1
 obtain ⟨x,hx⟩:∃ x:Nat,(x:Int)=a % 18446744073709551616:=⟨(a % 18446744073709551616).toNat,by omega⟩
 obtain ⟨y,hy⟩:∃ y:Nat,(y:Int)=b % 18446744073709551616:=⟨(b % 18446744073709551616).toNat,by omega⟩
 have CM:=K1 (Tryz.bits_Mul64 x y (by omega) (by omega))
 obtain ⟨h,hh⟩:∃ h,h=x*y / 18446744073709551616:=⟨_,rfl⟩
 obtain ⟨l,hl⟩:∃ l,l=x*y % 18446744073709551616:=⟨_,rfl⟩
 rw [← hh,← hl] at CM
 have ux:IntKind.u64.wrap a=(x:Int):=by rw [u64_wrap,hx]
 have uy:IntKind.u64.wrap b=(y:Int):=by rw [u64_wrap,hy]
 have HX:=K1 (And.intro hh (And.intro hl (And.intro hx hy)))
 clear hh hl hx hy
 go_enter Tryz.func246,Tryz.ntmps246
 go_wp2_with fail
 (with_reducible refine (CM.out _).mono ?_)
 rintro e w1 ⟨rfl,rfl⟩
 go_wp2_with fail
 go_loopw [4,26] (fun v i wr=>∃ j:Nat,i=.int .i64 j∧j≤2∧v=.int .i64 (prodH a b h j)∧Hid (Below w1.heap.size w1 wr)) (fun _ i _=>2-(intOf i).toNat)
 case atStart=>exact ⟨0,rfl,by omega,congrArg (Value.int .i64) (prodH_0 a b h).symm,K1 (Below.refl _ _)⟩
 case round =>
  obtain ⟨j,rfl,hj,rfl,HB⟩:=hrel
  have hc:j=0∨j=1∨j=2:=by omega
  rcases hc with rfl | rfl | rfl
  · by_cases hs:a<0
    · as_aux_lemma =>
       go_wp2_with fail
       go_roundw
       case rel=>exact ⟨1,by go_num,by omega,by rw [prodH_1];simp [negH,hs],K1 (HB.out.alloc HB.out.size _)⟩
       case measure=>simp [intOf]
    · as_aux_lemma =>
       go_wp2_with fail
       go_roundw
       case rel=>exact ⟨1,by go_num,by omega,by rw [prodH_1];simp [negH,hs],K1 (HB.out.alloc HB.out.size _)⟩
       case measure=>simp [intOf]
  · by_cases hs:b<0
    · as_aux_lemma =>
       go_wp2_with fail
       go_roundw
       case rel=>exact ⟨2,by go_num,by omega,by rw [prodH_2];simp [negH,hs],K1 (HB.out.alloc HB.out.size _)⟩
       case measure=>simp [intOf]
    · as_aux_lemma =>
       go_wp2_with fail
       go_roundw
       case rel=>exact ⟨2,by go_num,by omega,by rw [prodH_2];simp [negH,hs],K1 (HB.out.alloc HB.out.size _)⟩
       case measure=>simp [intOf]
  · go_wp2_with fail
    go_ret2
    exact ⟨⟨_,l,rfl,prod_plain a b x y h l ha hb HX.out,by rw [HX.out.2.1];exact Nat.mod_lt _ (by omega)⟩,HB.out⟩
def mulT (b:Int) (B i:Nat):Int:=if i=64 then b else ((B % 2 ^ i:Nat):Int)
theorem pow_split {i:Nat} (h:i≤64):2 ^ i*2 ^ (64-i)=18446744073709551616:=by
 rw [← Nat.pow_add,show i+(64-i)=64 by omega]
theorem bit_step (B i:Nat):B % 2 ^ (i+1)=B % 2 ^ i+(B / 2 ^ i % 2)*2 ^ i:=by
 rw [Nat.pow_succ,Nat.mod_mul,Nat.mul_comm]
theorem bit_and {B i:Nat} (hB:B<18446744073709551616):bits BinOp.and IntKind.u64 ((B:Int) / 2 ^ i) 1=((B / 2 ^ i % 2:Nat):Int):=by
 have e:(B:Int) / 2 ^ i=((B / 2 ^ i:Nat):Int):=by rw [Int.natCast_ediv];simp
 have h1:=bits_and_u64_nat (B / 2 ^ i) 1 (Nat.lt_of_le_of_lt (Nat.div_le_self _ _) hB) (by decide)
 rw [e]
 rw [show ((1:Nat):Int)=1 from rfl] at h1
 rw [h1,Nat.and_one_is_mod]
theorem xpart {a:Int} {A i:Nat} {sg:Int} (hA:(A:Int)=a % 18446744073709551616) (ha:-9223372036854775808≤a∧a≤9223372036854775807) (hs:(a<0∧sg=18446744073709551615)∨(0≤a∧sg=0)) (h0:0<i) (h:i<64) :
  ∃ H L:Nat,H<18446744073709551616∧L<18446744073709551616∧IntKind.u64.wrap ((A:Int)*2 ^ i)=(L:Int)∧bits BinOp.or IntKind.u64 (IntKind.u64.wrap (sg*2 ^ i)) ((A:Int) / 2 ^ (64-i))=(H:Int) ∧
    ((H*18446744073709551616+L:Nat):Int)=(a*2 ^ i) % 340282366920938463463374607431768211456:=by
 have e64:=pow_split (Nat.le_of_lt h)
 have hA64:A<18446744073709551616:=by omega
 have ei:(2:Int) ^ i=((2 ^ i:Nat):Int):=by simp
 have es:(2:Int) ^ (64-i)=((2 ^ (64-i):Nat):Int):=by simp
 have hp:0<2 ^ i:=Nat.two_pow_pos i
 have hq:0<2 ^ (64-i):=Nat.two_pow_pos _
 have hip:2 ^ i≤9223372036854775808:=by
  have:=Nat.pow_le_pow_right (show 1≤2 by decide) (show i≤63 by omega)
  exact this
 rw [ei,es]
 generalize hP:2 ^ i=P at *
 generalize hQ:2 ^ (64-i)=Q at *
 have hdiv:A / Q<P:=Nat.div_lt_of_lt_mul (by rw [Nat.mul_comm,e64];exact hA64)
 have hdm:=Nat.div_add_mod A Q
 have hAP:A*P=(A / Q)*18446744073709551616+(A % Q)*P:=by
  have:A*P=(Q*(A / Q)+A % Q)*P:=by rw [hdm]
  rw [this,Nat.add_mul,Nat.mul_comm Q,Nat.mul_assoc,Nat.mul_comm Q P,e64]
 have hL:(A % Q)*P<18446744073709551616:=by
  have h1:=Nat.mul_lt_mul_of_pos_right (Nat.mod_lt A hq) hp
  rw [Nat.mul_comm Q P,e64] at h1
  exact h1
 have hLw:IntKind.u64.wrap ((A:Int)*(P:Int))=(((A % Q)*P:Nat):Int):=by
  rw [u64_wrap,← Int.natCast_mul,hAP]
  omega
 have hdv:(A:Int) / (Q:Int)=((A / Q:Nat):Int):=(Int.natCast_ediv _ _).symm
 have hor:∀ D:Nat,D<P→bits BinOp.or IntKind.u64 (((18446744073709551616-P:Nat)):Int) (D:Int)=((18446744073709551616-P+D:Nat):Int):=fun D hD=>by
  rw [bits_or_u64_nat _ _ (by omega) (by omega)]
  congr 1
  have e1:18446744073709551616-P=(Q-1) <<< i:=by
   rw [Nat.shiftLeft_eq,hP,Nat.sub_mul,Nat.one_mul,Nat.mul_comm Q P,e64]
  rw [e1]
  exact (Nat.shiftLeft_add_eq_or_of_lt (by rw [hP];exact hD) _).symm
 rcases hs with ⟨hneg,rfl⟩ | ⟨hpos,rfl⟩
 · have hw:IntKind.u64.wrap (18446744073709551615*(P:Int))=((18446744073709551616-P:Nat):Int):=by rw [u64_wrap];omega
   refine ⟨18446744073709551616-P+A / Q,(A % Q)*P,by omega,hL,hLw,by rw [hw,hdv];exact hor _ hdiv,?_⟩
   have haz:a=(A:Int)-18446744073709551616:=by omega
   rw [haz,Int.sub_mul,← Int.natCast_mul,hAP]
   omega
 · have hw:IntKind.u64.wrap (0*(P:Int))=((0:Nat):Int):=by rw [u64_wrap];omega
   refine ⟨A / Q,(A % Q)*P,by omega,hL,hLw,by rw [hw,hdv,bits_or_u64_nat _ _ (by omega) (by omega),Nat.zero_or],?_⟩
   have haz:a=(A:Int):=by omega
   rw [haz,← Int.natCast_mul,hAP]
   omega
theorem mulT_zero {b:Int} {B i:Nat} (hB:(B:Int)=b % 18446744073709551616) (hb:-9223372036854775808≤b∧b≤9223372036854775807) (hi:i<64) (h:B / 2 ^ i % 2=0):mulT b B (i+1)=mulT b B i:=by
 unfold mulT
 rw [if_neg (show ¬ i=64 by omega)]
 by_cases h63:i=63
 · subst h63
   rw [if_pos rfl]
   have e:(2:Nat) ^ 63=9223372036854775808:=by decide
   rw [e] at h ⊢
   omega
 · rw [if_neg (by omega),bit_step,h]
   simp
theorem mulT_one {b:Int} {B i:Nat} (hi:i<63) (h:B / 2 ^ i % 2=1):mulT b B (i+1)=mulT b B i+2 ^ i:=by
 unfold mulT
 rw [if_neg (show ¬ i=64 by omega),if_neg (show ¬ i+1=64 by omega),bit_step,h]
 simp
theorem mulT_last {b:Int} {B:Nat} (hB:(B:Int)=b % 18446744073709551616) (hb:-9223372036854775808≤b∧b≤9223372036854775807) (h:B / 2 ^ 63 % 2=1):mulT b B 64=mulT b B 63-2 ^ 63:=by
 unfold mulT
 have e:(2:Nat) ^ 63=9223372036854775808:=by decide
 have e2:(2:Int) ^ 63=9223372036854775808:=by decide
 rw [if_pos rfl,if_neg (by decide),e2]
 rw [e] at h ⊢
 omega
theorem mul_last_step {a b:Int} {B i:Nat} (hB:(B:Int)=b % 18446744073709551616) (hb:-9223372036854775808≤b∧b≤9223372036854775807) (hi:i=63) (h:B / 2 ^ i % 2=1):a*mulT b B (i+1)=a*mulT b B i+-(a*2 ^ i):=by
 subst hi
 rw [mulT_last hB hb h,Int.mul_sub]
 rfl
end Go.Proofs.YtdpojpcoghcieaaGreat
