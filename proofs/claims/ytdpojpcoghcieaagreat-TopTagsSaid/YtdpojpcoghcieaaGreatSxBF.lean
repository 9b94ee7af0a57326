/- A part of the proof of TopTags: RefEven, RefSamp, RefSampNew. Conditions: none. -/
import Derived.Test.YtdpojpcoghcieaaGreatSxAZ
import Derived.Test.YtdpojpcoghcieaaGreatSxBA
set_option maxHeartbeats 8000000
set_option linter.all false
namespace Go.Proofs.YtdpojpcoghcieaaGreat
open Lib renaming hid → K1
open Go.RowKit
set_option maxRecDepth 100000
open Value renaming int → U, slice → Us
open IntKind renaming i64 → O
open And renaming intro → Aea
open Mem renaming start → Aeb
open IntWalk renaming i64_in → Aec
open List renaming replicate → Aed, range → Aee, getElem?_eq_none → Aeg, ext_getElem? → Aeu, map_append → Aev
open Nat renaming succ_mul → Aef, add_assoc → Aeh, mul_add_div → Aei, div_le_self → Aej, zero_le → Aek, lt_or_ge → Ael, mod_lt → Aem, div_eq_of_lt → Aen, mul_add_mod → Aeo, le_refl → Aep, le_trans → Aeq, zero_add → Aer, div_pos → Aes, mul_le_mul_right → Aew
open Int renaming ofNat_tdiv → Aet
open World renaming size_alloc → Aex
section
def evSz (k j:Nat):List Nat:=(Aee k).map fun i=>j / k+if i<j % k then 1 else 0
theorem Im (k j:Nat):(evSz k j).length=k:=by simp [evSz]
theorem Io {k j i:Nat} (h:i<k):(evSz k j)[i]?=some (j / k+if i<j % k then 1 else 0):=by simp [evSz,h]
theorem SH (k:Nat):evSz k 0=Aed k 0:=by
 apply Aeu;intro i
 rcases Ael i k with h | h
 . rw [Io h];simp [h]
 . rw [Aeg (by rw [Im];exact h),Aeg (by simpa using h)]
theorem SI {k:Nat} (hk:1<=k) (j:Nat):evSz k (j+1)=(evSz k j).set (j % k) (j / k+1):=by
 have hm:=Aem j hk;have hd:=Nat.div_add_mod j k
 have hcases:(j % k+1<k/\(j+1) / k=j / k/\(j+1) % k=j % k+1)\/(j % k+1=k/\(j+1) / k=j / k+1/\(j+1) % k=0):=by
  rcases Ael (j % k+1) k with h | h
  . refine .inl ⟨h,?_,?_⟩
    . rw [<- hd,Aeh,Aei (by omega),Aen h,Aei (by omega),Aen hm]
    . rw [<- hd,Aeh,Aeo,Nat.mod_eq_of_lt h,Aeo,Nat.mod_mod]
  . have e:j % k+1=k:=by omega
    refine .inr ⟨e,?_,?_⟩
    . rw [<- hd,Aeh,e,Aei (by omega),Nat.div_self (by omega),Aei (by omega),Aen hm]
    . rw [<- hd,Aeh,e,Aeo,Nat.mod_self]
 apply Aeu;intro i
 rcases Ael i k with h | h
 . rw [Io h]
   by_cases hi:j % k=i
   . subst hi;rw [List.getElem?_set_self (by rw [Im];exact h)]
     rcases hcases with ⟨h1,h2,h3⟩ | ⟨h1,h2,h3⟩
     . rw [h2,h3,if_pos (by omega)]
     . rw [h2,h3,if_neg (by omega)]
   . rw [List.getElem?_set_ne hi,Io h]
     rcases hcases with ⟨h1,h2,h3⟩ | ⟨h1,h2,h3⟩
     . rw [h2,h3]
       congr 2
       by_cases h4:i<j % k
       . rw [if_pos h4,if_pos (by omega)]
       . rw [if_neg h4,if_neg (by omega)]
     . rw [h2,h3,if_neg (by omega),if_pos (by omega)]
 . rw [Aeg (by rw [Im];exact h),Aeg (by rw [List.length_set,Im];exact h)]
theorem SJ (n k i:Nat):bnd n k (i+1)=bnd n k i+(n / k+if i<n % k then 1 else 0):=by
 unfold bnd;rw [Aef];generalize i*(n / k)=a;generalize n / k=b;generalize n % k=c
 split <;> omega
theorem SK (n:Nat):madeCells #[U O 0] n=(Ah (Aed n 0)).toArray:=by
 have h:=toList_madeCells_one (U O 0) n;apply Array.ext';rw [h];simp [Ah]
theorem SM (n:Nat) (hn:n<=1048576) (W:World):(Instr.makeSlice 22 (U O (n:Int)) (U O (n:Int))).run Tryz.prog W=.ok (Us (some ⟨W.heap.size,0,none⟩) n n) (W.alloc (.cells (Ah (Aed n 0)).toArray 3)):=by
 obtain ⟨i0,hi,hz0,hz1,hz2⟩:=info_parts Kb;have hr:=run_make (P:=Tryz.prog) W 22 3 i0 (U O 0) Tryz.underlying22 hi hz0 .i64 .i64 n n (by omega) (by omega) (by rw [hz2];omega) (by omega);rw [<- SK]
 simpa [hz1,Value.cells] using hr
theorem SO (w:World) (n:Nat) (hn:n<=1048576):(w.alloc (.cells (Ah (Aed n 0)).toArray 3)).ownsRow w.heap.size 3 1 (Us (some ⟨w.heap.size,0,none⟩) n n) n (Ah (Aed n 0)) :=
 ⟨by simp [Ah],.inr ⟨w.heap.size,n,(Ah (Aed n 0)).toArray,rfl,Aep _,heap_alloc_new w _,Aep _,by simp [maxLen];omega,by simp [Ah],by simp [Ah]⟩⟩
theorem MC (n k:Nat) (w:World) (hn:n<=100000) (hk:1<=k/\k<=1000) :
  Calls Tryz.prog 162 #[U O n,U O k] w fun e w'=>∃ A c,e=.returned (Us A k c)/\k<=c/\Mem w' [.bel w.heap.size w,rrO w.heap.size k c A (BN n k)]:=by
 have hmk:=SM k (by omega) w
 have HM0:=K1 (show Mem _ [.bel w.heap.size w,.own w.heap.size 3 1 (Us (some ⟨w.heap.size,0,none⟩) k k) k (Ah (evSz k 0))] by
  rw [SH]
  exact (Aeb w).push_own ((Below.refl _ _).alloc (Aep _) _) (SO w k (by omega)) rfl)
 have hn0:¬ (n:Int)<0:=by omega
 have hk1:¬ k<1:=by omega
 have hkz:¬ k=0:=by omega
 have HS:=K1 (fun j=>SI hk.1 j);have HA:=K1 (fun (j i:Nat) (h:i<k)=>Io (j:=j) h);have HN:=K1 (fun i=>SJ n k i);have HBl:=K1 (fun i (hi:i<=k)=>FB (n:=n) hk.1 hi);have HD:=K1 (fun (j:Nat) (hj:j<=n)=>Aeq (Aej j k) hj);go_enter Tryz.func162,Tryz.ntmps162;go_wp2_with fail
 go_loopw [6] (fun s6 wr=>∃ j:Nat,j<=n/\s6=U O j/\Hid (Mem wr [.bel w.heap.size w,.own w.heap.size 3 1 (Us (some ⟨w.heap.size,0,none⟩) k k) k (Ah (evSz k j))])) (fun s6 _=>n-(intOf s6).toNat)
 case atStart=>exact ⟨0,Aek _,rfl,HM0⟩
 case round =>
  clear HM0 hmk;obtain ⟨j,hj,rfl,HM⟩:=hrel
  by_cases hlt:j<n
  . obtain ⟨r,hr⟩:∃ r,r=j % k:=⟨_,rfl⟩
    have hrk:r<k:=by rw [hr];exact Aem _ hk.1
    obtain ⟨v,hv⟩:∃ v,v=j / k:=⟨_,rfl⟩
    have hvb:v<=100000:=by rw [hv];have:=HD.out j hj;omega
    have e3:(j:Int).tmod (k:Int)=(r:Int):=by rw [hr];exact (Int.ofNat_tmod _ _).symm
    have wr_:IntKind.i64.wrap (r:Int)=(r:Int):=Aec _ (by omega)
    have e1:wr.cell? ⟨w.heap.size,r,none⟩=some (U O v):=((HM.out.own 1 rfl).cellAt r (by omega)).trans (by
     have:=HA.out j r hrk;rw [<- hr,<- hv,if_neg (Nat.lt_irrefl _)] at this
     simp [Ah,this])
    have kf:=HM.out.ownF 1 rfl
    obtain ⟨v1,hv1⟩:∃ v1,v1=v+1:=⟨_,rfl⟩
    have iv:(v:Int)+1=(v1:Int):=by omega
    have wv:IntKind.i64.wrap (v1:Int)=(v1:Int):=Aec _ (by omega);have hm2:=HM.out.setOwn (i:=1) (j:=r) rfl (U O v1)
    have hs:(Ah (evSz k j)).set r (U O v1)=Ah (evSz k (j+1)):=by
     rw [HS.out j,<- hr,<- hv,<- hv1];simp [Ah]
    rw [hs] at hm2;have HM2:=K1 hm2;clear hr hv hv1 hm2 hs HM;go_wp2_with fail;go_roundw
    case rel=>exact ⟨j+1,by omega,by go_num,HM2⟩
    case measure=>simp [intOf];omega
  . have hjn:j=n:=by omega
    subst hjn;have HM1:=K1 ((HM.out.freeze (i:=1) rfl).add (c:=rrO w.heap.size 0 0 none ((Aee 0).map fun i=>(bnd j k i,bnd j k (i+1)))) ⟨Bh _ _ _ _,(HM.out.bel 0 rfl).size⟩ (fun _ _ _ _ g hg=>by cases hg));clear HM;go_wp2_with fail
    go_loopw [7,8,9] (fun s7 s8 s9 wr=>∃ (i:Nat) (A:Option Addr) (c:Nat),i<=k/\s7=Us A i c/\s8=U O (bnd j k i:Nat)/\s9=U O i/\Hid (Mem wr [.bel w.heap.size w,.rd (some ⟨w.heap.size,0,none⟩) (Ah (evSz k j)),rrO w.heap.size i c A ((Aee i).map fun i=>(bnd j k i,bnd j k (i+1)))])) (fun _ _ s9 _=>k-(intOf s9).toNat)
    case atStart=>exact ⟨0,none,0,Aek _,rfl,by simp [bnd],rfl,HM1⟩
    case round =>
     clear HM1;obtain ⟨i,A,c,hi,rfl,rfl,rfl,HM⟩:=hrel
     by_cases hlt2:i<k
     . obtain ⟨x,hx⟩:∃ x,x=bnd j k i:=⟨_,rfl⟩
       obtain ⟨y,hy⟩:∃ y,y=bnd j k (i+1):=⟨_,rfl⟩
       obtain ⟨v,hv⟩:∃ v,v=j / k+if i<j % k then 1 else 0:=⟨_,rfl⟩
       have hxy:=HN.out i;rw [<- hx,<- hy,<- hv] at hxy;have hyb:y<=j:=by rw [hy];exact HBl.out (i+1) hlt2
       have e1:wr.cell? ⟨w.heap.size,i,none⟩=some (U O v):=by
        have:=HM.out.rdAt 1 rfl (show (Ah (evSz k j))[i]?=some (U O v) by simp [Ah,HA.out j i hlt2,hv])
        rwa [Aer] at this
       have iy:(x:Int)+(v:Int)=(y:Int):=by omega
       have wy:IntKind.i64.wrap (y:Int)=(y:Int):=Aec _ (by omega);have HEV:=K1 (show (Ah (evSz k j))[i]?=some (U O v) by simp [Ah,HA.out j i hlt2,hv]);have HT:=K1 (show (Aee (i+1)).map (fun i=>(bnd j k i,bnd j k (i+1)))=(Aee i).map (fun i=>(bnd j k i,bnd j k (i+1)))++[(x,y)] by rw [List.range_succ,Aev,hx,hy];rfl);have HY:=K1 hy;have HM3:=K1 (HM.out.alloc (.cells #[U O x,U O y] 72));rw [<- hx];clear hx hy hv hxy HM
       go_wp2_with (at_builtin;refine AQ (n:=i) rfl _ _ 192 rfl HM3.out 2 Gv rfl rfl _ 1 _ [U O x,U O y] rfl (HM3.out.box 3 rfl) rfl (by intro u hu;simp at hu;rcases hu with rfl | rfl <;> rfl) (by omega) ?_;intro A' c' W4 hM4;have e2:=hM4.rdAt 1 rfl HEV.out;rw [Aer] at e2)
       have HM5:=K1 (hM4.front 3);clear hM4 HM3 e1 e2;go_wp2_with fail;go_roundw
       case rel =>
        refine ⟨i+1,A',c',by omega,rfl,by rw [<- HY.out],by go_num,?_⟩;rw [HT.out];unfold rrO;rw [EX];exact HM5
       case measure=>simp [intOf];omega
     . have hik:i=k:=by omega
       subst hik;have HF:=K1 HM.out;clear HM;go_wp2_with fail;go_ret;exact ⟨A,c,rfl,Be (HF.out.own 2 rfl),HF.out.pick [0,2] _ rfl (by decide)⟩
theorem MD (w:World) (A:Option Addr) (n cap i k:Nat) (l:List Nat) (hr:Rd w w.heap.size A (Ah l)) (hl:l.length=n) (hc:n<=cap) (hn:n<=1000) (hk:k<=1000) (hi:i<k) :
  Calls Tryz.prog 149 #[Us A n cap,U O i,U O k] w fun e w'=>∃ A' m c',e=.returned (Us A' m c')/\m<=c'/\(B5 l i k).length=m/\Rd w' w'.heap.size A' (Ah (B5 l i k))/\Below w.heap.size w w':=by
 have CE:=K1 (MC n k w (by omega) ⟨by omega,hk⟩);have hlen:=IY (l:=l) hi;have hp:Ah (B5 l i k)=subL (Ah l) (bnd n k i) (bnd n k (i+1)):=by rw [B5,Hf,hl]
 rw [hl] at hlen;have h1:=FA n k i;have h2:=Hi (n:=n) hi;have h3:(BN n k)[i]?=some (bnd n k i,bnd n k (i+1)):=by simp [BN,hi]
 have h4:=Ee n k;rw [hlen,hp];have h5:(Ah l).length=n:=by rw [DV,hl]
 generalize bnd n k i=x at *;generalize bnd n k (i+1)=y at *;generalize BN n k=ev at *;generalize Ah l=vs at *;have HM:=K1 ((Aeb w).add_rd (i:=0) rfl hr);have HX:=K1 (Aea h3 (Aea h4 h5));clear hlen hp h3 h4 h5 hr hl;go_enter Tryz.func149,Tryz.ntmps149;go_wp2_with fail
 (with_reducible refine CE.out.mono ?_)
 rintro e w1 ⟨A1,c1,rfl,hcc,hm⟩;have hrd:=AJ (hm.own 1 rfl);have hA1:=AF (hm.own 1 rfl);replace HM:=K1 (HM.out.push_rd (hm.bel 0 rfl) hrd hA1);clear hm hrd hA1 CE;obtain ⟨b1,o1,rfl,_,_⟩:=HM.out.rd 2 rfl (by have:=(List.getElem?_eq_some_iff.1 HX.out.1).1;rw [En];omega);obtain ⟨k2,k3⟩:=HM.out.range2 2 rfl HX.out.1;have gd1:¬ k<=i:=by omega
 by_cases hxy:x=y
 . subst hxy
   by_cases hcx:cap=x
   all_goals
    go_wp2_with fail
    go_quiet (fail)
    go_wp2_with fail;go_ret;exact ⟨_,_,_,rfl,by omega,by omega,fun h0=>by simp [subL] at h0,(HM.out.drewN nq).bel 0 rfl⟩
 have hlt:x<y:=by omega
 have hyx:¬ y=x:=by omega
 have hcx:¬ cap=x:=by omega
 go_wp2_with fail
 go_quiet (fail)
 go_wp2_with fail
 have hs:=(HM.out.drewN nq).rd 1 rfl |>.sub x y (by rw [HX.out.2.2];omega)
 rw [if_neg hyx] at hs;go_ret;exact ⟨_,_,_,rfl,by omega,by omega,hs,(HM.out.drewN nq).bel 0 rfl⟩
def rsC (n batch steps:Nat) (Ao:Option Addr) (co:Nat):List Value:=[U O n,U O batch,U O steps,Us Ao (pcnt steps (n / batch)) co]
def RSamp (W:World) (n batch steps:Nat) (Ao:Option Addr) (ds:List Nat):Prop:=∃ os:Ords,Rd W W.heap.size Ao (BC n os)/\(∀ o∈os,n<=o.2.1/\Rd W W.heap.size o.1 (Ah o.2.2))/\os.map (fun o=>o.2.2)=C6 ds n (pcnt steps (n / batch))
theorem RSamp.below {W W':World} {n batch steps:Nat} {Ao:Option Addr} {ds:List Nat} (h:RSamp W n batch steps Ao ds) (hb:Below W.heap.size W W'):RSamp W' n batch steps Ao ds:=by
 obtain ⟨os,h1,h2,h3⟩:=h;exact ⟨os,(h1.below hb).more hb.size,fun o ho=>⟨(h2 o ho).1,((h2 o ho).2.below hb).more hb.size⟩,h3⟩
def RSampIn (W:World) (lo hi n batch steps:Nat) (Ao:Option Addr) (ds:List Nat):Prop:=∃ os:Ords,RdIn W lo hi Ao (BC n os)/\(∀ o∈os,n<=o.2.1/\RdIn W lo hi o.1 (Ah o.2.2))/\os.map (fun o=>o.2.2)=C6 ds n (pcnt steps (n / batch))
def rsCh (lo hi n batch steps:Nat) (Ao:Option Addr) (ds:List Nat):Ch:=.st (fun g=>lo<=g/\g<hi) (fun W=>RSampIn W lo hi n batch steps Ao ds)
theorem ME {W:World} {lo hi n batch steps:Nat} {Ao:Option Addr} {ds:List Nat} (h:RSampIn W lo hi n batch steps Ao ds) (hh:hi<=W.heap.size):(rsCh lo hi n batch steps Ao ds).Holds W :=
 ⟨h,fun g hg=>by omega,fun _ _ _ hk h=>by
  obtain ⟨os,h1,h2,h3⟩:=h
  exact ⟨os,h1.keep fun g h1 h2=>hk g ⟨h1,h2⟩,fun o ho=>⟨(h2 o ho).1,(h2 o ho).2.keep fun g h1 h2=>hk g ⟨h1,h2⟩⟩,h3⟩⟩
theorem RSampIn.more {W:World} {lo hi lo' hi' n batch steps:Nat} {Ao:Option Addr} {ds:List Nat} (h:RSampIn W lo hi n batch steps Ao ds) (h1:lo'<=lo) (h2:hi<=hi'):RSampIn W lo' hi' n batch steps Ao ds:=by
 obtain ⟨os,k1,k2,k3⟩:=h;exact ⟨os,k1.more h1 h2,fun o ho=>⟨(k2 o ho).1,(k2 o ho).2.more h1 h2⟩,k3⟩
theorem Mem.rsamp {W:World} {L:List Ch} {lo hi n batch steps i:Nat} {Ao:Option Addr} {ds:List Nat} (h:Mem W L) (hx:L[i]?=some (rsCh lo hi n batch steps Ao ds)):RSamp W n batch steps Ao ds:=by
 obtain ⟨⟨os,h1,h2,h3⟩,hlt,_⟩:=h.holds i _ hx
 have key:∀ {A:Option Addr} {vs:List Value},RdIn W lo hi A vs->Rd W W.heap.size A vs:=fun {A vs} hr h0=>by
  obtain ⟨b,off,e,hb,hc⟩:=hr.1 h0;exact ⟨b,off,e,hlt b ⟨hr.2 _ e,hb⟩,hc⟩
 exact ⟨os,key h1,fun o ho=>⟨(h2 o ho).1,key (h2 o ho).2⟩,h3⟩
theorem RSamp.step {w:World} {n batch steps:Nat} {Ao:Option Addr} {ds:List Nat} (h:RSamp w n batch steps Ao ds) (hb:1<=batch/\batch<=n) {t:Nat} (ht:t<steps) :
  ∃ (os:Ords) (A1:Option Addr) (c1:Nat),t % (n / batch)*batch+batch<=n/\Rd w w.heap.size Ao (BC n os)/\(BC n os)[t / (n / batch)]?=some (Us A1 n c1)/\n<=c1/\t / (n / batch)<pcnt steps (n / batch)/\Rd w w.heap.size A1 (Ah (Cd ds (t / (n / batch)*(n-1)) n)):=by
 obtain ⟨os,h3,h4,h5⟩:=h;have hnb:1<=n / batch:=Aes hb.2 hb.1;have hr:t % (n / batch)<n / batch:=Aem _ hnb
 have hq:t / (n / batch)<pcnt steps (n / batch):=by
  unfold pcnt;rw [if_neg (by omega)];have:=Nat.div_le_div_right (c:=n / batch) (show t<=steps-1 by omega);omega
 have hle:t % (n / batch)*batch+batch<=n:=by
  have h8:=Aew batch hr;have h9:=Nat.div_mul_le_self n batch;rw [Aef] at h8;omega
 have hlen:os.length=pcnt steps (n / batch):=by
  have:=congrArg List.length h5
  simpa [C6] using this
 obtain ⟨o,ho⟩:∃ o,os[t / (n / batch)]?=some o:=⟨_,List.getElem?_eq_getElem (by omega)⟩
 have ho2:o.2.2=Cd ds (t / (n / batch)*(n-1)) n:=by
  have e:=congrArg (·[t / (n / batch)]?) h5;simp only [List.getElem?_map,ho,C6,List.getElem?_range hq,Option.map_some,Option.some.injEq] at e;exact e
 have hm:=List.mem_of_getElem? ho;refine ⟨os,o.1,o.2.1,hle,h3,?_,(h4 o hm).1,hq,?_⟩
 . simp [BC,ho]
 . rw [<- ho2];exact (h4 o hm).2
theorem SP (w:World) (n batch steps co t:Nat) (Ao:Option Addr) (hb:1<=batch/\batch<=n) (hn:n<=1000) (ht:t<steps) (hs:steps<=1000) :
  Calls Tryz.prog 74 #[.agg (rsC n batch steps Ao co).toArray,U O t] w fun e w'=>e=.returned (.tuple #[U O (t / (n / batch):Nat),U O (t % (n / batch):Nat),.bool true])/\Below w.heap.size w w':=by
 have HM:=K1 ((Aeb w).alloc (.cells (rsC n batch steps Ao co).toArray 103));dsimp only [rsC] at *;have hnb:1<=n / batch:=Aes hb.2 hb.1;have hnl:n / batch<=n:=Aej _ _
 obtain ⟨e,he⟩:∃ e,e=pcnt steps (n / batch):=⟨_,rfl⟩
 rw [<- he] at HM ⊢
 obtain ⟨nb,hnb2⟩:∃ nb,nb=n / batch:=⟨_,rfl⟩
 have e0:(n:Int).tdiv (batch:Int)=(nb:Int):=by rw [hnb2];exact (Aet _ _).symm
 rw [<- hnb2] at hnb hnl ⊢
 obtain ⟨q,hq⟩:∃ q,q=t / nb:=⟨_,rfl⟩
 obtain ⟨r,hr⟩:∃ r,r=t % nb:=⟨_,rfl⟩
 have hq1:q<=t:=hq ▸ Aej _ _;have hr1:r<=t:=hr ▸ Nat.mod_le _ _;have e1:(t:Int).tdiv (nb:Int)=(q:Int):=by rw [hq];exact (Aet _ _).symm
 have e2:(t:Int).tmod (nb:Int)=(r:Int):=by rw [hr];exact (Int.ofNat_tmod _ _).symm
 have w0:IntKind.i64.wrap (nb:Int)=(nb:Int):=Aec _ (by omega);have w1:IntKind.i64.wrap (q:Int)=(q:Int):=Aec _ (by omega);have w2:IntKind.i64.wrap (r:Int)=(r:Int):=Aec _ (by omega);have hz:¬ nb=0:=by omega
 have hz2:¬ batch=0:=by omega
 have gd:¬ steps<=t:=by omega
 rw [<- hq,<- hr];clear hq hr hnb2 he;go_enter Tryz.func74,Tryz.ntmps74;have c1:=HM.out.cells 1 rfl;go_wp2_with fail
 go_quiet (fail)
 go_wp2_with fail
 go_ret3
 exact ⟨rfl,(HM.out.drewN _).bel 0 rfl⟩
theorem SQ (w:World) (n batch steps co t:Nat) (Ao:Option Addr) (ds:List Nat) (h:RSamp w n batch steps Ao ds) (hb:1<=batch/\batch<=n) (hn:n<=1000) (ht:t<steps) (hs:steps<=1000) :
  Calls Tryz.prog 34 #[.agg (rsC n batch steps Ao co).toArray,U O t] w fun e w'=>∃ A c,e=.returned (Us A batch c)/\batch<=c/\Rd w' w'.heap.size A (Ah (BD ds n batch t))/\Below w.heap.size w w':=by
 have CE:=K1 (fun W=>SP W n batch steps co t Ao hb hn ht hs);obtain ⟨os,A1,c1,h4,h5,h6,h7,h8,h9⟩:=h.step hb ht;have hm:=(((Aeb w).add_rd (i:=0) rfl h5).add_rd (i:=0) rfl h9).alloc (.cells (rsC n batch steps Ao co).toArray 103);clear h;unfold BD;dsimp only [rsC] at *;generalize n / batch=nb at *;obtain ⟨b2,o2,rfl,_,_⟩:=h5 (Nat.lt_of_le_of_lt (Aek _) (List.getElem?_eq_some_iff.1 h6).1);generalize t / nb=q at *;generalize t % nb=r at *
 obtain ⟨x,hx⟩:∃ x,x=r*batch:=⟨_,rfl⟩
 obtain ⟨y,hy⟩:∃ y,y=x+batch:=⟨_,rfl⟩
 have e1:(r:Int)*(batch:Int)=(x:Int):=by rw [hx,Int.natCast_mul]
 have e2:(x:Int)+(batch:Int)=(y:Int):=by omega
 rw [<- hx,<- hy] at h4;rw [<- hx,<- hy,Hf];have hl:(Ah (Cd ds (q*(n-1)) n)).length=n:=by rw [DV,Hh]
 generalize Ah (Cd ds (q*(n-1)) n)=vs at *;have HM:=K1 hm;have HX:=K1 (Aea h6 hl);generalize pcnt steps nb=ne at *;have hxy:x<=y:=by omega
 have hyc:y<=c1:=Aeq h4 h7;have hbx:batch=y-x:=by omega
 have HBX:=K1 hbx;have hxyl:x<y:=by omega
 have hcx:¬ c1=x:=by omega
 clear h5 h6 h9 hl hx hy hm hbx;go_enter Tryz.func34,Tryz.ntmps34;have k1:=HM.out.cells 3 rfl;go_wp2_with fail
 (with_reducible refine (CE.out _).mono ?_)
 rintro e w1 ⟨rfl,hb1⟩;replace HM:=K1 (HM.out.below hb1);clear hb1 CE k1;have k1:=HM.out.cells 3 rfl;have k6:=HM.out.rdAt 1 rfl HX.out.1;go_wp2_with fail
 go_quiet (fail)
 go_wp2_with fail;have hs:=((HM.out.drewN nq).rd 2 rfl).sub x y (by rw [HX.out.2];omega);rw [if_neg (by omega)] at hs;go_ret;have hbe:batch=y-x:=HBX.out;subst hbe;exact ⟨_,c1-x,rfl,by omega,hs,(HM.out.drewN nq).bel 0 rfl⟩
theorem SR (w:World) (n batch steps co t u k:Nat) (Ao:Option Addr) (ds:List Nat) (h:RSamp w n batch steps Ao ds) (hb:1<=batch/\batch<=n) (hn:n<=1000) (ht:t<steps) (hs:steps<=1000) (hk:u<k/\k<=1000) :
  Calls Tryz.prog 150 #[.agg (rsC n batch steps Ao co).toArray,U O t,U O u,U O k] w fun e w'=>∃ A m c,e=.returned (Us A m c)/\m<=c/\(B5 (BD ds n batch t) u k).length=m/\Rd w' w'.heap.size A (Ah (B5 (BD ds n batch t) u k))/\Below w.heap.size w w':=by
 have CB:=K1 (fun W (hw:Below w.heap.size w W)=>SQ W n batch steps co t Ao ds (h.below hw) hb hn ht hs);obtain ⟨_,_,_,h4,_⟩:=h.step hb ht;have hvl:(BD ds n batch t).length=batch:=IZ h4;have CP:=K1 (fun W A c (hr:Rd W W.heap.size A (Ah (BD ds n batch t))) hc=>MD W A batch c u k (BD ds n batch t) hr hvl hc (by omega) hk.2 hk.1);have HM:=K1 ((Aeb w).alloc (.cells (rsC n batch steps Ao co).toArray 103));clear h h4 hvl;generalize BD ds n batch t=vl at *;generalize B5 vl u k=pl at *;dsimp only [rsC] at *;generalize pcnt steps (n / batch)=ne at *;go_enter Tryz.func150,Tryz.ntmps150
 have k1:=HM.out.cells 1 rfl;go_wp2_with fail
 (with_reducible refine (CB.out _ (HM.out.bel 0 rfl)).mono ?_)
 rintro e w1 ⟨A1,c1,rfl,hc1,hr1,hb1⟩;replace HM:=K1 (HM.out.below hb1);clear hb1 CB k1;go_wp2_with fail
 (with_reducible refine (CP.out _ A1 c1 hr1 hc1).mono ?_)
 rintro e w2 ⟨A2,m,c2,rfl,hc2,hl2,hr2,hb2⟩;replace HM:=K1 (HM.out.below hb2);have H2:=K1 (Aea hc2 (Aea hl2 hr2));clear hb2 CP hc2 hl2 hr2 hr1;go_wp2_with fail;go_ret;exact ⟨A2,m,c2,rfl,H2.out.1,H2.out.2.1,H2.out.2.2,HM.out.bel 0 rfl⟩
theorem Xst (w:World) (n batch steps co t u k a mi:Nat) (Ao:Option Addr) (ds:List Nat) (h:RSamp w n batch steps Ao ds) (hb:1<=batch/\batch<=n) (hn:n<=1000) (ht:t<steps) (hs:steps<=1000) (hk:u<k/\k<=1000) (hmi:a<mi/\mi<=1000) :
  Calls Tryz.prog 124 #[.agg (rsC n batch steps Ao co).toArray,U O t,U O u,U O k,U O a,U O mi] w fun e w'=>∃ A m c,e=.returned (Us A m c)/\m<=c/\(Ci ds n batch t u k a mi).length=m/\Rd w' w'.heap.size A (Ah (Ci ds n batch t u k a mi))/\Below w.heap.size w w':=by
 have CB:=K1 (fun W (hw:Below w.heap.size w W)=>SR W n batch steps co t u k Ao ds (h.below hw) hb hn ht hs hk);obtain ⟨_,_,_,h4,_⟩:=h.step hb ht;have hvl:(BD ds n batch t).length=batch:=IZ h4;have hpl:=FU (l:=BD ds n batch t) hk.1;rw [hvl] at hpl;unfold Ci;generalize BD ds n batch t=vl at *;have CP:=K1 (fun W A m c (hr:Rd W W.heap.size A (Ah (B5 vl u k))) hl hc=>MD W A m c a mi (B5 vl u k) hr hl hc (by omega) hmi.2 hmi.1);have HM:=K1 ((Aeb w).alloc (.cells (rsC n batch steps Ao co).toArray 103));clear h h4 hvl;generalize B5 vl u k=pl at *;generalize B5 pl a mi=ql at *;dsimp only [rsC] at *
 generalize pcnt steps (n / batch)=ne at *;go_enter Tryz.func124,Tryz.ntmps124;have k1:=HM.out.cells 1 rfl;go_wp2_with fail
 (with_reducible refine (CB.out _ (HM.out.bel 0 rfl)).mono ?_)
 rintro e w1 ⟨A1,m1,c1,rfl,hc1,hl1,hr1,hb1⟩;replace HM:=K1 (HM.out.below hb1);clear hb1 CB k1;go_wp2_with fail
 (with_reducible refine (CP.out _ A1 m1 c1 hr1 hl1 hc1).mono ?_)
 rintro e w2 ⟨A2,m,c2,rfl,hc2,hl2,hr2,hb2⟩;replace HM:=K1 (HM.out.below hb2);have H2:=K1 (Aea hc2 (Aea hl2 hr2));clear hb2 CP hc2 hl2 hr2 hr1 hl1 hc1;go_wp2_with fail;go_ret;exact ⟨A2,m,c2,rfl,H2.out.1,H2.out.2.1,H2.out.2.2,HM.out.bel 0 rfl⟩
theorem SU {s d e:Nat} (h1:s<=e*d) (h2:e=0\/(e-1)*d<s):pcnt s d=e:=by
 unfold pcnt
 split
 . rename_i h0
   subst h0
   rcases h2 with h2 | h2
   . exact h2.symm
   . omega
 . rename_i h0
   rcases h2 with h2 | h2
   . subst h2;omega
   . have h3:(s-1) / d=e-1:=by
      have hlo:(e-1)*d<=s-1:=by omega
      have he:e≠0:=by rintro rfl;omega
      have hhi:s-1<(e-1+1)*d:=by rw [show e-1+1=e by omega];omega
      exact Nat.div_eq_of_lt_le hlo hhi
     have he:e≠0:=by rintro rfl;omega
     omega
theorem SV (w:World) (n batch steps:Nat) (hb:1<=batch/\batch<=n) (hn:n<=1000) (hs:steps<=1000) :
  Calls Tryz.prog 115 #[U O n,U O batch,U O steps] w fun e w'=>e=.returned (U O (pcnt steps (n / batch):Nat))/\w=w':=by
 have hnb:1<=n / batch:=Aes hb.2 hb.1;have hnl:n / batch<=n:=Aej _ _
 obtain ⟨nb,hnb2⟩:∃ nb,nb=n / batch:=⟨_,rfl⟩
 have e0:(n:Int).tdiv (batch:Int)=(nb:Int):=by rw [hnb2];exact (Aet _ _).symm
 rw [<- hnb2] at hnb hnl ⊢;have w0:IntKind.i64.wrap (nb:Int)=(nb:Int):=Aec _ (by omega);have hz2:¬ batch=0:=by omega
 obtain ⟨R,hR⟩:∃ R,R=pcnt steps nb:=⟨_,rfl⟩
 rw [<- hR];have HR:=K1 hR;clear hR hnb2;go_enter Tryz.func115,Tryz.ntmps115
 go_wp2
 go_loopw [7,8] (fun s7 s8 wr=>∃ (e t:Nat),e<=1000/\t<=2000/\s7=U O e/\s8=U O t/\wr=w/\Hid (t=e*nb/\(e=0\/(e-1)*nb<steps))) (fun _ s8 _=>steps-(intOf s8).toNat)
 case atStart=>exact ⟨0,0,by omega,by omega,rfl,rfl,rfl,K1 ⟨by simp,.inl rfl⟩⟩
 case round =>
  obtain ⟨e,t,he,ht,rfl,rfl,rfl,HV⟩:=hrel
  by_cases hlt:t<steps
  . have hel:e+1<=1000:=by
     have h1:=HV.out.1;have h2:e*1<=e*nb:=Nat.mul_le_mul_left _ hnb;omega
    go_wp2_with fail;go_roundw
    case rel=>exact ⟨e+1,t+nb,hel,by omega,by go_num,by go_num,trivial,K1 ⟨by rw [HV.out.1,Aef],.inr (by rw [Nat.add_sub_cancel,<- HV.out.1];exact hlt)⟩⟩
    case measure=>simp [intOf];omega
  . have hp:=SU (s:=steps) (by rw [<- HV.out.1];omega) HV.out.2;rw [<- HR.out] at hp;have HP:=K1 hp;clear hp;go_wp2_with fail;go_ret;exact ⟨by rw [HP.out];rfl,rfl⟩
theorem SW (w:World) (n batch steps cd:Nat) (Ad:Option Addr) (ds:List Nat) (hr:Rd w w.heap.size Ad (Bq ds)) (hn:1<=n/\n<=1000) (hb:1<=batch/\batch<=n) (hs:steps<=1000) (hd:pcnt steps (n / batch)*(n-1)<=ds.length) (hl:ds.length<=1000000000) :
  Calls Tryz.prog 70 #[U O n,U O batch,U O steps,Us Ad ds.length cd] w fun e w'=>∃ Ao co,e=.returned (.tuple #[.agg (rsC n batch steps Ao co).toArray,U O 0])/\pcnt steps (n / batch)<=co/\RSampIn w' w.heap.size w'.heap.size n batch steps Ao ds/\Below w.heap.size w w':=by
 have CE:=K1 (fun W=>SV W n batch steps hb hn.2 hs);have CN:=K1 (fun W=>Jf (n:Int) W (by omega) (by omega));have CS:=K1 (fun W a (hr:Rd W W.heap.size Ad (Bq ds)) (h:a+(n-1)<=ds.length)=>Sf W Ad cd a n ds hr hn h hl);have hEb:pcnt steps (n / batch)<=1000:=Aeq (Cm _ _) hs;unfold RSampIn rsC
 obtain ⟨E,hE⟩:∃ E,E=pcnt steps (n / batch):=⟨_,rfl⟩
 rw [<- hE] at CE hd hEb ⊢;clear hE;have hm:=(((Aeb w).add_rd (i:=0) rfl hr).alloc (.cells #[U O 0,U O 0,U O 0,Us none 0 0] 103)).alloc (.cells #[U O n,U O batch,U O steps,Us none 0 0] 103);have hm1:=hm.alloc (.cells #[Us Ad ds.length cd,U O 0] 221);simp only [Aex] at hm1;have hm2:=(hm1.add (c:=.own w.heap.size 22 1 (Us none 0 0) 0 (BC n [])) ⟨Bh _ _ _ _,(hm1.bel 0 rfl).size⟩ (fun _ _ _ _ g hg=>by cases hg)).add (c:=AD (Db [])) (Da (fun a ha=>by cases ha)) (fun _ _ _ _ g hg=>by obtain ⟨a,ha,_⟩:=hg;cases ha)
 obtain ⟨nl,hnl⟩:∃ nl,nl=ds.length:=⟨_,rfl⟩
 rw [<- hnl] at hm2 CS hd hl ⊢;have HM:=K1 hm2
 obtain ⟨n1,hn1⟩:∃ n1,n1=n-1:=⟨_,rfl⟩
 rw [<- hn1] at hd CS;have e0:(n:Int)-1=(n1:Int):=by omega
 rw [e0] at CN
 obtain ⟨Q,hQ⟩:∃ Q,Q=E*n1:=⟨_,rfl⟩
 have e1:(E:Int)*(n1:Int)=(Q:Int):=by rw [hQ,Int.natCast_mul]
 rw [<- hQ] at hd;have hQb:Q<=1000000000:=by omega
 have gd1:decide ((n:Int)<1)=false:=decide_eq_false (by omega);have gd2:decide ((1048576:Int)<(n:Int))=false:=decide_eq_false (by omega);have gd3:decide ((steps:Int)<0)=false:=decide_eq_false (by omega);have gd4:decide ((1048576:Int)<(steps:Int))=false:=decide_eq_false (by omega);have gd5:decide ((batch:Int)<1)=false:=decide_eq_false (by omega);have gd6:decide ((n:Int)<(batch:Int))=false:=decide_eq_false (by omega);have gd7:¬ nl<Q:=by omega
 have HQ:=K1 (Aea hQ (Aea hn1 hd));have HN:=K1 hn;have hn1b:n1<=999:=by omega
 clear hm hm1 hm2 hr hnl hn1 hQ hd;go_enter Tryz.func70,Tryz.ntmps70;go_wp2_with fail;refine (CE.out _).mono ?_;rintro e w1 ⟨rfl,rfl⟩;clear CE;go_wp2_with fail;refine (CN.out _).mono ?_;rintro e w1 ⟨rfl,rfl⟩;clear CN;go_wp2_with fail;generalize hg0:w.heap.size=g0 at *;have HG0:=K1 hg0;clear hg0
 go_loopw [13] (fun s13 wr=>∃ (k:Nat) (Ao:Option Addr) (co:Nat) (os:Ords) (a:Nat),k<=E/\a<=1000000000/\s13=U O k/\Hid (Mem wr [.bel g0 w,.rd Ad (Bq ds),.obj g0 (.cells #[U O 0,U O 0,U O 0,Us none 0 0] 103 (0,0)),.obj (g0+1) (.cells #[U O n,U O batch,U O steps,Us Ao k co] 103 (0,0)),.obj (g0+1+1) (.cells #[Us Ad nl cd,U O a] 221 (0,0)),.own g0 22 1 (Us Ao k co) k (BC n os),AD (Db os)]/\os.map (fun o=>o.2.2)=C6 ds n k/\(∀ o∈os,n<=o.2.1/\∀ p:Addr,o.1=some p->g0<=p.block)/\a=k*n1)) (fun s13 _=>E-(intOf s13).toNat)
 case atStart=>exact ⟨0,none,0,[],0,Aek _,by omega,rfl,K1 ⟨HM.out,rfl,fun o ho=>(by cases ho),by simp⟩⟩
 case round =>
  clear HM;obtain ⟨k,Ao,co,os,a,hk,ha,rfl,HM⟩:=hrel;have HO:=K1 HM.out.2;replace HM:=K1 HM.out.1;have c4:=HM.out.cells 4 rfl
  by_cases hlt:k<E
  . obtain ⟨a1,ha1⟩:∃ a1,a1=a+n1:=⟨_,rfl⟩
    have hal:a1<=nl:=by
     have h1:=HO.out.2.2;have h2:(k+1)*n1<=E*n1:=Aew _ hlt;rw [Aef,<- HQ.out.1] at h2;have:=HQ.out.2.2;omega
    have CS2:=K1 (fun W (hr:Rd W W.heap.size Ad (Bq ds))=>CS.out W a hr (by omega));rw [<- ha1] at CS2;have HA1:=K1 (show a1=(k+1)*n1 by rw [ha1,HO.out.2.2,Aef]);clear ha1;go_wp2_with fail;refine (CS2.out _ (HM.out.rd 1 rfl)).mono ?_;rintro e w2 ⟨A1,c1,rfl,hc1,hm2⟩;have hfr:∀ p:Addr,A1=some p->g0<=p.block:=fun p hp=>by have:=AF (hm2.own 1 rfl) p hp;have:=(HM.out.bel 0 rfl).size;have:=HG0.out;omega
    have h3:=((HM.out.push_rd (hm2.bel 0 rfl) (AJ (hm2.own 1 rfl)) (AF (hm2.own 1 rfl))).famSnoc (i:=6) (j:=7) rfl rfl).front 7
    obtain ⟨os2,hos2⟩:∃ os2,os2=os++[(A1,c1,Cd ds a n)]:=⟨_,rfl⟩
    have q1:Db os++[(A1,Ah (Cd ds a n))]=Db os2:=by rw [hos2];simp [Db]
    have q2:BC n os2=BC n os++[Us A1 n c1]:=by rw [hos2];simp [BC]
    have q3:os2.map (fun o=>o.2.2)=C6 ds n (k+1)/\(∀ o∈os2,n<=o.2.1/\∀ p:Addr,o.1=some p->g0<=p.block):=by
     rw [hos2];refine ⟨by rw [KL,Aev,HO.out.1,HO.out.2.2,<- HQ.out.2.1];rfl,fun o ho=>?_⟩
     rcases List.mem_append.1 ho with h1 | h1
     . exact HO.out.2.1 o h1
     . simp at h1;subst h1;exact ⟨hc1,hfr⟩
    rw [q1] at h3;have HF:=K1 (show Mem w2 [.bel g0 w,.rd Ad (Bq ds),.obj g0 (.cells #[U O 0,U O 0,U O 0,Us none 0 0] 103 (0,0)),.obj (g0+1) (.cells #[U O n,U O batch,U O steps,Us Ao k co] 103 (0,0)),.obj (g0+1+1) (.cells #[Us Ad nl cd,U O a] 221 (0,0)),.own g0 22 1 (Us Ao k co) k (BC n os),AD (Db os2)] from h3);have HE:=K1 (Aea q2 q3);clear hm2 hfr h3 q1 q2 q3 hos2 CS2 HM c4 HO;have HM2:=K1 (HF.out.alloc (.cells #[Us Ad nl cd,U O a1] 221));have c7:=HM2.out.cells 7 rfl;have c4:=HM2.out.cells 4 rfl;have f4:=fun j=>HM2.out.frozen 4 j rfl
    have HM3:=K1 (HM2.out.set2 (i:=4) rfl (Us Ad nl cd) (U O a1));have c3:=HM3.out.cells 3 rfl;have h4:=HM3.out.alloc (.cells #[Us A1 n c1] 22);simp only [World.size_setCell,Aex] at h4;have HM4:=K1 h4;clear h4
    go_wp2_with (at_builtin;refine AQ (n:=k) rfl _ _ 101 rfl HM4.out 5 KN rfl rfl _ 1 _ [Us A1 n c1] rfl (HM4.out.box 8 rfl) rfl (by intro u hu;simp at hu;subst hu;rfl) (by omega) ?_;intro A' c' W4 hM4;clear c3;have HM5:=K1 (show Mem W4 [.bel g0 w,.rd Ad (Bq ds),.obj g0 (.cells #[U O 0,U O 0,U O 0,Us none 0 0] 103 (0,0)),.obj (g0+1) (.cells #[U O n,U O batch,U O steps,Us Ao k co] 103 (0,0)),.obj (g0+1+1) (.cells #[Us Ad nl cd,U O a1] 221 (0,0)),.own g0 22 1 (Us A' (k+1) c') (k+1) (BC n os++[Us A1 n c1]),AD (Db os2)] from hM4.front 7);clear hM4;have c3:=HM5.out.cells 3 rfl;have f3:=fun j=>HM5.out.frozen 3 j rfl)
    clear HM4 HM3 HM2 HF c7 c4 f4 c3 f3;have HM6:=K1 (HM5.out.set (i:=3) (j:=3) rfl (Us A' (k+1) c'));go_roundw
    case rel =>
     refine ⟨k+1,A',c',os2,a1,by omega,by omega,by go_num,K1 ⟨?_,HE.out.2.1,HE.out.2.2,HA1.out⟩⟩;rw [HE.out.1];exact HM6.out
    case measure=>simp [intOf];omega
  . have hkE:k=E:=by omega
    subst hkE;have c3:=HM.out.cells 3 rfl;have c2:=HM.out.cells 2 rfl;have f2:=fun j=>HM.out.frozen 2 j rfl
    have hf:=HM.out.fill (i:=2) rfl [U O n,U O batch,U O steps,Us Ao k co] rfl;simp only [World.setCells,Nat.reduceAdd,Aer] at hf;have HF:=K1 hf;clear hf;go_wp2_with fail;clear c2 f2 c3;have c2:=HF.out.cells 2 rfl;rw [HG0.out];refine bodyPost_ret (v:=.tuple #[.agg #[U O n,U O batch,U O steps,Us Ao k co],U O 0]) ?_ rfl ⟨Ao,co,rfl,Be (HF.out.own 5 rfl),⟨os,⟨AJ (HF.out.own 5 rfl),AF (HF.out.own 5 rfl)⟩,fun x y z ho=>⟨(HO.out.2.1 (x,y,z) ho).1,HF.out.st 6 rfl (x,Ah z) (List.mem_map.2 ⟨(x,y,z),ho,rfl⟩),(HO.out.2.1 (x,y,z) ho).2⟩,HO.out.1⟩,HF.out.bel 0 rfl⟩;simp [results,Tryz.results70,go_sem,c2]
end
end Go.Proofs.YtdpojpcoghcieaaGreat
