/- A part of the proof of TopSerial: RefEven, RefSamp, RefSampNew. Conditions: none. -/
import Derived.Test.YtdpojpcoghcieaaGreatSdBF
set_option maxHeartbeats 8000000
namespace Go.Proofs.YtdpojpcoghcieaaGreat
open Lib renaming hid → K1
open Go.RowKit
def evSz (k j:Nat):List Nat:=(List.range k).map fun i=>j / k+if i<j % k then 1 else 0
theorem evSz_len (k j:Nat):(evSz k j).length=k:=by simp [evSz]
theorem evSz_at {k j i:Nat} (h:i<k):(evSz k j)[i]?=some (j / k+if i<j % k then 1 else 0):=by simp [evSz,h]
theorem evSz_zero (k:Nat):evSz k 0=List.replicate k 0:=by
 apply List.ext_getElem?
 intro i
 rcases Nat.lt_or_ge i k with h | h
 · rw [evSz_at h];simp [h]
 · rw [List.getElem?_eq_none (by rw [evSz_len];exact h),List.getElem?_eq_none (by simpa using h)]
theorem evSz_succ {k:Nat} (hk:1≤k) (j:Nat):evSz k (j+1)=(evSz k j).set (j % k) (j / k+1):=by
 have hm:=Nat.mod_lt j hk
 have hd:=Nat.div_add_mod j k
 have hcases:(j % k+1<k∧(j+1) / k=j / k∧(j+1) % k=j % k+1)∨(j % k+1=k∧(j+1) / k=j / k+1∧(j+1) % k=0):=by
  rcases Nat.lt_or_ge (j % k+1) k with h | h
  · refine .inl ⟨h,?_,?_⟩
    · rw [← hd,Nat.add_assoc,Nat.mul_add_div (by omega),Nat.div_eq_of_lt h,Nat.mul_add_div (by omega),Nat.div_eq_of_lt hm]
    · rw [← hd,Nat.add_assoc,Nat.mul_add_mod,Nat.mod_eq_of_lt h,Nat.mul_add_mod,Nat.mod_mod]
  · have e:j % k+1=k:=by omega
    refine .inr ⟨e,?_,?_⟩
    · rw [← hd,Nat.add_assoc,e,Nat.mul_add_div (by omega),Nat.div_self (by omega),Nat.mul_add_div (by omega),Nat.div_eq_of_lt hm]
    · rw [← hd,Nat.add_assoc,e,Nat.mul_add_mod,Nat.mod_self]
 apply List.ext_getElem?
 intro i
 rcases Nat.lt_or_ge i k with h | h
 · rw [evSz_at h]
   by_cases hi:j % k=i
   · subst hi
     rw [List.getElem?_set_self (by rw [evSz_len];exact h)]
     rcases hcases with ⟨h1,h2,h3⟩ | ⟨h1,h2,h3⟩
     · rw [h2,h3,if_pos (by omega)]
     · rw [h2,h3,if_neg (by omega)]
   · rw [List.getElem?_set_ne hi,evSz_at h]
     rcases hcases with ⟨h1,h2,h3⟩ | ⟨h1,h2,h3⟩
     · rw [h2,h3]
       congr 2
       by_cases h4:i<j % k
       · rw [if_pos h4,if_pos (by omega)]
       · rw [if_neg h4,if_neg (by omega)]
     · rw [h2,h3,if_neg (by omega),if_pos (by omega)]
 · rw [List.getElem?_eq_none (by rw [evSz_len];exact h),List.getElem?_eq_none (by rw [List.length_set,evSz_len];exact h)]
theorem bnd_next (n k i:Nat):bnd n k (i+1)=bnd n k i+(n / k+if i<n % k then 1 else 0):=by
 unfold bnd
 rw [Nat.succ_mul]
 generalize i*(n / k)=a
 generalize n / k=b
 generalize n % k=c
 split <;> omega
theorem made_zeroI (n:Nat):madeCells #[Value.int .i64 0] n=(iCells (List.replicate n 0)).toArray:=by
 have h:=toList_madeCells_one (.int .i64 0) n
 apply Array.ext'
 rw [h]
 simp [iCells]
theorem run_make_ints (n:Nat) (hn:n≤1048576) (W:World):(Instr.makeSlice 22 (.int .i64 (n:Int)) (.int .i64 (n:Int))).run Tryz.prog W=.ok (.slice (some ⟨W.heap.size,0,none⟩) n n) (W.alloc (.cells (iCells (List.replicate n 0)).toArray 3)):=by
 obtain ⟨i0,hi,hz0,hz1,hz2⟩:=info_parts infoCI
 have hr:=run_make (P:=Tryz.prog) W 22 3 i0 (.int .i64 0) Tryz.underlying22 hi hz0 .i64 .i64 n n (by omega) (by omega) (by rw [hz2];omega) (by omega)
 rw [← made_zeroI]
 simpa [hz1,Value.cells] using hr
theorem own_zeroI (w:World) (n:Nat) (hn:n≤1048576):(w.alloc (.cells (iCells (List.replicate n 0)).toArray 3)).ownsRow w.heap.size 3 1 (.slice (some ⟨w.heap.size,0,none⟩) n n) n (iCells (List.replicate n 0)) :=
 ⟨by simp [iCells],.inr ⟨w.heap.size,n,(iCells (List.replicate n 0)).toArray,rfl,Nat.le_refl _,heap_alloc_new w _,Nat.le_refl _,by simp [maxLen];omega,by simp [iCells],by simp [iCells]⟩⟩
set_option maxRecDepth 100000 in
theorem reven_any (n k:Nat) (w:World) (hn:n≤100000) (hk:1≤k∧k≤1000) :
  Calls Tryz.prog 162 #[.int .i64 n,.int .i64 k] w fun e w'=>∃ A c,e=.returned (.slice A k c)∧k≤c∧Mem w' [.bel w.heap.size w,rrO w.heap.size k c A (evenL n k)]:=by
 have hmk:=run_make_ints k (by omega) w
 have HM0:=K1 (show Mem _ [.bel w.heap.size w,.own w.heap.size 3 1 (.slice (some ⟨w.heap.size,0,none⟩) k k) k (iCells (evSz k 0))] by
  rw [evSz_zero]
  exact (Mem.start w).push_own ((Below.refl _ _).alloc (Nat.le_refl _) _) (own_zeroI w k (by omega)) rfl)
 have hn0:¬ (n:Int)<0:=by omega
 have hk1:¬ k<1:=by omega
 have hkz:¬ k=0:=by omega
 have HS:=K1 (fun j=>evSz_succ hk.1 j)
 have HA:=K1 (fun (j i:Nat) (h:i<k)=>evSz_at (j:=j) h)
 have HN:=K1 (fun i=>bnd_next n k i)
 have HBl:=K1 (fun i (hi:i≤k)=>bnd_le (n:=n) hk.1 hi)
 have HD:=K1 (fun (j:Nat) (hj:j≤n)=>Nat.le_trans (Nat.div_le_self j k) hj)
 go_enter Tryz.func162,Tryz.ntmps162
 go_wp2_with fail
 go_loopw [6] (fun s6 wr=>∃ j:Nat,j≤n∧s6=.int .i64 j∧Hid (Mem wr [.bel w.heap.size w,.own w.heap.size 3 1 (.slice (some ⟨w.heap.size,0,none⟩) k k) k (iCells (evSz k j))])) (fun s6 _=>n-(intOf s6).toNat)
 case atStart=>exact ⟨0,Nat.zero_le _,rfl,HM0⟩
 case round =>
  clear HM0 hmk
  obtain ⟨j,hj,rfl,HM⟩:=hrel
  by_cases hlt:j<n
  · obtain ⟨r,hr⟩:∃ r,r=j % k:=⟨_,rfl⟩
    have hrk:r<k:=by rw [hr];exact Nat.mod_lt _ hk.1
    obtain ⟨v,hv⟩:∃ v,v=j / k:=⟨_,rfl⟩
    have hvb:v≤100000:=by rw [hv];have:=HD.out j hj;omega
    have e3:(j:Int).tmod (k:Int)=(r:Int):=by rw [hr];exact (Int.ofNat_tmod _ _).symm
    have wr_:IntKind.i64.wrap (r:Int)=(r:Int):=IntWalk.i64_in _ (by omega)
    have e1:wr.cell? ⟨w.heap.size,r,none⟩=some (.int .i64 v):=((HM.out.own 1 rfl).cellAt r (by omega)).trans (by
     have:=HA.out j r hrk
     rw [← hr,← hv,if_neg (Nat.lt_irrefl _)] at this
     simp [iCells,this])
    have kf:=HM.out.ownF 1 rfl
    obtain ⟨v1,hv1⟩:∃ v1,v1=v+1:=⟨_,rfl⟩
    have iv:(v:Int)+1=(v1:Int):=by omega
    have wv:IntKind.i64.wrap (v1:Int)=(v1:Int):=IntWalk.i64_in _ (by omega)
    have hm2:=HM.out.setOwn (i:=1) (j:=r) rfl (.int .i64 v1)
    have hs:(iCells (evSz k j)).set r (.int .i64 v1)=iCells (evSz k (j+1)):=by
     rw [HS.out j,← hr,← hv,← hv1];simp [iCells]
    rw [hs] at hm2
    have HM2:=K1 hm2
    clear hr hv hv1 hm2 hs HM
    go_wp2_with fail
    go_roundw
    case rel=>exact ⟨j+1,by omega,by go_num,HM2⟩
    case measure=>simp [intOf];omega
  · have hjn:j=n:=by omega
    subst hjn
    have HM1:=K1 ((HM.out.freeze (i:=1) rfl).add (c:=rrO w.heap.size 0 0 none ((List.range 0).map fun i=>(bnd j k i,bnd j k (i+1)))) ⟨own_nil _ _ _ _,(HM.out.bel 0 rfl).size⟩ (fun _ _ _ _ g hg=>by cases hg))
    clear HM
    go_wp2_with fail
    go_loopw [7,8,9] (fun s7 s8 s9 wr=>∃ (i:Nat) (A:Option Addr) (c:Nat),i≤k∧s7=.slice A i c∧s8=.int .i64 (bnd j k i:Nat)∧s9=.int .i64 i∧Hid (Mem wr [.bel w.heap.size w,.rd (some ⟨w.heap.size,0,none⟩) (iCells (evSz k j)),rrO w.heap.size i c A ((List.range i).map fun i=>(bnd j k i,bnd j k (i+1)))])) (fun _ _ s9 _=>k-(intOf s9).toNat)
    case atStart=>exact ⟨0,none,0,Nat.zero_le _,rfl,by simp [bnd],rfl,HM1⟩
    case round =>
     clear HM1
     obtain ⟨i,A,c,hi,rfl,rfl,rfl,HM⟩:=hrel
     by_cases hlt2:i<k
     · obtain ⟨x,hx⟩:∃ x,x=bnd j k i:=⟨_,rfl⟩
       obtain ⟨y,hy⟩:∃ y,y=bnd j k (i+1):=⟨_,rfl⟩
       obtain ⟨v,hv⟩:∃ v,v=j / k+if i<j % k then 1 else 0:=⟨_,rfl⟩
       have hxy:=HN.out i
       rw [← hx,← hy,← hv] at hxy
       have hyb:y≤j:=by rw [hy];exact HBl.out (i+1) hlt2
       have e1:wr.cell? ⟨w.heap.size,i,none⟩=some (.int .i64 v):=by
        have:=HM.out.rdAt 1 rfl (show (iCells (evSz k j))[i]?=some (.int .i64 v) by simp [iCells,HA.out j i hlt2,hv])
        rwa [Nat.zero_add] at this
       have iy:(x:Int)+(v:Int)=(y:Int):=by omega
       have wy:IntKind.i64.wrap (y:Int)=(y:Int):=IntWalk.i64_in _ (by omega)
       have HEV:=K1 (show (iCells (evSz k j))[i]?=some (.int .i64 v) by simp [iCells,HA.out j i hlt2,hv])
       have HT:=K1 (show (List.range (i+1)).map (fun i=>(bnd j k i,bnd j k (i+1)))=(List.range i).map (fun i=>(bnd j k i,bnd j k (i+1)))++[(x,y)] by rw [List.range_succ,List.map_append,hx,hy];rfl)
       have HY:=K1 hy
       have HM3:=K1 (HM.out.alloc (.cells #[.int .i64 x,.int .i64 y] 72))
       rw [← hx]
       clear hx hy hv hxy HM
       go_wp2_with (at_builtin;refine wpList_append_mem (n:=i) rfl _ _ 192 rfl HM3.out 2 rowRR rfl rfl _ 1 _ [.int .i64 x,.int .i64 y] rfl (HM3.out.box 3 rfl) rfl (by intro u hu;simp at hu;rcases hu with rfl | rfl <;> rfl) (by omega) ?_;intro A' c' W4 hM4;have e2:=hM4.rdAt 1 rfl HEV.out;rw [Nat.zero_add] at e2)
       have HM5:=K1 (hM4.front 3)
       clear hM4 HM3 e1 e2
       go_wp2_with fail
       go_roundw
       case rel =>
        refine ⟨i+1,A',c',by omega,rfl,by rw [← HY.out],by go_num,?_⟩
        rw [HT.out]
        unfold rrO
        rw [rcells_snoc]
        exact HM5
       case measure=>simp [intOf];omega
     · have hik:i=k:=by omega
       subst hik
       have HF:=K1 HM.out
       clear HM
       go_wp2_with fail
       go_ret
       exact ⟨A,c,rfl,own_cap (HF.out.own 2 rfl),HF.out.pick [0,2] _ rfl (by decide)⟩
def rsC (n batch steps:Nat) (Ao:Option Addr) (co:Nat):List Value:=[.int .i64 n,.int .i64 batch,.int .i64 steps,.slice Ao (pcnt steps (n / batch)) co]
def RSamp (W:World) (n batch steps:Nat) (Ao:Option Addr) (ds:List Nat):Prop:=∃ os:Ords,Rd W W.heap.size Ao (ordVals n os)∧(∀ o∈os,n≤o.2.1∧Rd W W.heap.size o.1 (iCells o.2.2))∧os.map (fun o=>o.2.2)=ordersL ds n (pcnt steps (n / batch))
def RSampIn (W:World) (lo hi n batch steps:Nat) (Ao:Option Addr) (ds:List Nat):Prop:=∃ os:Ords,RdIn W lo hi Ao (ordVals n os)∧(∀ o∈os,n≤o.2.1∧RdIn W lo hi o.1 (iCells o.2.2))∧os.map (fun o=>o.2.2)=ordersL ds n (pcnt steps (n / batch))
def rsCh (lo hi n batch steps:Nat) (Ao:Option Addr) (ds:List Nat):Ch:=.st (fun g=>lo≤g∧g<hi) (fun W=>RSampIn W lo hi n batch steps Ao ds)
theorem rsCh_holds {W:World} {lo hi n batch steps:Nat} {Ao:Option Addr} {ds:List Nat} (h:RSampIn W lo hi n batch steps Ao ds) (hh:hi≤W.heap.size):(rsCh lo hi n batch steps Ao ds).Holds W :=
 ⟨h,fun g hg=>by omega,fun _ _ _ hk h=>by
  obtain ⟨os,h1,h2,h3⟩:=h
  exact ⟨os,h1.keep fun g h1 h2=>hk g ⟨h1,h2⟩,fun o ho=>⟨(h2 o ho).1,(h2 o ho).2.keep fun g h1 h2=>hk g ⟨h1,h2⟩⟩,h3⟩⟩
theorem RSampIn.more {W:World} {lo hi lo' hi' n batch steps:Nat} {Ao:Option Addr} {ds:List Nat} (h:RSampIn W lo hi n batch steps Ao ds) (h1:lo'≤lo) (h2:hi≤hi'):RSampIn W lo' hi' n batch steps Ao ds:=by
 obtain ⟨os,k1,k2,k3⟩:=h
 exact ⟨os,k1.more h1 h2,fun o ho=>⟨(k2 o ho).1,(k2 o ho).2.more h1 h2⟩,k3⟩
theorem Mem.rsamp {W:World} {L:List Ch} {lo hi n batch steps i:Nat} {Ao:Option Addr} {ds:List Nat} (h:Mem W L) (hx:L[i]?=some (rsCh lo hi n batch steps Ao ds)):RSamp W n batch steps Ao ds:=by
 obtain ⟨⟨os,h1,h2,h3⟩,hlt,_⟩:=h.holds i _ hx
 have key:∀ {A:Option Addr} {vs:List Value},RdIn W lo hi A vs→Rd W W.heap.size A vs:=fun {A vs} hr h0=>by
  obtain ⟨b,off,e,hb,hc⟩:=hr.1 h0
  exact ⟨b,off,e,hlt b ⟨hr.2 _ e,hb⟩,hc⟩
 exact ⟨os,key h1,fun o ho=>⟨(h2 o ho).1,key (h2 o ho).2⟩,h3⟩
theorem RSamp.step {w:World} {n batch steps:Nat} {Ao:Option Addr} {ds:List Nat} (h:RSamp w n batch steps Ao ds) (hb:1≤batch∧batch≤n) {t:Nat} (ht:t<steps) :
  ∃ (os:Ords) (A1:Option Addr) (c1:Nat),t % (n / batch)*batch+batch≤n∧Rd w w.heap.size Ao (ordVals n os)∧(ordVals n os)[t / (n / batch)]?=some (.slice A1 n c1)∧n≤c1∧t / (n / batch)<pcnt steps (n / batch)∧Rd w w.heap.size A1 (iCells (shufL ds (t / (n / batch)*(n-1)) n)):=by
 obtain ⟨os,h3,h4,h5⟩:=h
 have hnb:1≤n / batch:=Nat.div_pos hb.2 hb.1
 have hr:t % (n / batch)<n / batch:=Nat.mod_lt _ hnb
 have hq:t / (n / batch)<pcnt steps (n / batch):=by
  unfold pcnt
  rw [if_neg (by omega)]
  have:=Nat.div_le_div_right (c:=n / batch) (show t≤steps-1 by omega)
  omega
 have hle:t % (n / batch)*batch+batch≤n:=by
  have h8:=Nat.mul_le_mul_right batch hr
  have h9:=Nat.div_mul_le_self n batch
  rw [Nat.succ_mul] at h8
  omega
 have hlen:os.length=pcnt steps (n / batch):=by
  have:=congrArg List.length h5
  simpa [ordersL] using this
 obtain ⟨o,ho⟩:∃ o,os[t / (n / batch)]?=some o:=⟨_,List.getElem?_eq_getElem (by omega)⟩
 have ho2:o.2.2=shufL ds (t / (n / batch)*(n-1)) n:=by
  have e:=congrArg (·[t / (n / batch)]?) h5
  simp only [List.getElem?_map,ho,ordersL,List.getElem?_range hq,Option.map_some,Option.some.injEq] at e
  exact e
 have hm:=List.mem_of_getElem? ho
 refine ⟨os,o.1,o.2.1,hle,h3,?_,(h4 o hm).1,hq,?_⟩
 · simp [ordVals,ho]
 · rw [← ho2];exact (h4 o hm).2
set_option maxRecDepth 100000 in
theorem repoch_any (w:World) (n batch steps co t:Nat) (Ao:Option Addr) (hb:1≤batch∧batch≤n) (hn:n≤1000) (ht:t<steps) (hs:steps≤1000) :
  Calls Tryz.prog 74 #[.agg (rsC n batch steps Ao co).toArray,.int .i64 t] w fun e w'=>e=.returned (.tuple #[.int .i64 (t / (n / batch):Nat),.int .i64 (t % (n / batch):Nat),.bool true])∧Below w.heap.size w w':=by
 have HM:=K1 ((Mem.start w).alloc (.cells (rsC n batch steps Ao co).toArray 103))
 dsimp only [rsC] at *
 have hnb:1≤n / batch:=Nat.div_pos hb.2 hb.1
 have hnl:n / batch≤n:=Nat.div_le_self _ _
 obtain ⟨e,he⟩:∃ e,e=pcnt steps (n / batch):=⟨_,rfl⟩
 rw [← he] at HM ⊢
 obtain ⟨nb,hnb2⟩:∃ nb,nb=n / batch:=⟨_,rfl⟩
 have e0:(n:Int).tdiv (batch:Int)=(nb:Int):=by rw [hnb2];exact (Int.ofNat_tdiv _ _).symm
 rw [← hnb2] at hnb hnl ⊢
 obtain ⟨q,hq⟩:∃ q,q=t / nb:=⟨_,rfl⟩
 obtain ⟨r,hr⟩:∃ r,r=t % nb:=⟨_,rfl⟩
 have hq1:q≤t:=hq ▸ Nat.div_le_self _ _
 have hr1:r≤t:=hr ▸ Nat.mod_le _ _
 have e1:(t:Int).tdiv (nb:Int)=(q:Int):=by rw [hq];exact (Int.ofNat_tdiv _ _).symm
 have e2:(t:Int).tmod (nb:Int)=(r:Int):=by rw [hr];exact (Int.ofNat_tmod _ _).symm
 have w0:IntKind.i64.wrap (nb:Int)=(nb:Int):=IntWalk.i64_in _ (by omega)
 have w1:IntKind.i64.wrap (q:Int)=(q:Int):=IntWalk.i64_in _ (by omega)
 have w2:IntKind.i64.wrap (r:Int)=(r:Int):=IntWalk.i64_in _ (by omega)
 have hz:¬ nb=0:=by omega
 have hz2:¬ batch=0:=by omega
 have gd:¬ steps≤t:=by omega
 rw [← hq,← hr]
 clear hq hr hnb2 he
 go_enter Tryz.func74,Tryz.ntmps74
 have c1:=HM.out.cells 1 rfl
 go_wp2_with fail
 go_quiet (fail)
 go_wp2_with fail
 go_ret3
 exact ⟨rfl,(HM.out.drewN _).bel 0 rfl⟩
set_option maxRecDepth 100000 in
theorem rbatch_any (w:World) (n batch steps co t:Nat) (Ao:Option Addr) (ds:List Nat) (h:RSamp w n batch steps Ao ds) (hb:1≤batch∧batch≤n) (hn:n≤1000) (ht:t<steps) (hs:steps≤1000) :
  Calls Tryz.prog 34 #[.agg (rsC n batch steps Ao co).toArray,.int .i64 t] w fun e w'=>∃ A c,e=.returned (.slice A batch c)∧batch≤c∧Rd w' w'.heap.size A (iCells (viewL ds n batch t))∧Below w.heap.size w w':=by
 have CE:=K1 (fun W=>repoch_any W n batch steps co t Ao hb hn ht hs)
 obtain ⟨os,A1,c1,h4,h5,h6,h7,h8,h9⟩:=h.step hb ht
 have hm:=(((Mem.start w).add_rd (i:=0) rfl h5).add_rd (i:=0) rfl h9).alloc (.cells (rsC n batch steps Ao co).toArray 103)
 clear h
 unfold viewL
 dsimp only [rsC] at *
 generalize n / batch=nb at *
 obtain ⟨b2,o2,rfl,_,_⟩:=h5 (Nat.lt_of_le_of_lt (Nat.zero_le _) (List.getElem?_eq_some_iff.1 h6).1)
 generalize t / nb=q at *
 generalize t % nb=r at *
 obtain ⟨x,hx⟩:∃ x,x=r*batch:=⟨_,rfl⟩
 obtain ⟨y,hy⟩:∃ y,y=x+batch:=⟨_,rfl⟩
 have e1:(r:Int)*(batch:Int)=(x:Int):=by rw [hx,Int.natCast_mul]
 have e2:(x:Int)+(batch:Int)=(y:Int):=by omega
 rw [← hx,← hy] at h4
 rw [← hx,← hy,iCells_sub]
 have hl:(iCells (shufL ds (q*(n-1)) n)).length=n:=by rw [iCells_len,shufL_len]
 generalize iCells (shufL ds (q*(n-1)) n)=vs at *
 have HM:=K1 hm
 have HX:=K1 (And.intro h6 hl)
 generalize pcnt steps nb=ne at *
 have hxy:x≤y:=by omega
 have hyc:y≤c1:=Nat.le_trans h4 h7
 have hbx:batch=y-x:=by omega
 have HBX:=K1 hbx
 have hxyl:x<y:=by omega
 have hcx:¬ c1=x:=by omega
 clear h5 h6 h9 hl hx hy hm hbx
 go_enter Tryz.func34,Tryz.ntmps34
 have k1:=HM.out.cells 3 rfl
 go_wp2_with fail
 (with_reducible refine (CE.out _).mono ?_)
 rintro e w1 ⟨rfl,hb1⟩
 replace HM:=K1 (HM.out.below hb1)
 clear hb1 CE k1
 have k1:=HM.out.cells 3 rfl
 have k6:=HM.out.rdAt 1 rfl HX.out.1
 go_wp2_with fail
 go_quiet (fail)
 go_wp2_with fail
 have hs:=((HM.out.drewN nq).rd 2 rfl).sub x y (by rw [HX.out.2];omega)
 rw [if_neg (by omega)] at hs
 go_ret
 have hbe:batch=y-x:=HBX.out
 subst hbe
 exact ⟨_,c1-x,rfl,by omega,hs,(HM.out.drewN nq).bel 0 rfl⟩
theorem pcnt_ceil {s d e:Nat} (h1:s≤e*d) (h2:e=0∨(e-1)*d<s):pcnt s d=e:=by
 unfold pcnt
 split
 · rename_i h0
   subst h0
   rcases h2 with h2 | h2
   · exact h2.symm
   · omega
 · rename_i h0
   rcases h2 with h2 | h2
   · subst h2;omega
   · have h3:(s-1) / d=e-1:=by
      have hlo:(e-1)*d≤s-1:=by omega
      have he:e≠0:=by rintro rfl;omega
      have hhi:s-1<(e-1+1)*d:=by rw [show e-1+1=e by omega];omega
      exact Nat.div_eq_of_lt_le hlo hhi
     have he:e≠0:=by rintro rfl;omega
     omega
set_option maxRecDepth 100000 in
theorem repochs_any (w:World) (n batch steps:Nat) (hb:1≤batch∧batch≤n) (hn:n≤1000) (hs:steps≤1000) :
  Calls Tryz.prog 115 #[.int .i64 n,.int .i64 batch,.int .i64 steps] w fun e w'=>e=.returned (.int .i64 (pcnt steps (n / batch):Nat))∧w=w':=by
 have hnb:1≤n / batch:=Nat.div_pos hb.2 hb.1
 have hnl:n / batch≤n:=Nat.div_le_self _ _
 obtain ⟨nb,hnb2⟩:∃ nb,nb=n / batch:=⟨_,rfl⟩
 have e0:(n:Int).tdiv (batch:Int)=(nb:Int):=by rw [hnb2];exact (Int.ofNat_tdiv _ _).symm
 rw [← hnb2] at hnb hnl ⊢
 have w0:IntKind.i64.wrap (nb:Int)=(nb:Int):=IntWalk.i64_in _ (by omega)
 have hz2:¬ batch=0:=by omega
 obtain ⟨R,hR⟩:∃ R,R=pcnt steps nb:=⟨_,rfl⟩
 rw [← hR]
 have HR:=K1 hR
 clear hR hnb2
 go_enter Tryz.func115,Tryz.ntmps115
 go_wp2
 go_loopw [7,8] (fun s7 s8 wr=>∃ (e t:Nat),e≤1000∧t≤2000∧s7=.int .i64 e∧s8=.int .i64 t∧wr=w∧Hid (t=e*nb∧(e=0∨(e-1)*nb<steps))) (fun _ s8 _=>steps-(intOf s8).toNat)
 case atStart=>exact ⟨0,0,by omega,by omega,rfl,rfl,rfl,K1 ⟨by simp,.inl rfl⟩⟩
 case round =>
  obtain ⟨e,t,he,ht,rfl,rfl,rfl,HV⟩:=hrel
  by_cases hlt:t<steps
  · have hel:e+1≤1000:=by
     have h1:=HV.out.1
     have h2:e*1≤e*nb:=Nat.mul_le_mul_left _ hnb
     omega
    go_wp2_with fail
    go_roundw
    case rel=>exact ⟨e+1,t+nb,hel,by omega,by go_num,by go_num,trivial,K1 ⟨by rw [HV.out.1,Nat.succ_mul],.inr (by rw [Nat.add_sub_cancel,← HV.out.1];exact hlt)⟩⟩
    case measure=>simp [intOf];omega
  · have hp:=pcnt_ceil (s:=steps) (by rw [← HV.out.1];omega) HV.out.2
    rw [← HR.out] at hp
    have HP:=K1 hp
    clear hp
    go_wp2_with fail
    go_ret
    exact ⟨by rw [HP.out];rfl,rfl⟩
set_option maxRecDepth 100000 in
theorem rsampNew_any (w:World) (n batch steps cd:Nat) (Ad:Option Addr) (ds:List Nat) (hr:Rd w w.heap.size Ad (uCells ds)) (hn:1≤n∧n≤1000) (hb:1≤batch∧batch≤n) (hs:steps≤1000) (hd:pcnt steps (n / batch)*(n-1)≤ds.length) (hl:ds.length≤1000000000) :
  Calls Tryz.prog 70 #[.int .i64 n,.int .i64 batch,.int .i64 steps,.slice Ad ds.length cd] w fun e w'=>∃ Ao co,e=.returned (.tuple #[.agg (rsC n batch steps Ao co).toArray,.int .i64 0])∧pcnt steps (n / batch)≤co∧RSampIn w' w.heap.size w'.heap.size n batch steps Ao ds∧Below w.heap.size w w':=by
 have CE:=K1 (fun W=>repochs_any W n batch steps hb hn.2 hs)
 have CN:=K1 (fun W=>refPermNeed_pos (n:Int) W (by omega) (by omega))
 have CS:=K1 (fun W a (hr:Rd W W.heap.size Ad (uCells ds)) (h:a+(n-1)≤ds.length)=>rshuffle_any W Ad cd a n ds hr hn h hl)
 have hEb:pcnt steps (n / batch)≤1000:=Nat.le_trans (pcnt_le _ _) hs
 unfold RSampIn rsC
 obtain ⟨E,hE⟩:∃ E,E=pcnt steps (n / batch):=⟨_,rfl⟩
 rw [← hE] at CE hd hEb ⊢
 clear hE
 have hm:=(((Mem.start w).add_rd (i:=0) rfl hr).alloc (.cells #[.int .i64 0,.int .i64 0,.int .i64 0,.slice none 0 0] 103)).alloc (.cells #[.int .i64 n,.int .i64 batch,.int .i64 steps,.slice none 0 0] 103)
 have hm1:=hm.alloc (.cells #[.slice Ad ds.length cd,.int .i64 0] 221)
 simp only [World.size_alloc] at hm1
 have hm2:=(hm1.add (c:=.own w.heap.size 22 1 (.slice none 0 0) 0 (ordVals n [])) ⟨own_nil _ _ _ _,(hm1.bel 0 rfl).size⟩ (fun _ _ _ _ g hg=>by cases hg)).add (c:=famCh (ordFam [])) (fam_local (fun a ha=>by cases ha)) (fun _ _ _ _ g hg=>by obtain ⟨a,ha,_⟩:=hg;cases ha)
 obtain ⟨nl,hnl⟩:∃ nl,nl=ds.length:=⟨_,rfl⟩
 rw [← hnl] at hm2 CS hd hl ⊢
 have HM:=K1 hm2
 obtain ⟨n1,hn1⟩:∃ n1,n1=n-1:=⟨_,rfl⟩
 rw [← hn1] at hd CS
 have e0:(n:Int)-1=(n1:Int):=by omega
 rw [e0] at CN
 obtain ⟨Q,hQ⟩:∃ Q,Q=E*n1:=⟨_,rfl⟩
 have e1:(E:Int)*(n1:Int)=(Q:Int):=by rw [hQ,Int.natCast_mul]
 rw [← hQ] at hd
 have hQb:Q≤1000000000:=by omega
 have gd1:decide ((n:Int)<1)=false:=decide_eq_false (by omega)
 have gd2:decide ((1048576:Int)<(n:Int))=false:=decide_eq_false (by omega)
 have gd3:decide ((steps:Int)<0)=false:=decide_eq_false (by omega)
 have gd4:decide ((1048576:Int)<(steps:Int))=false:=decide_eq_false (by omega)
 have gd5:decide ((batch:Int)<1)=false:=decide_eq_false (by omega)
 have gd6:decide ((n:Int)<(batch:Int))=false:=decide_eq_false (by omega)
 have gd7:¬ nl<Q:=by omega
 have HQ:=K1 (And.intro hQ (And.intro hn1 hd))
 have HN:=K1 hn
 have hn1b:n1≤999:=by omega
 clear hm hm1 hm2 hr hnl hn1 hQ hd
 go_enter Tryz.func70,Tryz.ntmps70
 go_wp2_with fail
 refine (CE.out _).mono ?_
 rintro e w1 ⟨rfl,rfl⟩
 clear CE
 go_wp2_with fail
 refine (CN.out _).mono ?_
 rintro e w1 ⟨rfl,rfl⟩
 clear CN
 go_wp2_with fail
 generalize hg0:w.heap.size=g0 at *
 have HG0:=K1 hg0
 clear hg0
 go_loopw [13] (fun s13 wr=>∃ (k:Nat) (Ao:Option Addr) (co:Nat) (os:Ords) (a:Nat),k≤E∧a≤1000000000∧s13=.int .i64 k∧Hid (Mem wr [.bel g0 w,.rd Ad (uCells ds),.obj g0 (.cells #[.int .i64 0,.int .i64 0,.int .i64 0,.slice none 0 0] 103 (0,0)),.obj (g0+1) (.cells #[.int .i64 n,.int .i64 batch,.int .i64 steps,.slice Ao k co] 103 (0,0)),.obj (g0+1+1) (.cells #[.slice Ad nl cd,.int .i64 a] 221 (0,0)),.own g0 22 1 (.slice Ao k co) k (ordVals n os),famCh (ordFam os)]∧os.map (fun o=>o.2.2)=ordersL ds n k∧(∀ o∈os,n≤o.2.1∧∀ p:Addr,o.1=some p→g0≤p.block)∧a=k*n1)) (fun s13 _=>E-(intOf s13).toNat)
 case atStart=>exact ⟨0,none,0,[],0,Nat.zero_le _,by omega,rfl,K1 ⟨HM.out,rfl,fun o ho=>(by cases ho),by simp⟩⟩
 case round =>
  clear HM
  obtain ⟨k,Ao,co,os,a,hk,ha,rfl,HM⟩:=hrel
  have HO:=K1 HM.out.2
  replace HM:=K1 HM.out.1
  have c4:=HM.out.cells 4 rfl
  by_cases hlt:k<E
  · obtain ⟨a1,ha1⟩:∃ a1,a1=a+n1:=⟨_,rfl⟩
    have hal:a1≤nl:=by
     have h1:=HO.out.2.2
     have h2:(k+1)*n1≤E*n1:=Nat.mul_le_mul_right _ hlt
     rw [Nat.succ_mul,← HQ.out.1] at h2
     have:=HQ.out.2.2
     omega
    have CS2:=K1 (fun W (hr:Rd W W.heap.size Ad (uCells ds))=>CS.out W a hr (by omega))
    rw [← ha1] at CS2
    have HA1:=K1 (show a1=(k+1)*n1 by rw [ha1,HO.out.2.2,Nat.succ_mul])
    clear ha1
    go_wp2_with fail
    refine (CS2.out _ (HM.out.rd 1 rfl)).mono ?_
    rintro e w2 ⟨A1,c1,rfl,hc1,hm2⟩
    have hfr:∀ p:Addr,A1=some p→g0≤p.block:=fun p hp=>by have:=own_from_base (hm2.own 1 rfl) p hp;have:=(HM.out.bel 0 rfl).size;have:=HG0.out;omega
    have h3:=((HM.out.push_rd (hm2.bel 0 rfl) (rd_of_own (hm2.own 1 rfl)) (own_from_base (hm2.own 1 rfl))).famSnoc (i:=6) (j:=7) rfl rfl).front 7
    obtain ⟨os2,hos2⟩:∃ os2,os2=os++[(A1,c1,shufL ds a n)]:=⟨_,rfl⟩
    have q1:ordFam os++[(A1,iCells (shufL ds a n))]=ordFam os2:=by rw [hos2];simp [ordFam]
    have q2:ordVals n os2=ordVals n os++[.slice A1 n c1]:=by rw [hos2];simp [ordVals]
    have q3:os2.map (fun o=>o.2.2)=ordersL ds n (k+1)∧(∀ o∈os2,n≤o.2.1∧∀ p:Addr,o.1=some p→g0≤p.block):=by
     rw [hos2]
     refine ⟨by rw [ordersL_succ,List.map_append,HO.out.1,HO.out.2.2,← HQ.out.2.1];rfl,fun o ho=>?_⟩
     rcases List.mem_append.1 ho with h1 | h1
     · exact HO.out.2.1 o h1
     · simp at h1;subst h1;exact ⟨hc1,hfr⟩
    rw [q1] at h3
    have HF:=K1 (show Mem w2 [.bel g0 w,.rd Ad (uCells ds),.obj g0 (.cells #[.int .i64 0,.int .i64 0,.int .i64 0,.slice none 0 0] 103 (0,0)),.obj (g0+1) (.cells #[.int .i64 n,.int .i64 batch,.int .i64 steps,.slice Ao k co] 103 (0,0)),.obj (g0+1+1) (.cells #[.slice Ad nl cd,.int .i64 a] 221 (0,0)),.own g0 22 1 (.slice Ao k co) k (ordVals n os),famCh (ordFam os2)] from h3)
    have HE:=K1 (And.intro q2 q3)
    clear hm2 hfr h3 q1 q2 q3 hos2 CS2 HM c4 HO
    have HM2:=K1 (HF.out.alloc (.cells #[.slice Ad nl cd,.int .i64 a1] 221))
    have c7:=HM2.out.cells 7 rfl
    have c4:=HM2.out.cells 4 rfl
    have f4:=fun j=>HM2.out.frozen 4 j rfl
    have HM3:=K1 (HM2.out.set2 (i:=4) rfl (.slice Ad nl cd) (.int .i64 a1))
    have c3:=HM3.out.cells 3 rfl
    have h4:=HM3.out.alloc (.cells #[.slice A1 n c1] 22)
    simp only [World.size_setCell,World.size_alloc] at h4
    have HM4:=K1 h4
    clear h4
    go_wp2_with (at_builtin;refine wpList_append_mem (n:=k) rfl _ _ 101 rfl HM4.out 5 rowSI rfl rfl _ 1 _ [.slice A1 n c1] rfl (HM4.out.box 8 rfl) rfl (by intro u hu;simp at hu;subst hu;rfl) (by omega) ?_;intro A' c' W4 hM4;clear c3;have HM5:=K1 (show Mem W4 [.bel g0 w,.rd Ad (uCells ds),.obj g0 (.cells #[.int .i64 0,.int .i64 0,.int .i64 0,.slice none 0 0] 103 (0,0)),.obj (g0+1) (.cells #[.int .i64 n,.int .i64 batch,.int .i64 steps,.slice Ao k co] 103 (0,0)),.obj (g0+1+1) (.cells #[.slice Ad nl cd,.int .i64 a1] 221 (0,0)),.own g0 22 1 (.slice A' (k+1) c') (k+1) (ordVals n os++[.slice A1 n c1]),famCh (ordFam os2)] from hM4.front 7);clear hM4;have c3:=HM5.out.cells 3 rfl;have f3:=fun j=>HM5.out.frozen 3 j rfl)
    clear HM4 HM3 HM2 HF c7 c4 f4 c3 f3
    have HM6:=K1 (HM5.out.set (i:=3) (j:=3) rfl (.slice A' (k+1) c'))
    go_roundw
    case rel =>
     refine ⟨k+1,A',c',os2,a1,by omega,by omega,by go_num,K1 ⟨?_,HE.out.2.1,HE.out.2.2,HA1.out⟩⟩
     rw [HE.out.1]
     exact HM6.out
    case measure=>simp [intOf];omega
  · have hkE:k=E:=by omega
    subst hkE
    have c3:=HM.out.cells 3 rfl
    have c2:=HM.out.cells 2 rfl
    have f2:=fun j=>HM.out.frozen 2 j rfl
    have hf:=HM.out.fill (i:=2) rfl [.int .i64 n,.int .i64 batch,.int .i64 steps,.slice Ao k co] rfl
    simp only [World.setCells,Nat.reduceAdd,Nat.zero_add] at hf
    have HF:=K1 hf
    clear hf
    go_wp2_with fail
    clear c2 f2 c3
    have c2:=HF.out.cells 2 rfl
    rw [HG0.out]
    refine bodyPost_ret (v:=.tuple #[.agg #[.int .i64 n,.int .i64 batch,.int .i64 steps,.slice Ao k co],.int .i64 0]) ?_ rfl ⟨Ao,co,rfl,own_cap (HF.out.own 5 rfl),⟨os,⟨rd_of_own (HF.out.own 5 rfl),own_from_base (HF.out.own 5 rfl)⟩,fun x y z ho=>⟨(HO.out.2.1 (x,y,z) ho).1,HF.out.st 6 rfl (x,iCells z) (List.mem_map.2 ⟨(x,y,z),ho,rfl⟩),(HO.out.2.1 (x,y,z) ho).2⟩,HO.out.1⟩,HF.out.bel 0 rfl⟩
    simp [results,Tryz.results70,go_sem,c2]
end Go.Proofs.YtdpojpcoghcieaaGreat
