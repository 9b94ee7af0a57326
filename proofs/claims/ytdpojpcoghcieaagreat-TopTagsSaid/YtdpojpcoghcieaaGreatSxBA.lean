/- A part of the proof of TopTags: RefSgd, RefShuf, RefSum, RefNet, BoxMem. Conditions: none. -/
import Derived.Test.YtdpojpcoghcieaaGreatSxAR
import Derived.Test.YtdpojpcoghcieaaGreatSxAX
import Derived.Test.YtdpojpcoghcieaaGreatSxAP
import Derived.Test.YtdpojpcoghcieaaGreatSxAT
set_option maxHeartbeats 8000000
set_option linter.all false
namespace Go.Proofs.YtdpojpcoghcieaaGreat
open Lib renaming hid → K1
open Go.RowKit
set_option maxRecDepth 100000
open Value renaming int → U, slice → Us
open IntKind renaming i64 → O
open PlS renaming ef_ → Ab8, rd_ → Aca, fin_ → Acd, rc_ → Acg
open Mem renaming start → Ab9
open After renaming go → Acb
open List renaming mem_of_getElem? → Xac, range → Aci, range_succ → Acj
open World renaming size_alloc → Ace
open Nat renaming zero_le → Acf, le_refl → Ack
open IntWalk renaming i64_in → Ach
open And renaming intro → Acl
section
theorem Gw (n:Nat) (hn:n<=1048576) (W:World):(Instr.makeSlice 26 (U O (n:Int)) (U O (n:Int))).run Tryz.prog W=.ok (Us (some ⟨W.heap.size,0,none⟩) n n) (W.alloc (Ew n)):=by
 obtain ⟨i0,hi,hz0,hz1,hz2⟩:=info_parts IG;have hr:=run_make (P:=Tryz.prog) W 26 2 i0 (U O 0) Tryz.underlying26 hi hz0 .i64 .i64 n n (by omega) (by omega) (by rw [hz2];omega) (by omega);have e:Ew n=.cells (madeCells #[U O 0] n) 2 (0,0):=by rw [Lq];rfl
 rw [e]
 simpa [hz1,Value.cells] using hr
theorem RW (w:World) (A:Option Addr) (n cap:Nat) (zs:List Int) (hr:Rd w w.heap.size A (zC zs)) (hn:n<=1000) :
  Calls Tryz.prog 31 #[Us A n cap] w fun e w'=>∃ g,e=.returned (.agg #[Us A n cap,Us (some ⟨g,0,none⟩) n n])/\w.heap.size<=g/\Rd w' w'.heap.size A (zC zs)/\Rd w' w'.heap.size (some ⟨g,0,none⟩) (zC (AE n))/\Below w.heap.size w w':=by
 have hmk:=Gw n (by omega);have hm:=(((Ab9 w).add_rd (i:=0) rfl hr).alloc (.cells #[Us A n cap,Us (some ⟨w.heap.size+1,0,none⟩) n n] 66)).zero n (by omega);simp only [Ace] at hm;have HM:=K1 hm;clear hr hm;go_enter Tryz.func31,Tryz.ntmps31;go_wp2_with fail;have c2:=HM.out.cells 2 rfl;have hz:=AJ (HM.out.own 3 rfl);refine bodyPost_ret (v:=.agg #[Us A n cap,Us (some ⟨w.heap.size+1,0,none⟩) n n]) ?_ rfl ⟨w.heap.size+1,rfl,Nat.le_succ _,HM.out.rd 1 rfl,hz,HM.out.bel 0 rfl⟩;simp [results,Tryz.results31,go_sem,c2]
def nxM (mo:Int) (q:Nat) (ms gs:List Int) (k:Nat):List Int:=(Aci k).map fun i=>wrap64 (mulF mo (ms[i]?.getD 0) q+gs[i]?.getD 0)
def nxP (ra mo:Int) (q:Nat) (ps ms gs:List Int) (k:Nat):List Int:=(Aci k).map fun i=>wrap64 (ps[i]?.getD 0-mulF ra (wrap64 (mulF mo (ms[i]?.getD 0) q+gs[i]?.getD 0)) q)
theorem RX {mo:Int} {q:Nat} {ms gs:List Int} {k:Nat} {x y:Int} (hx:ms[k]?=some x) (hy:gs[k]?=some y):nxM mo q ms gs (k+1)=nxM mo q ms gs k++[wrap64 (mulF mo x q+y)]:=by simp [nxM,Acj,hx,hy]
theorem RY {ra mo:Int} {q:Nat} {ps ms gs:List Int} {k:Nat} {x y z:Int} (hx:ms[k]?=some x) (hy:gs[k]?=some y) (hz:ps[k]?=some z):nxP ra mo q ps ms gs (k+1)=nxP ra mo q ps ms gs k++[wrap64 (z-mulF ra (wrap64 (mulF mo x q+y)) q)]:=by simp [nxP,Acj,hx,hy,hz]
theorem RZ (x:Int):-9223372036854775808<=wrap64 x/\wrap64 x<=9223372036854775807:=by unfold wrap64;omega
theorem Sa (w:World) (ra mo:Int) (q n cp cm cg:Nat) (Ap Am Ag:Option Addr) (ps ms gs:List Int) (hp:Rd w w.heap.size Ap (zC ps)) (hm:Rd w w.heap.size Am (zC ms)) (hg:Rd w w.heap.size Ag (zC gs)) (hl:ps.length=n/\ms.length=n/\gs.length=n) (hi:In64 ps/\In64 ms/\In64 gs) (hn:n<=1000)
  (hq:q<=62) (hra:-9223372036854775808<=ra/\ra<=9223372036854775807) (hmo:-9223372036854775808<=mo/\mo<=9223372036854775807) :
  Calls Tryz.prog 35 #[.agg #[U O ra,U O mo,U O q],.agg #[Us Ap n cp,Us Am n cm],Us Ag n cg] w fun e w'=>∃ AP cP AM cM,e=.returned (.tuple #[.agg #[Us AP n cP,Us AM n cM],.bool true])/\n<=cP/\n<=cM /\
   Mem w' [.bel w.heap.size w,vOwn w.heap.size n cP AP (nxP ra mo q ps ms gs n),vOwn w.heap.size n cM AM (nxM mo q ms gs n)]:=by
 have C1:=K1 (fun W x (hx:-9223372036854775808<=x/\x<=9223372036854775807)=>Ge W mo x q hq hmo hx);have C2:=K1 (fun W x (hx:-9223372036854775808<=x/\x<=9223372036854775807)=>Ge W ra x q hq hra hx);have hm0:=(((((((Ab9 w).add_rd (i:=0) rfl hp).add_rd (i:=0) rfl hm).add_rd (i:=0) rfl hg).alloc (.cells #[U O ra,U O mo,U O q] 111)).alloc (.cells #[Us Ap n cp,Us Am n cm] 66)).alloc (.cells #[Us none 0 0,Us none 0 0] 66)).alloc (.cells #[Us none 0 0,Us none 0 0] 66);simp only [Ace] at hm0
 have hm1:=(hm0.add (c:=.own w.heap.size 2 1 (Us none 0 0) 0 (zC [])) ⟨Bh _ _ _ _,(hm0.bel 0 rfl).size⟩ (fun _ _ _ _ g hg=>by cases hg)).add (c:=.own w.heap.size 2 1 (Us none 0 0) 0 (zC [])) ⟨Bh _ _ _ _,(hm0.bel 0 rfl).size⟩ (fun _ _ _ _ g hg=>by cases hg);have HM:=K1 hm1;have HI:=K1 hi;have HLN:=K1 hl
 obtain ⟨nMs,hnM⟩:∃ f:Nat->List Int,f=nxM mo q ms gs:=⟨_,rfl⟩
 obtain ⟨nPs,hnP⟩:∃ f:Nat->List Int,f=nxP ra mo q ps ms gs:=⟨_,rfl⟩
 have HM1:=K1 (show ∀ k x y,ms[k]?=some x->gs[k]?=some y->nMs (k+1)=nMs k++[wrap64 (mulF mo x q+y)] by intro k x y hx hy;rw [hnM];exact RX hx hy);have HP1:=K1 (show ∀ k x y z,ms[k]?=some x->gs[k]?=some y->ps[k]?=some z->nPs (k+1)=nPs k++[wrap64 (z-mulF ra (wrap64 (mulF mo x q+y)) q)] by intro k x y z hx hy hz;rw [hnP];exact RY hx hy hz);have H0:=K1 (show nMs 0=[]/\nPs 0=[] by rw [hnM,hnP];exact ⟨rfl,rfl⟩);rw [<- hnM,<- hnP];clear hm0 hm1 hp hm hg hl hi hnM hnP;go_enter Tryz.func35,Tryz.ntmps35;have c5:=HM.out.cells 5 rfl;go_wp2_with fail;clear c5;generalize hg0:w.heap.size=g0 at *
 have HG0:=K1 hg0;clear hg0
 go_loopw [9] (fun s9 wr=>∃ (k:Nat) (AP:Option Addr) (cP:Nat) (AM:Option Addr) (cM:Nat),k<=n/\s9=U O k/\Hid (Mem wr [.bel g0 w,.rd Ap (zC ps),.rd Am (zC ms),.rd Ag (zC gs),.obj g0 (.cells #[U O ra,U O mo,U O q] 111 (0,0)),.obj (g0+1) (.cells #[Us Ap n cp,Us Am n cm] 66 (0,0)),.obj (g0+1+1) (.cells #[Us none 0 0,Us none 0 0] 66 (0,0)),.obj (g0+1+1+1) (.cells #[Us AP k cP,Us AM k cM] 66 (0,0)),.own g0 2 1 (Us AP k cP) k (zC (nPs k)),.own g0 2 1 (Us AM k cM) k (zC (nMs k))])) (fun s9 _=>n-(intOf s9).toNat)
 case atStart=>exact ⟨0,none,0,none,0,Acf _,rfl,K1 (by rw [H0.out.1,H0.out.2];exact HM.out)⟩
 case round =>
  clear HM;obtain ⟨k,AP,cP,AM,cM,hk,rfl,HM⟩:=hrel
  by_cases hlt:k<n
  . obtain ⟨x,hx⟩:=Au ms k (by have:=HLN.out;omega);obtain ⟨y,hy⟩:=Au gs k (by have:=HLN.out;omega);obtain ⟨z,hz⟩:=Au ps k (by have:=HLN.out;omega);have hxb:=HI.out.2.1 x (Xac hx)
    obtain ⟨m,hm⟩:∃ m,m=mulF mo x q:=⟨_,rfl⟩
    obtain ⟨mm,hmm⟩:∃ mm,mm=wrap64 (m+y):=⟨_,rfl⟩
    obtain ⟨rr,hrr⟩:∃ rr,rr=mulF ra mm q:=⟨_,rfl⟩
    obtain ⟨pp,hpp⟩:∃ pp,pp=wrap64 (z-rr):=⟨_,rfl⟩
    have hmb:-9223372036854775808<=mm/\mm<=9223372036854775807:=by rw [hmm];exact RZ _
    have D1:=K1 (fun W=>C1.out W x hxb);have D2:=K1 (fun W=>C2.out W mm hmb);rw [<- hm] at D1;rw [<- hrr] at D2;have E1:=K1 (show nMs (k+1)=nMs k++[mm] by rw [HM1.out k x y hx hy,<- hm,<- hmm]);have E2:=K1 (show nPs (k+1)=nPs k++[pp] by rw [HP1.out k x y z hx hy hz,<- hm,<- hmm,<- hrr,<- hpp]);have hw1:wrap64 (m+y)=mm:=hmm.symm;have hw2:wrap64 (z-rr)=pp:=hpp.symm;have hw3:IntKind.i64.wrap (m+y)=mm:=by rw [hmm,IntKind.wrap_i64];unfold wrap64;omega
    have hw4:IntKind.i64.wrap (z-rr)=pp:=by rw [hpp,IntKind.wrap_i64];unfold wrap64;omega
    obtain ⟨bm,om,rfl⟩:=HM.out.rdA 2 rfl (by have:=HLN.out;simp;omega);obtain ⟨bg,og,rfl⟩:=HM.out.rdA 3 rfl (by have:=HLN.out;simp;omega);obtain ⟨bp,op,rfl⟩:=HM.out.rdA 1 rfl (by have:=HLN.out;simp;omega);have GM:=K1 (show (zC ms)[k]?=some (U O x) by simp [hx]);have GG:=K1 (show (zC gs)[k]?=some (U O y) by simp [hy]);have GP:=K1 (show (zC ps)[k]?=some (U O z) by simp [hz]);clear hx hy hz hm hmm hrr hpp hxb;go_wp2_with fail;refine A9 fun W0 hW=>?_;replace HM:=K1 (hW.out.symm ▸ HM.out);clear hW
    refine AC (.reads [0,1,2,3,4,5,6,7,8,10,11,12,13] (.eff 9 (.reads [14,15] (.fin)))) 16 (fun W'=>(∀ j,W'.cell? ⟨g0,j,none⟩=([U O ra,U O mo,U O q]:List Value)[j]?)/\(∀ j,W'.cell? ⟨g0+1,j,none⟩=([Us (some ⟨bp,op,none⟩) n cp,Us (some ⟨bm,om,none⟩) n cm]:List Value)[j]?)/\W'.cell? ⟨bm,om+k,none⟩=some (U O x)/\W'.cell? ⟨bg,og+k,none⟩=some (U O y)) ?_;replace HM:=K1 HM.out.drew;generalize W0.drew=V at *;refine Aca ⟨HM.out.cells 4 rfl,HM.out.cells 5 rfl,HM.out.rdAt 2 rfl GM.out,HM.out.rdAt 3 rfl GG.out⟩ ?_;refine Ab8 ?_;go_wp2_with fail;refine (D1.out _).mono ?_;rintro e w2 ⟨rfl,rfl⟩;clear D1
    go_wp2_with fail;refine Acb ⟨HM.out.cells 4 rfl,HM.out.cells 5 rfl,HM.out.rdAt 2 rfl GM.out,HM.out.rdAt 3 rfl GG.out⟩ ?_;refine Acg ⟨HM.out.cells 4 rfl,HM.out.cells 5 rfl,HM.out.rdAt 2 rfl GM.out,HM.out.rdAt 3 rfl GG.out⟩ ?_;refine Acd ?_;have c7:=HM.out.cells 7 rfl;have HM3:=K1 (HM.out.alloc (.cells #[U O mm] 2))
    go_wp2_with (at_builtin;refine AQ (n:=k) rfl _ _ 26 rfl HM3.out 9 DQ rfl rfl _ 1 _ [U O mm] rfl (HM3.out.box 10 rfl) rfl (by intro u hu;simp at hu;subst hu;rfl) (by omega) ?_;intro AM' cM' W4 hM4;clear c7;have HM5:=K1 (show Mem W4 [.bel g0 w,.rd (some ⟨bp,op,none⟩) (zC ps),.rd (some ⟨bm,om,none⟩) (zC ms),.rd (some ⟨bg,og,none⟩) (zC gs),.obj g0 (.cells #[U O ra,U O mo,U O q] 111 (0,0)),.obj (g0+1) (.cells #[Us (some ⟨bp,op,none⟩) n cp,Us (some ⟨bm,om,none⟩) n cm] 66 (0,0)),.obj (g0+1+1) (.cells #[Us none 0 0,Us none 0 0] 66 (0,0)),.obj (g0+1+1+1) (.cells #[Us AP k cP,Us AM k cM] 66 (0,0)),.own g0 2 1 (Us AP k cP) k (zC (nPs k)),.own g0 2 1 (Us AM' (k+1) cM') (k+1) (zC (nMs k)++[U O mm])] from hM4.front 10);clear hM4;have c7:=HM5.out.cells 7 rfl;have f7:=fun j=>HM5.out.frozen 7 j rfl)
    have HM6:=K1 (HM5.out.set (i:=7) (j:=1) rfl (Us AM' (k+1) cM'));clear HM3 HM c7 f7 HM5;have HM:=K1 HM6.out;clear HM6;refine A9 fun W0 hW=>?_;replace HM:=K1 (hW.out.symm ▸ HM.out);clear hW
    refine AC (.reads [0,1,2,3,4,5,6,7,8,9,10,11] (.eff 12 (.reads [13] (.eff 14 (.eff 15 (.reads [16] (.eff 17 (.fin)))))))) 17 (fun W'=>(∀ j,W'.cell? ⟨g0+1+1+1,j,none⟩=([Us AP k cP,Us AM' (k+1) cM']:List Value)[j]?)/\(∀ j,W'.cell? ⟨g0,j,none⟩=([U O ra,U O mo,U O q]:List Value)[j]?)/\(∀ j,W'.cell? ⟨g0+1,j,none⟩=([Us (some ⟨bp,op,none⟩) n cp,Us (some ⟨bm,om,none⟩) n cm]:List Value)[j]?)/\W'.cell? ⟨bp,op+k,none⟩=some (U O z)) ?_;replace HM:=K1 HM.out.drew;generalize W0.drew=V at *;refine Aca ⟨HM.out.cells 7 rfl,HM.out.cells 4 rfl,HM.out.cells 5 rfl,HM.out.rdAt 1 rfl GP.out⟩ ?_;refine Ab8 ?_
    go_wp2_with fail;refine (D2.out _).mono ?_;rintro e w5 ⟨rfl,rfl⟩;clear D2;go_wp2_with fail;refine Acb ⟨HM.out.cells 7 rfl,HM.out.cells 4 rfl,HM.out.cells 5 rfl,HM.out.rdAt 1 rfl GP.out⟩ ?_;refine Acg ⟨HM.out.cells 7 rfl,HM.out.cells 4 rfl,HM.out.cells 5 rfl,HM.out.rdAt 1 rfl GP.out⟩ ?_;refine Ab8 ?_;go_wp2_with fail;refine AH fun W7 hW=>?_;replace HM:=K1 (HM.out.alloc_ hW.out);clear hW;refine Acb ⟨HM.out.cells 7 rfl,HM.out.cells 4 rfl,HM.out.cells 5 rfl,HM.out.rdAt 1 rfl GP.out⟩ ?_;refine Ab8 ?_
    refine AQ (n:=k) rfl _ _ 26 rfl HM.out 8 DQ rfl rfl _ 1 _ [U O pp] rfl (HM.out.box 10 rfl) rfl (by intro u hu;simp at hu;subst hu;rfl) (by omega) ?_;intro AP' cP' W8 hM8;replace HM:=K1 (hM8.front 10);clear hM8;go_wp2_with fail;refine Acb ⟨HM.out.cells 7 rfl,HM.out.cells 4 rfl,HM.out.cells 5 rfl,HM.out.rdAt 1 rfl GP.out⟩ ?_;refine Acg ⟨HM.out.cells 7 rfl,HM.out.cells 4 rfl,HM.out.cells 5 rfl,HM.out.rdAt 1 rfl GP.out⟩ ?_;refine Ab8 ?_;have c7:=HM.out.cells 7 rfl;have f7:=fun j=>HM.out.frozen 7 j rfl
    have HM6:=K1 (HM.out.set (i:=7) (j:=0) rfl (Us AP' (k+1) cP'));go_wp2_with fail;refine After.last (by decide) ?_;refine Acd ?_;go_wp2_with fail;clear c7 f7;go_roundw
    case rel =>
     refine ⟨k+1,AP',cP',AM',cM',by omega,by go_num,K1 ?_⟩;rw [E1.out,E2.out,show zC (nPs k++[pp])=zC (nPs k)++[U O pp] by simp,show zC (nMs k++[mm])=zC (nMs k)++[U O mm] by simp];exact HM6.out
    case measure=>simp [intOf];omega
  . have hkn:k=n:=by omega
    subst hkn;have c7:=HM.out.cells 7 rfl;have c6:=HM.out.cells 6 rfl;have f6:=fun j=>HM.out.frozen 6 j rfl
    have HF:=K1 (HM.out.set2 (i:=6) rfl (Us AP k cP) (Us AM k cM));go_wp2_with fail;clear c7 c6 f6;have c6:=HF.out.cells 6 rfl;have hpk:=HF.out.pick [0,8,9] [.bel g0 w,vOwn g0 k cP AP (nPs k),vOwn g0 k cM AM (nMs k)] rfl (by decide);rw [HG0.out];refine bodyPost_ret (v:=.tuple #[.agg #[Us AP k cP,Us AM k cM],.bool true]) ?_ rfl ⟨AP,cP,AM,cM,rfl,Be (hpk.own 1 rfl),Be (hpk.own 2 rfl),hpk⟩;simp [results,Tryz.results35,go_sem,c6]
theorem Ii (w:World) (e:TypeId) (k:Nat):(w.alloc (.cells #[] e)).ownsRow w.heap.size e k (Us (some ⟨w.heap.size,0,none⟩) 0 0) 0 [] :=
 ⟨by simp,.inr ⟨w.heap.size,0,#[],rfl,Ack _,heap_alloc_new w _,Ack _,by simp [maxLen],by simp,by simp⟩⟩
theorem Jy (w:World) (A:Option Addr) (n cap:Nat) (zs:List Int) (hr:Rd w w.heap.size A (zC zs)) (hn:zs.length=n) (hl:n<=100000) :
  Calls Tryz.prog 151 #[Us A n cap] w fun e w'=>∃ A' c',e=.returned (Us A' n c')/\n<=c'/\Mem w' [.bel w.heap.size w,vOwn w.heap.size n c' A' zs]:=by
 have hm:=((Ab9 w).add_rd (i:=0) rfl hr).push_own ((Below.refl _ _).alloc (Ack _) (.cells #[] 2)) (Ii w 2 1) rfl;have HM:=K1 hm;have HR:=K1 (hm.rd 1 rfl);have HN:=K1 hn;clear hm hr hn;go_enter Tryz.func151,Tryz.ntmps151
 go_wp2_with (at_builtin;refine AQ (n:=0) rfl _ _ 26 rfl HM.out 2 DQ rfl rfl A n cap (zC zs) rfl HR.out (by simp [HN.out]) (Ek _) (by omega) ?_;intro A' c' W4 hM4)
 have HM5:=K1 hM4;clear hM4;go_wp2_with fail;go_ret;have hf:=HM5.out.pick [0,2] [.bel w.heap.size w,vOwn w.heap.size n c' A' zs] (by simp [vOwn]) (by decide);exact ⟨A',c',by simp,Be (hf.own 1 rfl),hf⟩
theorem Sb (w:World) (Ad:Option Addr) (cd at_ n d:Nat) (ds:List Nat) (hr:Rd w w.heap.size Ad (Bq ds)) (hd:ds[at_]?=some d) (hn:1<=n/\n<=1000000) (hl:ds.length<=1000000000) :
  Calls Tryz.prog 144 #[.agg #[Us Ad ds.length cd,U O at_],U O n] w fun e w'=>e=.returned (.tuple #[.agg #[Us Ad ds.length cd,U O (at_+1:Nat)],U O (d % n:Nat),.bool true])/\Below w.heap.size w w':=by
 have hm:=(((Ab9 w).add_rd (i:=0) rfl hr).alloc (.cells #[Us Ad ds.length cd,U O at_] 221)).alloc (.cells #[Us none 0 0,U O 0] 221);simp only [Ace] at hm;have HM:=K1 hm;have hm2:=(((Ab9 w).add_rd (i:=0) rfl hr).alloc (.cells #[Us Ad ds.length cd,U O (at_+1:Nat)] 221)).alloc (.cells #[Us none 0 0,U O 0] 221);simp only [Ace] at hm2;have HM2:=K1 hm2;have hat:at_<ds.length:=(List.getElem?_eq_some_iff.1 hd).1;have hu:(Bq ds)[at_]?=some (.int .u64 d):=by simp [Bq,hd]
 obtain ⟨b,o,rfl⟩:=HM.out.rdA 1 rfl (by simp [Bq];omega);have q1:=K1 (fun W L (h:Mem W L) (hi:L[1]?=some (.rd (some ⟨b,o,none⟩) (Bq ds)))=>h.rdAt 1 hi hu)
 obtain ⟨nl,hnl⟩:∃ nl,nl=ds.length:=⟨_,rfl⟩
 rw [<- hnl] at HM HM2 hat hl ⊢
 obtain ⟨a1,ha1⟩:∃ a1,a1=at_+1:=⟨_,rfl⟩
 rw [<- ha1] at HM2 ⊢;have e1:(at_:Int)+1=(a1:Int):=by omega
 obtain ⟨r,hr1⟩:∃ r,r=d % n:=⟨_,rfl⟩
 rw [<- hr1];have hrn:r<n:=by rw [hr1];exact Nat.mod_lt _ (by omega)
 have e2:(d:Int).tmod (n:Int)=(r:Int):=by rw [hr1];exact (Int.ofNat_tmod _ _).symm
 have e3:(d:Int) % (n:Int)=(r:Int):=by rw [hr1];exact (Int.natCast_emod _ _).symm
 have hn0:¬ n=0:=by omega
 have hnw:IntKind.u64.wrap (n:Int)=(n:Int):=by rw [B9];omega
 have hrw:IntKind.i64.wrap (r:Int)=(r:Int):=Ach _ (by omega);have ha2:a1<=1000000001:=by omega
 clear hm hm2 hr hu hd hnl ha1 hr1;go_enter Tryz.func144,Tryz.ntmps144;have c1:=HM.out.cells 2 rfl;have f1:=fun j=>HM.out.frozen 2 j rfl
 have q2:=q1.out _ _ HM.out rfl;go_wp2_with fail;clear c1 f1 q2 HM;have HM:=K1 HM2.out;clear HM2;refine A9 fun W0 hW=>?_;replace HM:=K1 (hW.out.symm ▸ HM.out);clear hW;refine AC (.reads [0,1,2,3,4,5] (.eff 6 (.reads [7,8] (.fin)))) 9 (fun W'=>∀ j,W'.cell? ⟨w.heap.size,j,none⟩=([Us (some ⟨b,o,none⟩) nl cd,U O a1]:List Value)[j]?) ?_;replace HM:=K1 HM.out.drew;generalize W0.drew=V at *;refine Aca (HM.out.cells 2 rfl) ?_;refine Ab8 ?_;have c3:=HM.out.cells 3 rfl;have f3:=fun j=>HM.out.frozen 3 j rfl
 replace HM:=K1 (HM.out.set2 (i:=3) rfl (Us (some ⟨b,o,none⟩) nl cd) (U O a1));go_wp2_with fail;refine Acb (HM.out.cells 2 rfl) ?_;clear c3 f3;refine Acg (HM.out.cells 2 rfl) ?_;refine Acd ?_;have c3:=HM.out.cells 3 rfl;go_wp2_with fail;refine bodyPost_ret (v:=.tuple #[.agg #[Us (some ⟨b,o,none⟩) nl cd,U O a1],U O r,.bool true]) ?_ rfl ⟨rfl,HM.out.bel 0 rfl⟩;simp [results,Tryz.results144,go_sem,c3]
theorem Sc {ds bnds:List Nat} {at_ m k:Nat} (h:k<m):(BT ds bnds at_ m)[k]?.getD 0=(ds[at_+k]?.getD 0) % (bnds[k]?.getD 1):=by simp [BT,h]
theorem Sd {ps:List Nat} {j x v:Nat} (hv:ps[x]?=some v):(Ah (ps.set j v))[x]?=some (U O v):=by
 have hl:=(List.getElem?_eq_some_iff.1 hv).1;unfold Ah;rw [List.getElem?_map,List.getElem?_set]
 split
 . rename_i h
   subst h;rw [if_pos hl];rfl
 . rw [hv];rfl
theorem Se {n m k:Nat} (h:k<m):(bndL n m)[k]?.getD 1=n-k:=by simp [bndL,h]
theorem Sf (w:World) (Ad:Option Addr) (cd at_ n:Nat) (ds:List Nat) (hr:Rd w w.heap.size Ad (Bq ds)) (hn:1<=n/\n<=1000) (hd:at_+(n-1)<=ds.length) (hl:ds.length<=1000000000) :
  Calls Tryz.prog 116 #[U O n,.agg #[Us Ad ds.length cd,U O at_]] w fun e w'=>∃ A c,e=.returned (.tuple #[.agg #[Us Ad ds.length cd,U O (at_+(n-1):Nat)],Us A n c,.bool true])/\n<=c/\Mem w' [.bel w.heap.size w,.own w.heap.size 3 1 (Us A n c) n (Ah (Cd ds at_ n))]:=by
 have CN:=K1 (fun W=>Jf (n:Int) W (by omega) (by omega));have CX:=K1 (fun W a k d (hr:Rd W W.heap.size Ad (Bq ds)) (hd:ds[a]?=some d) (hk:1<=k/\k<=1000000)=>Sb W Ad cd a k d ds hr hd hk hl);have hm:=(((Ab9 w).add_rd (i:=0) rfl hr).alloc (.cells #[Us Ad ds.length cd,U O at_] 221)).alloc (.cells #[Us none 0 0,U O 0] 221);simp only [Ace] at hm;have hm2:=hm.add (c:=.own w.heap.size 3 1 (Us none 0 0) 0 (Ah [])) ⟨Bh _ _ _ _,(hm.bel 0 rfl).size⟩ (fun _ _ _ _ g hg=>by cases hg)
 have HM:=K1 (show Mem _ [.bel w.heap.size w,.rd Ad (Bq ds),.obj w.heap.size (.cells #[Us Ad ds.length cd,U O at_] 221 (0,0)),.obj (w.heap.size+1) (.cells #[Us none 0 0,U O 0] 221 (0,0)),.own w.heap.size 3 1 (Us none 0 0) 0 (Ah [])] from hm2)
 obtain ⟨JS,hJS⟩:∃ JS,JS=BT ds (bndL n (n-1)) at_ (n-1):=⟨_,rfl⟩
 have HJ:=K1 (show ∀ k d,k<n-1->ds[at_+k]?=some d->JS[k]?.getD 0=d % (n-k) by
  intro k d hk hd;rw [hJS,Sc hk,Se hk,hd]
  rfl)
 have HS:=K1 (show Cd ds at_ n=BM n JS (n-1) by rw [hJS];rfl);rw [HS.out]
 obtain ⟨nl,hnl⟩:∃ nl,nl=ds.length:=⟨_,rfl⟩
 rw [<- hnl] at HM CX hd hl ⊢;have HNL:=K1 hnl
 obtain ⟨n1,hn1⟩:∃ n1,n1=n-1:=⟨_,rfl⟩
 rw [<- hn1] at hd HJ ⊢;have e0:(n:Int)-1=(n1:Int):=by omega
 rw [e0] at CN
 obtain ⟨fr,hfr⟩:∃ fr,fr=nl-at_:=⟨_,rfl⟩
 have e5:(nl:Int)-(at_:Int)=(fr:Int):=by omega
 have hfn:n1<=fr:=by omega
 have HN1:=K1 hn1;have hn1b:n1<=999:=by omega
 have hatb:at_<=1000000000:=by omega
 have hfrb:fr<=1000000000:=by omega
 have HAT:=K1 hd;have gd1:decide ((n:Int)<0)=false:=decide_eq_false (by omega);have gd2:decide ((1048576:Int)<(n:Int))=false:=decide_eq_false (by omega);have gd5:decide (fr<n1)=false:=decide_eq_false (by omega);have gd6:¬ fr<n1:=by omega
 have gd3:¬ (n:Int)<0:=by omega
 have gd4:¬ (1048576:Int)<(n:Int):=by omega
 clear hm hm2 hr hJS HS hnl hn1 hfr hd;go_enter Tryz.func116,Tryz.ntmps116;have c1:=HM.out.cells 2 rfl;go_wp2_with fail
 go_quiet ((go_at_call 91;exact Calls.quiet_of_same (L7 (CN.out _))))
 clear c1 CN;replace HM:=K1 (HM.out.drewN nq);go_wp2_with fail;generalize hg0:w.heap.size=g0 at *;have HG0:=K1 hg0;clear hg0
 go_loopw [7,8] (fun s7 s8 wr=>∃ (i:Nat) (A:Option Addr) (c:Nat),i<=n/\s7=Us A i c/\s8=U O i/\Hid (Mem wr [.bel g0 w,.rd Ad (Bq ds),.obj g0 (.cells #[Us Ad nl cd,U O at_] 221 (0,0)),.obj (g0+1) (.cells #[Us none 0 0,U O 0] 221 (0,0)),.own g0 3 1 (Us A i c) i (Ah (Aci i))])) (fun _ s8 _=>n-(intOf s8).toNat)
 case atStart=>exact ⟨0,none,0,Acf _,rfl,rfl,HM⟩
 case round =>
  clear HM;obtain ⟨i,A,c,hi,rfl,rfl,HM⟩:=hrel
  by_cases hlt:i<n
  . have HM3:=K1 (HM.out.alloc (.cells #[U O i] 3))
    go_wp2_with (at_builtin;refine AQ (n:=i) rfl _ _ 22 rfl HM3.out 4 EC rfl rfl _ 1 _ [U O i] rfl (HM3.out.box 5 rfl) rfl (by intro u hu;simp at hu;subst hu;rfl) (by omega) ?_;intro A' c' W4 hM4)
    have HM5:=K1 (hM4.front 5);clear hM4 HM3;go_wp2_with fail;go_roundw
    case rel =>
     have hf:=K1 (show Mem W4 [.bel g0 w,.rd Ad (Bq ds),.obj g0 (.cells #[Us Ad nl cd,U O at_] 221 (0,0)),.obj (g0+1) (.cells #[Us none 0 0,U O 0] 221 (0,0)),.own g0 3 1 (Us A' (i+1) c') (i+1) (Ah (Aci (i+1)))] by rw [Acj,Ah,List.map_append];exact HM5.out)
     first
      | exact ⟨i+1,A',c',by omega,rfl,by go_num,hf⟩
      | exact ⟨i+1,by omega,A',c',⟨rfl,rfl,rfl⟩,by omega,hf⟩
    case measure=>simp [intOf];omega
  . have hin:n=i:=by omega
    subst hin;go_wp2_with fail;obtain ⟨gp,rfl⟩:=HM.out.ownA 4 rfl (by omega);clear hlt hi
    go_loopw [9] (fun s9 wr=>∃ (k j a:Nat),k+j=n1/\a=at_+k/\s9=U O j/\Hid (Mem wr [.bel g0 w,.rd Ad (Bq ds),.obj g0 (.cells #[Us Ad nl cd,U O a] 221 (0,0)),.obj (g0+1) (.cells #[Us none 0 0,U O 0] 221 (0,0)),.own g0 3 1 (Us (some ⟨gp,0,none⟩) n c) n (Ah (BM n JS k))])) (fun s9 _=>(intOf s9).toNat)
    case atStart=>exact ⟨0,n1,at_,by omega,rfl,rfl,HM⟩
    case round =>
     clear HM;obtain ⟨k,j,a,hkj,rfl,rfl,HM⟩:=hrel
     obtain ⟨a,ha⟩:∃ a,a=at_+k:=⟨_,rfl⟩
     rw [<- ha] at HM
     by_cases hj:0<j
     . obtain ⟨d,hd⟩:=Au ds a (by have:=HAT.out;have:=HNL.out;omega)
       obtain ⟨j1,hj1⟩:∃ j1,j1=j+1:=⟨_,rfl⟩
       have ej:(j:Int)+1=(j1:Int):=by omega
       obtain ⟨x,hx⟩:∃ x,x=d % j1:=⟨_,rfl⟩
       have HX:=K1 (show JS[k]?.getD 0=x by rw [HJ.out k d (by omega) (by rw [<- ha];exact hd),hx,show n-k=j1 by have:=HN1.out;omega]);have hxl:x<j1:=by rw [hx];exact Nat.mod_lt _ (by omega)
       have CX2:=K1 (fun W (hr:Rd W W.heap.size Ad (Bq ds))=>CX.out W a j1 d hr hd (by omega));rw [<- hx] at CX2
       obtain ⟨a1,ha1⟩:∃ a1,a1=a+1:=⟨_,rfl⟩
       rw [<- ha1] at CX2
       obtain ⟨ps,hps⟩:∃ ps,ps=BM n JS k:=⟨_,rfl⟩
       rw [<- hps] at HM;have hpl:ps.length=n:=by rw [hps,GZ]
       obtain ⟨u,hu⟩:=Au ps j (by have:=HN1.out;omega);obtain ⟨v,hv⟩:=Au ps x (by have:=HN1.out;omega);have HSW:=K1 (show BM n JS (k+1)=(ps.set j v).set x u by rw [BM,<- hps,HX.out,show n-1-k=j by have:=HN1.out;omega,Ej,hu,hv];rfl);have hj1b:j1<=1000:=by omega
       have hab:a1<=2000000000:=by omega
       have hjn:j<n:=by have:=HN1.out;omega
       have hxn:x<n:=by have:=HN1.out;omega
       have HK:=K1 (Acl hkj (Acl ha ha1));have HUV:=K1 (Acl hu hv);have hjp:j1-1=j:=by omega
       clear hd hx hps hu hv ha ha1 hj1;have c1:=HM.out.cells 2 rfl;go_wp2_with fail;refine (CX2.out _ (HM.out.rd 1 rfl)).mono ?_;rintro e w2 ⟨rfl,hb⟩;replace HM:=K1 (HM.out.below hb);clear hb c1 CX2;have HM2:=K1 (HM.out.alloc (.cells #[Us Ad nl cd,U O a1] 221));have c5:=HM2.out.cells 5 rfl;have c2:=HM2.out.cells 2 rfl;have f2:=fun j=>HM2.out.frozen 2 j rfl
       have HM3:=K1 (HM2.out.set2 (i:=2) rfl (Us Ad nl cd) (U O a1));have hc1:=(HM3.out.own 4 rfl).cellAt j (by omega);have hc2:=(HM3.out.own 4 rfl).cellAt x (by omega);rw [show (Ah ps)[j]?=some (U O u) by simp [Ah,HUV.out.1]] at hc1;rw [show (Ah ps)[x]?=some (U O v) by simp [Ah,HUV.out.2]] at hc2;have f0:=HM2.out.ownF 4 rfl;have f3:=HM3.out.ownF 4 rfl;have HM4:=K1 (HM3.out.setOwn (i:=4) (j:=j) rfl (U O v));have f4:=HM4.out.ownF 4 rfl;have hc4:=(HM4.out.own 4 rfl).cellAt x (by omega);rw [<- EI,Sd HUV.out.2] at hc4;have HM5:=K1 (HM4.out.setOwn (i:=4) (j:=x) rfl (U O u));go_wp2_with fail
       clear c5 c2 f2 hc1 hc2 hc4 f0 f3 f4;go_roundw
       case rel =>
        have hf:=HM5.out.front 5;refine ⟨k+1,j-1,a1,by omega,by have:=HK.out;omega,congrArg (Value.int .i64) (by omega),K1 ?_⟩;rw [HSW.out,EI,EI];exact hf
       case measure=>simp [intOf];omega
     . have HA:=K1 ha;clear ha;have hj0:j=0:=by omega
       subst hj0;have hk1:k=n1:=by omega
       subst hk1;have c2:=HM.out.cells 2 rfl;have c3:=HM.out.cells 3 rfl;have f3:=fun j=>HM.out.frozen 3 j rfl
       have HM3:=K1 (HM.out.set2 (i:=3) rfl (Us Ad nl cd) (U O a));go_wp2_with fail;clear c3 f3;have c3:=HM3.out.cells 3 rfl;have hpk:=HM3.out.pick [0,4] [.bel g0 w,.own g0 3 1 (Us (some ⟨gp,0,none⟩) n c) n (Ah (BM n JS k))] rfl (by decide);rw [HG0.out];refine bodyPost_ret (v:=.tuple #[.agg #[Us Ad nl cd,U O a],Us (some ⟨gp,0,none⟩) n c,.bool true]) ?_ rfl ⟨some ⟨gp,0,none⟩,c,by rw [HA.out];simp,Be (hpk.own 1 rfl),hpk⟩;simp [results,Tryz.results116,go_sem,c3]
def D6 (ls:List Ly) (n:Nat):Nat->List Int
 | 0=>AE n
 | m+1=>Bn 0 ((ls[m]?.map Ly.v).getD []) (D6 ls n m) n
theorem Mt (ls:List Ly) (n:Nat):∀ m,(D6 ls n m).length=n
 | 0=>by simp [D6]
 | m+1=>by rw [D6,D4,Mt ls n m]
theorem Rd.at_cell {w:World} {B b off j:Nat} {vs:List Value} {u:Value} (h:Rd w B (some ⟨b,off,none⟩) vs) (hu:vs[j]?=some u):w.cell? ⟨b,off+j,none⟩=some u:=by
 obtain ⟨b',off',e,_,hc⟩:=h (by have:=(List.getElem?_eq_some_iff.1 hu).1;omega);injection e with e
 injection e with e1 e2
 subst e1;subst e2;exact hc j u hu
theorem Mem.fam_add {w:World} {L:List Ch} {l:List (Option Addr × List Value)} (h:Mem w L) (h0:L[0]?=some (.bel w.heap.size w)) (hf:∀ a∈l,Rd w w.heap.size a.1 a.2):Mem w (L++[AD l]) :=
 h.more h0 (fun h=>h) (Da hf) (fun h=>h) (by
  rintro g ⟨a,ha,h0,p,hp,rfl⟩;obtain ⟨b,off,e,hb,_⟩:=hf a ha h0;rw [hp] at e;injection e with e
  subst e
  exact hb)
theorem Sh (w:World) (A:Option Addr) (m cap n:Nat) (ls:List Ly) (hr:Rd w w.heap.size A (AK ls)) (hf:∀ a∈AO ls,Rd w w.heap.size a.1 a.2) (hm:ls.length=m) (hm1:1<=m/\m<=1000) (hn:∀ l∈ls,l.v.length=n) (hn1:n<=1000) :
  Calls Tryz.prog 71 #[Us A m cap] w fun e w'=>∃ g,e=.returned (.tuple #[Us (some ⟨g,0,none⟩) n n,.bool true])/\Mem w' [.bel w.heap.size w,vOwn w.heap.size n n (some ⟨g,0,none⟩) (D6 ls n m)]:=by
 have hmk:=Gw n (by omega);have h0:=((Ab9 w).add_rd (i:=0) rfl hr).fam_add rfl hf;have h1:=h0.zero n (by omega);have HM0:=K1 h0;have HM:=K1 h1;have HL:=K1 hm;have HN:=K1 hn;have HAT:=K1 (show ∀ (i:Nat) (l:Ly),ls[i]?=some l->(AK ls)[i]?=some (Us l.A n l.c) by intro i l h;have:=hn l (Xac h);simp [AK,h,this]);have HFA:=K1 (show ∀ (i:Nat) (l:Ly),ls[i]?=some l->(AO ls)[i]?=some (l.A,zC l.v) by intro i l h;simp [AO,h]);obtain ⟨l0,hl0⟩:=Au ls 0 (by omega);obtain ⟨b,o,rfl⟩:=HM.out.rdA 1 rfl (by simp [AK];omega)
 have HS1:=K1 (show ∀ (i:Nat) (l:Ly),ls[i]?=some l->D6 ls n (i+1)=Bn 0 l.v (D6 ls n i) n by intro i l h;rw [D6,h];rfl);have q0:=HM0.out.rdAt 1 rfl (HAT.out 0 l0 hl0);rw [Nat.add_zero] at q0;have gm:((m:Int) == 0)=false:=beq_eq_false_iff_ne.2 (by omega);clear h0 h1 hr hf hm hn HM0 hl0;go_enter Tryz.func71,Tryz.ntmps71;go_wp2_with fail;clear q0;generalize hg0:w.heap.size=g0 at *;have HG0:=K1 hg0;clear hg0
 go_loopw [5] (fun s5 wr=>∃ (i:Nat),i<=m/\s5=U O i/\Hid (Mem wr [.bel g0 w,.rd (some ⟨b,o,none⟩) (AK ls),AD (AO ls),.own g0 2 1 (Us (some ⟨g0,0,none⟩) n n) n (zC (D6 ls n i))])) (fun s5 _=>m-(intOf s5).toNat)
 case atStart=>exact ⟨0,Acf _,rfl,HM⟩
 case round =>
  clear HM;obtain ⟨i,hi,rfl,HM⟩:=hrel
  by_cases hlt:i<m
  . obtain ⟨l,hl⟩:=Au ls i (by have:=HL.out;omega);have HV:=K1 (HN.out l (Xac hl));have q1:=HM.out.rdAt 1 rfl (HAT.out i l hl);have HA:=K1 (HAT.out i l hl);have HF:=K1 (HFA.out i l hl);have HS:=K1 (HS1.out i l hl);have HSL:=K1 (Mt ls n i);clear hl;obtain ⟨vA,vc,v⟩:=l;dsimp only at *;go_wp2_with fail;clear q1;generalize D6 ls n i=s at *
    go_loopw [6] (fun s6 wr=>∃ (k:Nat),k<=n/\s6=U O k/\Hid (Mem wr [.bel g0 w,.rd (some ⟨b,o,none⟩) (AK ls),AD (AO ls),.own g0 2 1 (Us (some ⟨g0,0,none⟩) n n) n (zC (Bn 0 v s k))])) (fun s6 _=>n-(intOf s6).toNat)
    case atStart=>exact ⟨0,Acf _,rfl,HM⟩
    case round =>
     clear HM;obtain ⟨k,hk,rfl,HM⟩:=hrel
     by_cases hlk:k<n
     . obtain ⟨y,hy⟩:=Au v k (by have:=HV.out;omega);obtain ⟨x,hx⟩:=Au (Bn 0 v s k) k (by rw [D4];have:=HSL.out;omega)
       obtain ⟨z,hz⟩:∃ z,z=wrap64 (x+y):=⟨_,rfl⟩
       have hw1:wrap64 (x+y)=z:=hz.symm;have hw2:IntKind.i64.wrap (x+y)=z:=by rw [hz,IntKind.wrap_i64];unfold wrap64;omega
       have HE:=K1 (show zC (Bn 0 v s (k+1))=(zC (Bn 0 v s k)).set k (U O z) by rw [Bn,Dn,Nat.zero_add,hx,hy,hz];rfl);have QX:=K1 (fun W (h:Mem W [.bel g0 w,.rd (some ⟨b,o,none⟩) (AK ls),AD (AO ls),.own g0 2 1 (Us (some ⟨g0,0,none⟩) n n) n (zC (Bn 0 v s k))])=>((h.own 3 rfl).cellAt k (by omega)).trans (Bk hx));have hrd:=HM.out.st 2 rfl (vA,zC v) (Xac HF.out);obtain ⟨bv,ov,rfl,_,_⟩:=hrd (by simp;have:=HV.out;omega)
       have QY:=K1 (fun W (h:Mem W [.bel g0 w,.rd (some ⟨b,o,none⟩) (AK ls),AD (AO ls),.own g0 2 1 (Us (some ⟨g0,0,none⟩) n n) n (zC (Bn 0 v s k))])=>(h.st 2 rfl (some ⟨bv,ov,none⟩,zC v) (Xac HF.out)).at_cell (Bk hy));clear hx hy hz;go_wp2_with fail;refine A9 fun W0 hW=>?_;replace HM:=K1 (hW.out.symm ▸ HM.out);clear hW;refine AC (.reads [0,1,2,3,4,5,6,7,8,9,10,11,12,13,14] (.eff 15 (.fin))) 15 (fun W'=>W'.cell? ⟨g0,k,none⟩=some (U O x)/\W'.cell? ⟨b,o+i,none⟩=some (Us (some ⟨bv,ov,none⟩) n vc)/\W'.cell? ⟨bv,ov+k,none⟩=some (U O y)) ?_;replace HM:=K1 HM.out.drew;generalize W0.drew=V at *
       refine Aca ⟨QX.out _ HM.out,HM.out.rdAt 1 rfl HA.out,QY.out _ HM.out⟩ ?_;refine Ab8 ?_;have qx:=QX.out _ HM.out;have kf:=HM.out.ownF 3 rfl;have hm2:=HM.out.setOwn (i:=3) (j:=k) rfl (U O z);have HM2:=K1 (show Mem _ [.bel g0 w,.rd (some ⟨b,o,none⟩) (AK ls),AD (AO ls),.own g0 2 1 (Us (some ⟨g0,0,none⟩) n n) n (zC (Bn 0 v s (k+1)))] by rw [HE.out];exact hm2);clear hm2;go_wp2_with fail;refine After.last (by decide) ?_;refine Acd ?_;clear qx kf;go_wp2_with fail;go_roundw
       case rel=>exact ⟨k+1,by omega,by go_num,HM2⟩
       case measure=>simp [intOf];omega
     . have hkn:n=k:=by omega
       subst hkn;go_wp2_with fail;go_roundw
       case rel=>exact ⟨i+1,by omega,by go_num,K1 (by rw [HS.out];exact HM.out)⟩
       case measure=>simp [intOf];omega
  . have hin:m=i:=by omega
    subst hin;go_wp2_with fail
    go_ret2
    rw [HG0.out];exact ⟨g0,rfl,HM.out.pick [0,3] [.bel g0 w,vOwn g0 n n (some ⟨g0,0,none⟩) (D6 ls n m)] rfl (by decide)⟩
structure RNet (W:World) (ns:List Nat) (ps:List Int) (m P cs cp q:Nat) (As Ap:Option Addr):Prop where
 ok:NsOk ns
 len:ns.length=m
 cap:m<=cs
 sz:Rd W W.heap.size As (zC (AX ns))
 pr:Rd W W.heap.size Ap (zC ps)
 pl:ps.length=P
 fit:offN ns (m-1)=P
 sh:q<=62
 bd:In64 ps
theorem RNet.below {W W':World} {ns:List Nat} {ps:List Int} {m P cs cp q:Nat} {As Ap:Option Addr} (h:RNet W ns ps m P cs cp q As Ap) (hb:Below W.heap.size W W'):RNet W' ns ps m P cs cp q As Ap :=
 ⟨h.ok,h.len,h.cap,(h.sz.below hb).more hb.size,(h.pr.below hb).more hb.size,h.pl,h.fit,h.sh,h.bd⟩
theorem RNet.few {W:World} {ns:List Nat} {ps:List Int} {m P cs cp q:Nat} {As Ap:Option Addr} (h:RNet W ns ps m P cs cp q As Ap):2<=m/\m<=16/\P<=1000:=by
 have h1:=h.ok.len;have h2:=h.ok.few;have h3:=h.len;have h4:=h.fit;rw [h3] at h1 h2;omega
def wAt (ns:List Nat) (ps:List Int) (k r c:Nat):Int:=ps[offN ns k+r*(ns[k]?.getD 0)+c]?.getD 0
def bAt (ns:List Nat) (ps:List Int) (k r:Nat):Int:=ps[midN ns k+r]?.getD 0
theorem Gx {l:List Int} (h:In64 l) (i:Nat):-9223372036854775808<=l[i]?.getD 0/\l[i]?.getD 0<=9223372036854775807:=by
 rcases hx:l[i]? with _ | x
 . simp
 . exact h x (Xac hx)
theorem Mu {l:List Int} {i:Nat} (h:i<l.length):l[i]?=some (l[i]?.getD 0):=by simp [h]
theorem Mv (w:World) (m P cs cp q:Nat) (As Ap:Option Addr) (ns:List Nat) (ps:List Int) (h:RNet w ns ps m P cs cp q As Ap) (k r c a b:Nat) (hk:k<m-1) (hva:ns[k]?=some a) (hvb:ns[k+1]?=some b) (hr:r<b) (hc:c<a) :
  Calls Tryz.prog 147 #[.agg #[Us As m cs,Us Ap P cp,U O q],U O k,U O r,U O c] w fun e w'=>e=.returned (U O (wAt ns ps k r c))/\Below w.heap.size w w':=by
 have h16:=h.few;obtain ⟨a0,b0,ha,hb,h1a,h1b,e1,e2,h3a,h3b,h4⟩:=h.ok.at_ (k:=k) (by rw [h.len];exact hk);rw [hva] at ha;injection ha with ha
 subst ha;rw [hvb] at hb;injection hb with hb
 subst hb;have hfit:=h.fit;rw [h.len] at h4;have hm0:=(((Ab9 w).add_rd (i:=0) rfl h.sz).add_rd (i:=0) rfl h.pr).alloc (.cells #[Us As m cs,Us Ap P cp,U O q] 178);obtain ⟨bs,os,rfl⟩:=hm0.rdA 1 rfl (by have:=h.len;simp;omega);obtain ⟨bp,op,rfl⟩:=hm0.rdA 2 rfl (by have:=h.pl;simp;omega);have HM:=K1 hm0;have hin:r*a+a<=b*a:=by have:=Nat.mul_le_mul_right a (show r+1<=b by omega);rw [Nat.succ_mul] at this;exact this
 have GP:=K1 (Bk (Mu (l:=ps) (i:=offN ns k+r*a+c) (by rw [h.pl];omega)));have GS:=K1 (Bk (Dp hva));have CW:=K1 (fun W (hw:Below w.heap.size w W)=>LS W _ m cs k ns (h.below hw).sz h.ok h.len h.cap hk);have hwa:wAt ns ps k r c=ps[offN ns k+r*a+c]?.getD 0:=by rw [wAt,hva];rfl
 rw [hwa];generalize ps[offN ns k+r*a+c]?.getD 0=v at *;have hML:offN ns k+r*a+c<P:=by omega
 clear h hm0 hwa hfit e1 e2 h4 h3a h3b h1a h1b;generalize midN ns k=M at *;generalize offN ns k=L at *
 obtain ⟨x,hx⟩:∃ x,r*a=x:=⟨_,rfl⟩
 rw [hx] at hin hML GP
 obtain ⟨y,hy⟩:∃ y,L+x=y:=⟨_,rfl⟩
 rw [hy] at hML GP
 obtain ⟨i,hi⟩:∃ i,y+c=i:=⟨_,rfl⟩
 rw [hi] at hML GP;have m1:IntKind.i64.wrap ((r:Int)*(a:Int))=(x:Int):=by rw [<- Int.natCast_mul,hx];exact Ach _ (by omega)
 have m2:IntKind.i64.wrap ((L:Int)+(x:Int))=(y:Int):=by rw [show (L:Int)+(x:Int)=(y:Int) by omega];exact Ach _ (by omega)
 have m3:IntKind.i64.wrap ((y:Int)+(c:Int))=(i:Int):=by rw [show (y:Int)+(c:Int)=(i:Int) by omega];exact Ach _ (by omega)
 have b1:(0:Int)<=(k:Int)/\(k:Int)<(m:Int):=by omega
 have b2:(0:Int)<=(i:Int)/\(i:Int)<(P:Int):=by omega
 clear hva hvb hr hc hin hx hy hi hk;have hfd:∀ w:World,(Instr.field 72 (.agg #[U O (L:Int),U O (M:Int)]) 0).run Tryz.prog w=.ok (U O (L:Int)) w:=fun _=>by kernel_rfl
 go_enter Tryz.func147,Tryz.ntmps147;go_wp2_with fail;refine A9 fun W0 hW=>?_;replace HM:=K1 (hW.out.symm ▸ HM.out);clear hW;refine AC (.reads [0,1,2,3,4,7,8,9,10,11,12,13,15] (.eff 5 (.reads [6,14,16,17,18,19] (.fin)))) 20 (fun W'=>(∀ j,W'.cell? ⟨w.heap.size,j,none⟩=([Us (some ⟨bs,os,none⟩) m cs,Us (some ⟨bp,op,none⟩) P cp,U O q]:List Value)[j]?)/\W'.cell? ⟨bs,os+k,none⟩=some (U O (a:Int))/\W'.cell? ⟨bp,op+i,none⟩=some (U O v)) ?_;replace HM:=K1 HM.out.drew;generalize W0.drew=V at *;refine Aca ⟨HM.out.cells 3 rfl,HM.out.rdAt 1 rfl GS.out,HM.out.rdAt 2 rfl GP.out⟩ ?_;refine Ab8 ?_
 go_wp2_with fail;refine (CW.out _ (HM.out.bel 0 rfl)).mono ?_;rintro e w2 ⟨rfl,hb2⟩;replace HM:=K1 (HM.out.below hb2);clear hb2 CW;go_wp2_with fail;refine Acb ⟨HM.out.cells 3 rfl,HM.out.rdAt 1 rfl GS.out,HM.out.rdAt 2 rfl GP.out⟩ ?_;refine Aca ⟨HM.out.cells 3 rfl,HM.out.rdAt 1 rfl GS.out,HM.out.rdAt 2 rfl GP.out⟩ ?_;refine Acd ?_;go_wp2_with fail;go_ret;exact ⟨rfl,HM.out.bel 0 rfl⟩
theorem Si (w:World) (m P cs cp q:Nat) (As Ap:Option Addr) (ns:List Nat) (ps:List Int) (h:RNet w ns ps m P cs cp q As Ap) (k r a b:Nat) (hk:k<m-1) (hva:ns[k]?=some a) (hvb:ns[k+1]?=some b) (hr:r<b) :
  Calls Tryz.prog 160 #[.agg #[Us As m cs,Us Ap P cp,U O q],U O k,U O r] w fun e w'=>e=.returned (U O (bAt ns ps k r))/\Below w.heap.size w w':=by
 have h16:=h.few;obtain ⟨a0,b0,ha,hb,h1a,h1b,e1,e2,h3a,h3b,h4⟩:=h.ok.at_ (k:=k) (by rw [h.len];exact hk);rw [hva] at ha;injection ha with ha
 subst ha;rw [hvb] at hb;injection hb with hb
 subst hb;have hfit:=h.fit;rw [h.len] at h4;have hm0:=(((Ab9 w).add_rd (i:=0) rfl h.sz).add_rd (i:=0) rfl h.pr).alloc (.cells #[Us As m cs,Us Ap P cp,U O q] 178);obtain ⟨bs,os,rfl⟩:=hm0.rdA 1 rfl (by have:=h.len;simp;omega);obtain ⟨bp,op,rfl⟩:=hm0.rdA 2 rfl (by have:=h.pl;simp;omega);have HM:=K1 hm0;have GP:=K1 (Bk (Mu (l:=ps) (i:=midN ns k+r) (by rw [h.pl];omega)));have CW:=K1 (fun W (hw:Below w.heap.size w W)=>QU W _ m cs k ns (h.below hw).sz h.ok h.len h.cap hk);have hwa:bAt ns ps k r=ps[midN ns k+r]?.getD 0:=rfl;rw [hwa];generalize ps[midN ns k+r]?.getD 0=v at *
 have hML:midN ns k+r<P:=by omega
 clear h hm0 hwa hfit e1 h4 h3a h3b h1a h1b;generalize midN ns k=M at *;generalize offN ns (k+1)=L at *
 obtain ⟨i,hi⟩:∃ i,M+r=i:=⟨_,rfl⟩
 rw [hi] at hML GP;have m3:IntKind.i64.wrap ((M:Int)+(r:Int))=(i:Int):=by rw [show (M:Int)+(r:Int)=(i:Int) by omega];exact Ach _ (by omega)
 have b2:(0:Int)<=(i:Int)/\(i:Int)<(P:Int):=by omega
 clear hva hvb hr hi hk e2;have hfd:∀ w:World,(Instr.field 72 (.agg #[U O (M:Int),U O (L:Int)]) 0).run Tryz.prog w=.ok (U O (M:Int)) w:=fun _=>by kernel_rfl
 go_enter Tryz.func160,Tryz.ntmps160;go_wp2_with fail;refine A9 fun W0 hW=>?_;replace HM:=K1 (hW.out.symm ▸ HM.out);clear hW;refine AC (.reads [0,1,2,3,4,7] (.eff 5 (.reads [6,8,9,10,11] (.fin)))) 12 (fun W'=>(∀ j,W'.cell? ⟨w.heap.size,j,none⟩=([Us (some ⟨bs,os,none⟩) m cs,Us (some ⟨bp,op,none⟩) P cp,U O q]:List Value)[j]?)/\W'.cell? ⟨bp,op+i,none⟩=some (U O v)) ?_;replace HM:=K1 HM.out.drew;generalize W0.drew=V at *;refine Aca ⟨HM.out.cells 3 rfl,HM.out.rdAt 2 rfl GP.out⟩ ?_;refine Ab8 ?_;go_wp2_with fail;refine (CW.out _ (HM.out.bel 0 rfl)).mono ?_;rintro e w2 ⟨rfl,hb2⟩
 replace HM:=K1 (HM.out.below hb2);clear hb2 CW;go_wp2_with fail;refine Acb ⟨HM.out.cells 3 rfl,HM.out.rdAt 2 rfl GP.out⟩ ?_;refine Aca ⟨HM.out.cells 3 rfl,HM.out.rdAt 2 rfl GP.out⟩ ?_;refine Acd ?_;go_wp2_with fail;go_ret;exact ⟨rfl,HM.out.bel 0 rfl⟩
def Cq (ns:List Nat) (ps:List Int) (q k r:Nat) (vs:List Int):Nat->Int
 | 0=>bAt ns ps k r
 | c+1=>wrap64 (Cq ns ps q k r vs c+mulF (wAt ns ps k r c) (vs[c]?.getD 0) q)
theorem Sj (w:World) (m P cs cp q:Nat) (As Ap:Option Addr) (ns:List Nat) (ps:List Int) (h:RNet w ns ps m P cs cp q As Ap) (k r a b cv:Nat) (A:Option Addr) (vs:List Int) (hk:k<m-1) (hva:ns[k]?=some a) (hvb:ns[k+1]?=some b) (hr:r<b) (hv:Rd w w.heap.size A (zC vs)) (hvl:vs.length=a) (hvi:In64 vs) :
  Calls Tryz.prog 145 #[.agg #[Us As m cs,Us Ap P cp,U O q],U O k,U O r,Us A a cv] w fun e w'=>e=.returned (U O (Cq ns ps q k r vs a))/\Below w.heap.size w w':=by
 have h16:=h.few;obtain ⟨a0,b0,ha,hb,h1a,h1b,e1,e2,h3a,h3b,h4⟩:=h.ok.at_ (k:=k) (by rw [h.len];exact hk);rw [hva] at ha;injection ha with ha
 subst ha;rw [hvb] at hb;injection hb with hb
 subst hb;have HM:=K1 (((((Ab9 w).add_rd (i:=0) rfl h.sz).add_rd (i:=0) rfl h.pr).add_rd (i:=0) rfl hv).alloc (.cells #[Us As m cs,Us Ap P cp,U O q] 178));obtain ⟨bv,ov,rfl⟩:=HM.out.rdA 3 rfl (by simp;omega);have CB:=K1 (fun W (hw:Below w.heap.size w W)=>Si W m P cs cp q As Ap ns ps (h.below hw) k r a b hk hva hvb hr);have CW:=K1 (fun W c (hw:Below w.heap.size w W) (hc:c<a)=>Mv W m P cs cp q As Ap ns ps (h.below hw) k r c a b hk hva hvb hr hc);have HWI:=K1 (fun c=>show -9223372036854775808<=wAt ns ps k r c/\wAt ns ps k r c<=9223372036854775807 from Gx h.bd _)
 have CM:=K1 (fun W x y hx hy=>Ge W x y q h.sh hx hy);have hq:(q:Int)<=62:=by have:=h.sh;omega
 obtain ⟨F,hF⟩:∃ F:Nat->Int,F=Cq ns ps q k r vs:=⟨_,rfl⟩
 rw [<- hF];have H0:=K1 (show bAt ns ps k r=F 0 by rw [hF];rfl);have HS:=K1 (show ∀ c x,vs[c]?=some x->F (c+1)=wrap64 (F c+mulF (wAt ns ps k r c) x q) by intro c x hx;rw [hF,Cq,hx];rfl);have HVL:=K1 hvl;have HVI:=K1 hvi
 obtain ⟨wf,hwf⟩:∃ f:Nat->Int,f=fun c=>wAt ns ps k r c:=⟨_,rfl⟩
 have HWf:=K1 (show ∀ c,wAt ns ps k r c=wf c by intro c;rw [hwf]);clear hF h hvl hvi hv hwf e1 e2 h4 h1a h1b h3b hva hvb hr hk;go_enter Tryz.func145,Tryz.ntmps145;have c4:=HM.out.cells 4 rfl;go_wp2_with fail;clear c4;refine (CB.out _ (HM.out.bel 0 rfl)).mono ?_;rintro e w1 ⟨rfl,hb1⟩;replace HM:=K1 (HM.out.below hb1);clear hb1 CB;rw [H0.out];go_wp2_with fail;generalize hg0:w.heap.size=g0 at *;have HG0:=K1 hg0;clear hg0
 go_loopw [9,10] (fun s9 s10 wr=>∃ (c:Nat),c<=a/\s9=U O (F c)/\s10=U O c/\Hid (Mem wr [.bel g0 w,.rd As (zC (AX ns)),.rd Ap (zC ps),.rd (some ⟨bv,ov,none⟩) (zC vs),.obj g0 (.cells #[Us As m cs,Us Ap P cp,U O q] 178 (0,0))])) (fun _ s10 _=>a-(intOf s10).toNat)
 case atStart=>exact ⟨0,Acf _,rfl,rfl,HM⟩
 case round =>
  clear HM;obtain ⟨c,hc,rfl,rfl,HM⟩:=hrel
  by_cases hlt:c<a
  . obtain ⟨x,hx⟩:=Au vs c (by have:=HVL.out;omega);have hxi:=HVI.out x (Xac hx);have GV:=K1 (Bk hx);have E:=K1 (HS.out c x hx);have hwi:=HWI.out c;have CWc:=K1 (fun W hw=>CW.out W c hw hlt);rw [HWf.out c] at E hwi CWc;have CMc:=K1 (fun W=>CM.out W (wf c) x hwi hxi)
    obtain ⟨p,hp⟩:∃ p,p=mulF (wf c) x q:=⟨_,rfl⟩
    rw [<- hp] at E CMc;clear hp hwi hxi hx
    obtain ⟨z,hz⟩:∃ z,z=wrap64 (F c+p):=⟨_,rfl⟩
    have hz1:wrap64 (F c+p)=z:=hz.symm;have hz2:IntKind.i64.wrap (F c+p)=z:=by rw [hz,IntKind.wrap_i64];unfold wrap64;omega
    rw [hz1] at E;clear hz;have b1:(0:Int)<=(c:Int)/\(c:Int)<(a:Int):=by omega
    generalize wf c=wc at *;go_wp2_with fail;refine A9 fun W0 hW=>?_;replace HM:=K1 (hW.out.symm ▸ HM.out);clear hW;refine AC (.reads [0,1,2,3,4,6,7,8,9,10,11] (.eff 5 (.eff 12 (.reads [13,14] (.fin))))) 15 (fun W'=>(∀ j,W'.cell? ⟨g0,j,none⟩=([Us As m cs,Us Ap P cp,U O q]:List Value)[j]?)/\W'.cell? ⟨bv,ov+c,none⟩=some (U O x)) ?_;replace HM:=K1 HM.out.drew;generalize W0.drew=V at *;refine Aca ⟨HM.out.cells 4 rfl,HM.out.rdAt 3 rfl GV.out⟩ ?_;refine Ab8 ?_;go_wp2_with fail;refine (CWc.out _ (HM.out.bel 0 rfl)).mono ?_;rintro e w2 ⟨rfl,hb2⟩;replace HM:=K1 (HM.out.below hb2);clear hb2 CWc
    go_wp2_with fail;refine Acb ⟨HM.out.cells 4 rfl,HM.out.rdAt 3 rfl GV.out⟩ ?_;refine Ab8 ?_;go_wp2_with fail;refine (CMc.out _).mono ?_;rintro e w3 ⟨rfl,rfl⟩;clear CMc;go_wp2_with fail;refine Acb ⟨HM.out.cells 4 rfl,HM.out.rdAt 3 rfl GV.out⟩ ?_;refine Acg ⟨HM.out.cells 4 rfl,HM.out.rdAt 3 rfl GV.out⟩ ?_;refine Acd ?_;go_wp2_with fail;go_roundw
    case rel=>exact ⟨c+1,by omega,by rw [E.out],by go_num,HM⟩
    case measure=>simp [intOf];omega
  . have hcn:c=a:=by omega
    subst hcn;go_wp2_with fail;go_ret;rw [HG0.out];exact ⟨rfl,HM.out.bel 0 rfl⟩
theorem Mem.setRow {W:World} {L:List Ch} {i g:Nat} {cs:Array Value} {t:TypeId} (h:Mem W L) (hi:L[i]?=some (.obj g (.cells cs t (0,0)))) (cells:Array Value):Mem (W.setRow g cells) (L.set i (.obj g (.cells cells t (0,0)))) :=
 h.upd hi trivial ⟨rfl,rfl,rfl,by simp,fun k _ hn=>setRow_other W g k cells (fun e=>hn e)⟩ (setRow_heap W g cs cells t (0,0) (h.holds i _ hi)) fun _ hg=>.inl hg
section
variable {P:Program} {o:Oper} {a:Act} {w:World} {Q:Exit->Act->World->Prop}
theorem Bt {ops:Array Oper} {rest:List Oper} (hgd:o.guard=none) (ty:TypeId) (x y:Operand) (ho:o.op=.store ty x y) {L:List Ch} (HM:Mem w L) (k:Nat) {g:Nat} {t:TypeId} {old:Array Value}
  (hk:L[k]?=some (.obj g (.cells old t (0,0)))) (cells:Array Value) (hx:a.eval x=.pointer (some ⟨g,0,none⟩)) (hy:a.eval y=.agg cells) (hi:(P.info? ty).map (·.size)=some cells.size) (hold:old.size=cells.size) (h1:cells.toList.all (·.oneCell')=true)
  (h:∀ W',Mem W' (L.set k (.obj g (.cells cells t (0,0))))->wpList P ops Q rest (a.put o.dst undef) W'):wpList P ops Q (o::rest) a w :=
 wpList_store_row hgd ty x y ho g cells hx hy t old (HM.obj k hk) hi hold (by rw [<- Array.all_toList];exact h1) (h _ (HM.setRow hk cells))
end
end
end Go.Proofs.YtdpojpcoghcieaaGreat
