/- A part of the proof of TopTags: RefSeg, RefRing, RefRound, RefJob. Conditions: none. -/
import Derived.Test.YtdpojpcoghcieaaGreatSxBE
import Derived.Test.YtdpojpcoghcieaaGreatSxBF
set_option maxHeartbeats 8000000
set_option linter.all false
namespace Go.Proofs.YtdpojpcoghcieaaGreat
open Lib renaming hid → K1
open Go.RowKit
set_option maxRecDepth 100000
open Value renaming int → U
open IntKind renaming i64 → O
open PlS renaming ef_ → Afk, rd_ → Afm, fin_ → Afn, rc_ → Afo
open After renaming go → Afl
open Mem renaming cast → Afp, start → Afs
open List renaming length_append → Afq, length_singleton → Afr, getElem?_eq_none → Aft, mem_of_getElem? → Afu, append_assoc → Afx, append_nil → Afy, nil_append → Afz
open IntWalk renaming i64_in → Afv
open Bool renaming false_eq_true → Afw
section
theorem Tf (w:World) (lo hi k:Nat) (hlo:lo<=hi) (hhi:hi<=1000) (hk:1<=k/\k<=1000) :
  Calls Tryz.prog 164 #[.agg #[U O lo,U O hi],U O k] w fun e w'=>∃ A c,e=.returned (.slice A k c)/\k<=c/\Mem w' [.bel w.heap.size w,rrO w.heap.size k c A (B4 lo (BN (hi-lo) k))]:=by
 have CB:=K1 (fun W=>MC (hi-lo) k W (by omega) hk)
 have hbl:∀ p∈BN (hi-lo) k,p.1<=100000/\p.2<=100000:=fun p hp=>by
  have:=IM (hi-lo) k hk.1 p hp;omega
 have CS:=K1 (fun W A c hr=>MB W A k c lo (BN (hi-lo) k) hr (Ee _ _) (by omega) (by omega) hbl);have HM:=K1 ((Afs w).alloc (.cells #[U O lo,U O hi] 72))
 obtain ⟨d,hd⟩:∃ d,d=hi-lo:=⟨_,rfl⟩
 rw [<- hd] at CB CS;rw [<- hd];have id_:(hi:Int)-(lo:Int)=(d:Int):=by omega
 have wd:IntKind.i64.wrap (d:Int)=(d:Int):=Afv _ (by omega);clear hd hbl;go_enter Tryz.func164,Tryz.ntmps164;go_wp2_with fail;refine A9 fun W0 hW=>?_;replace HM:=K1 (hW.out.symm ▸ HM.out);clear hW;refine AC (.reads [0,1,2,3,4,5,7,8] (.eff 6 (.eff 9 (.reads [10] (.fin))))) 11 (fun W'=>∀ j,W'.cell? ⟨w.heap.size,j,none⟩=([U O lo,U O hi]:List Value)[j]?) ?_;replace HM:=K1 HM.out.drew;generalize W0.drew=V at *;refine Afm (HM.out.cells 1 rfl) ?_;refine Afk ?_;go_wp2_with fail;refine (CB.out _).mono ?_;rintro e w2 ⟨A1,c1,rfl,hc1,hm2⟩;have hrd:=AJ (hm2.own 1 rfl);have hA1:=AF (hm2.own 1 rfl)
 replace HM:=K1 (HM.out.push_rd (hm2.bel 0 rfl) hrd hA1);clear hm2 hrd hA1 CB;go_wp2_with fail;refine Afl (HM.out.cells 1 rfl) ?_;refine Afk ?_;go_wp2_with fail;refine (CS.out _ _ _ (HM.out.rd 2 rfl)).mono ?_;rintro e w3 ⟨A2,c2,rfl,hc2,hm3⟩;have hg:=(HM.out.bel 0 rfl).size;replace HM:=K1 ((HM.out.push_own (hm3.bel 0 rfl) (hm3.own 1 rfl) rfl).lower (i:=3) rfl hg);clear hm3 CS hg;go_wp2_with fail;refine Afl (HM.out.cells 1 rfl) ?_;refine Afm (HM.out.cells 1 rfl) ?_;refine Afn ?_;go_wp2_with fail;go_ret;exact ⟨A2,c2,rfl,hc2,HM.out.pick [0,3] _ rfl (by decide)⟩
theorem Th:(Tryz.prog.info? 74).map (fun i=>(i.zero,i.size,i.bytes))=some (some (.agg Ac.zero.cells.toArray),9,64):=by kernel_rfl
theorem Ti:(Tryz.prog.info? 76).map (fun i=>(i.zero,i.size,i.bytes))=some (some (.agg (It.cells ⟨0,0,0,Ac.zero⟩).toArray),12,88):=by kernel_rfl
theorem E9:RowT Tryz.prog 242 74 9 64:=by
 obtain ⟨i0,hi,hz0,hz1,hz2⟩:=info_parts Th;exact ⟨i0,_,Tryz.underlying242,hi,hz0,hz1,hz2,rfl,by decide,by decide⟩
theorem MT:RowT Tryz.prog 67 76 12 88:=by
 obtain ⟨i0,hi,hz0,hz1,hz2⟩:=info_parts Ti;exact ⟨i0,_,Tryz.underlying67,hi,hz0,hz1,hz2,rfl,by decide,by decide⟩
theorem Tj {k w ph r:Nat} (hr:r<=k):segS k w ph r=(w+ph+2*k-r) % k:=by
 unfold segS;rw [show w+ph+2*k-r=w+ph+k-r+k by omega,Nat.add_mod_right]
theorem Tk {k w ph r:Nat} (hk:1<=k) (hr:r+1<=k):segR k w ph r=(w+ph+2*k-r-1) % k:=by
 unfold segR segS;rw [show (w+k-1) % k+ph+k-r=(w+k-1) % k+(ph+k-r) by omega,Nat.mod_add_mod]
 congr 1
 omega
def segX (send:Bool) (k w ph r:Nat):Nat:=if send then segS k w ph r else segR k w ph r
theorem MU (j:Jb) (u ph r:Nat) (send:Bool) (w:World) (hk:1<=j.workers/\j.workers<=1000) (hw:u<j.workers) (hr:r+1<j.workers) (hp:ph<=1) :
  Calls Tryz.prog 154 #[.agg j.cells.toArray,U O u,U O ph,U O r,.bool send] w fun e w'=>e=.returned (.tuple #[U O (segX send j.workers u ph r:Nat),.bool true])/\Below w.heap.size w w':=by
 have hB:=K1 ((Below.refl w.heap.size w).alloc (Nat.le_refl _) (.cells j.cells.toArray 245));have hS:=Tj (k:=j.workers) (w:=u) (ph:=ph) (r:=r) (by omega);have hR:=Tk (k:=j.workers) (w:=u) (ph:=ph) (r:=r) hk.1 (by omega);obtain ⟨step,bucket,lo,hi,k,chunk⟩:=j;dsimp only [Jb.cells] at hk hw hr hB hS hR ⊢;unfold segX;have hr2:¬ ((k:Int)-2<r):=by omega
 have hp2:¬ 1<ph:=by omega
 have hne:¬ k=0:=by omega
 have hne2:¬ (k:Int)=0:=by omega
 obtain ⟨z,hz⟩:∃ z,z=if send then u+ph+2*k-r else u+ph+2*k-r-1:=⟨_,rfl⟩
 obtain ⟨q,hq⟩:∃ q,q=z % k:=⟨_,rfl⟩
 have hqk:q<k:=by rw [hq];exact Nat.mod_lt _ (by omega)
 have e1:(z:Int).tmod (k:Int)=(q:Int):=by rw [hq];exact (Int.ofNat_tmod _ _).symm
 have wq:IntKind.i64.wrap (q:Int)=(q:Int):=Afv _ (by omega)
 cases send
 . simp only [Afw,if_false] at hz ⊢;rw [hR,<- hz,<- hq];have ez:(u:Int)-r+ph-1+2*k=(z:Int):=by omega
   clear hq hS hR hz;go_enter Tryz.func154,Tryz.ntmps154;go_wp2_with fail
   go_ret2
   exact ⟨rfl,hB.out⟩
 . simp only [if_true] at hz ⊢;rw [hS,<- hz,<- hq];have ez:(u:Int)-r+ph+2*k=(z:Int):=by omega
   clear hq hS hR hz;go_enter Tryz.func154,Tryz.ntmps154;go_wp2_with fail
   go_ret2
   exact ⟨rfl,hB.out⟩
theorem MV (j:Jb) (x:Nat) (p:Nat × Nat) (w:World) (hp:(B1 j)[x]?=some p) (hk:1<=j.workers/\j.workers<=1000) (hlo:j.lo<=j.hi) (hhi:j.hi<=1000) (hs:1<=j.chunk/\j.chunk<=1048576) :
  Calls Tryz.prog 155 #[.agg j.cells.toArray,U O x] w fun e w'=>∃ A c,e=.returned (.slice A (Bj j.chunk p).length c)/\(Bj j.chunk p).length<=c/\Mem w' [.bel w.heap.size w,rrO w.heap.size (Bj j.chunk p).length c A (Bj j.chunk p)]:=by
 have hin:=EG hlo hk.1 p (Afu hp);have hsl:(B1 j).length=j.workers:=by rw [B1,Eh,Ee]
 have hx:=(List.getElem?_eq_some_iff.1 hp).1;rw [hsl] at hx;have CS:=K1 (fun W=>Tf W j.lo j.hi j.workers hlo hhi hk);have CC:=K1 (fun W=>SG W p.1 p.2 j.chunk hin.1 (by omega) hs);have HSL:=K1 (show (B4 j.lo (BN (j.hi-j.lo) j.workers))[x]?=some p from hp);have hm:=(Afs w).alloc (.cells j.cells.toArray 245);have HM:=K1 hm;have hx1:=Ei j.chunk p
 obtain ⟨len,hlen⟩:∃ len,len=(Bj j.chunk p).length:=⟨_,rfl⟩
 clear hx1 hsl hp hin hm;obtain ⟨step,bucket,lo,hi,k,chunk⟩:=j;obtain ⟨x1,y1⟩:=p;dsimp only [Jb.cells] at hk hlo hhi hs hx HM CS CC HSL hlen ⊢;generalize B4 lo (BN (hi-lo) k)=segs at *;generalize Bj chunk (x1,y1)=l at *;rw [<- hlen] at CC ⊢;clear hlen;go_enter Tryz.func155,Tryz.ntmps155;go_wp2_with fail;refine A9 fun W0 hW=>?_;replace HM:=K1 (hW.out.symm ▸ HM.out);clear hW;refine AC (.reads [0,1,2,3,5,8,9] (.eff 4 (.eff 6 (.eff 7 (.eff 10 (.eff 11 (.fin))))))) 12 (fun W'=>∀ j,W'.cell? ⟨w.heap.size,j,none⟩=([U O step,U O bucket,U O lo,U O hi,U O k,U O chunk]:List Value)[j]?) ?_
 replace HM:=K1 HM.out.drew;generalize W0.drew=V at *;refine Afm (HM.out.cells 1 rfl) ?_;refine Afk ?_;go_wp2_with fail;refine (CS.out _).mono ?_;rintro e w2 ⟨A1,c1,rfl,hc1,hm2⟩;have hrd:=AJ (hm2.own 1 rfl);have hA1:=AF (hm2.own 1 rfl);replace HM:=K1 (HM.out.push_rd (hm2.bel 0 rfl) hrd hA1);clear hm2 hrd hA1 CS;obtain ⟨b1,o1,rfl,_⟩:=HM.out.ranges 2 rfl (by have:=(List.getElem?_eq_some_iff.1 HSL.out).1;omega);go_wp2_with fail;refine Afl (HM.out.cells 1 rfl) ?_;refine Afk ?_;have hlt:x<k:=hx;go_wp2_with fail;refine Afl (HM.out.cells 1 rfl) ?_;refine Afk ?_
 obtain ⟨g1,g2⟩:=HM.out.range2 2 rfl HSL.out;go_wp2_with fail;clear g1 g2;refine Afl (HM.out.cells 1 rfl) ?_;refine Afk ?_;go_wp2_with fail;refine (CC.out _).mono ?_;rintro e w3 ⟨A2,c2,rfl,hc2,hm3⟩;have hg:=(HM.out.bel 0 rfl).size;replace HM:=K1 ((HM.out.push_own (hm3.bel 0 rfl) (hm3.own 1 rfl) rfl).lower (i:=3) rfl hg);clear hm3 CC hg;go_wp2_with fail;refine Afl (HM.out.cells 1 rfl) ?_;refine Afk ?_;go_wp2_with fail;refine Afl (HM.out.cells 1 rfl) ?_;refine Afn ?_;go_wp2_with fail;go_ret;exact ⟨A2,c2,rfl,hc2,HM.out.pick [0,3] _ rfl (by decide)⟩
def raO (base:Nat) (A:Option Addr) (c:Nat) (l:List Ac):Ch:=.own base 74 9 (.slice A l.length c) l.length (acells l)
theorem Tl (j:Jb) (u ph r:Nat) (w:World) (hk:1<=j.workers/\j.workers<=1000) (hw:u<j.workers) (hr:r+1<j.workers) (hp:ph<=1) (hlo:j.lo<=j.hi) (hhi:j.hi<=1000) (hs:1<=j.chunk/\j.chunk<=1048576) :
  Calls Tryz.prog 134 #[.agg j.cells.toArray,U O u,U O ph,U O r] w fun e w'=>∃ A c,e=.returned (.slice A (Ca j u ph r).length c)/\(Ca j u ph r).length<=c/\Mem w' [.bel w.heap.size w,raO w.heap.size A c (Ca j u ph r)]:=by
 have C1:=K1 (fun W=>MU j u ph r true W hk hw hr hp);have C2:=K1 (fun W=>MU j u ph r false W hk hw hr hp);have hl1:=GL (w:=u) (ph:=ph) (r:=r) hk.1;have hl2:=GN (w:=u) (ph:=ph) (r:=r) hk.1;have hsl:(B1 j).length=j.workers:=by rw [B1,Eh,Ee]
 have hin:=EG hlo hk.1;obtain ⟨po,hpo⟩:=Au (B1 j) (segS j.workers u ph r) (by omega);obtain ⟨pi,hpi⟩:=Au (B1 j) (segR j.workers u ph r) (by omega);have HRL:=K1 (GR hpo hpi);have C3:=K1 (fun W=>MV j _ po W hpo hk hlo hhi hs);have C4:=K1 (fun W=>MV j _ pi W hpi hk hlo hhi hs);have ho:=hin _ (Afu hpo);have hi:=hin _ (Afu hpi);have hx1:(Bj j.chunk po).length<=1000:=by have:=Ei j.chunk po;have:=Cm (po.2-po.1) j.chunk;omega
 have hx2:(Bj j.chunk pi).length<=1000:=by have:=Ei j.chunk pi;have:=Cm (pi.2-pi.1) j.chunk;omega
 simp only [segX,if_true,Afw,if_false] at C1 C2;clear hin hpo hpi ho hi;have hm:=(Afs w).alloc (.cells j.cells.toArray 245);have HM:=K1 hm;clear hm;generalize Bj j.chunk po=xs at *;generalize Bj j.chunk pi=ys at *;generalize segS j.workers u ph r=so at *;generalize segR j.workers u ph r=si at *;obtain ⟨step,bucket,lo,hi,k,chunk⟩:=j;dsimp only [Jb.cells] at hk hw hr HM C1 C2 C3 C4 hlo hhi hs HRL hl1 hl2 ⊢
 obtain ⟨nx,hnx⟩:∃ nx,nx=xs.length:=⟨_,rfl⟩
 obtain ⟨ny,hny⟩:∃ ny,ny=ys.length:=⟨_,rfl⟩
 rw [<- hnx] at C3 hx1 HRL;rw [<- hny] at C4 hx2 HRL
 obtain ⟨M,hMM⟩:∃ M,M=max nx ny:=⟨_,rfl⟩
 rw [<- hMM] at HRL;have HMX:=K1 (show nx<=M/\ny<=M/\(M=nx\/M=ny) by omega)
 obtain ⟨P,hP⟩:∃ P,P=BU ⟨step,bucket,lo,hi,k,chunk⟩ ph r xs ys:=⟨_,rfl⟩
 obtain ⟨aS,haS⟩:∃ f,f=BS ⟨step,bucket,lo,hi,k,chunk⟩ true ph r:=⟨_,rfl⟩
 obtain ⟨aR,haR⟩:∃ f,f=BS ⟨step,bucket,lo,hi,k,chunk⟩ false ph r:=⟨_,rfl⟩
 have HSUC:=K1 (show ∀ i,P (i+1)=P i++((xs[i]?.map (aS i)).toList++(ys[i]?.map (aR i)).toList) by intro i;rw [hP,haS,haR];exact FR _ _ _ _ _ i);have HLEN:=K1 (show ∀ i,(P i).length<=2*i by intro i;rw [hP];exact GQ _ _ _ _ _ i);have HAL:=K1 (fun W L (i:Nat) (h:Mem W L)=>h.alloc (.cells #[U O step,U O bucket,U O ph,U O r,U O i] 71));have HP0:=K1 (show P 0=[] by rw [hP];rfl);have HCS:=K1 (show ∀ i x y,(aS i (x,y)).cells=Ac.cells ⟨true,false,step,bucket,ph,r,i,x,y⟩ by intro i x y;rw [haS];rfl)
 have HCR:=K1 (show ∀ i x y,(aR i (x,y)).cells=Ac.cells ⟨false,ph == 0,step,bucket,ph,r,i,x,y⟩ by intro i x y;rw [haR];rfl);rw [<- hP] at HRL;clear hP haS haR;have HX:=K1 hnx;have HY:=K1 hny;have hMb:M<=1000:=by omega
 clear hnx hny hMM
 rcases (show ph=0\/ph=1 by omega) with rfl | rfl
 . go_enter Tryz.func134,Tryz.ntmps134;have c0:=HM.out.cells 1 rfl;go_wp2_with fail;refine (C1.out _).mono ?_;rintro e w1 ⟨rfl,hb⟩;replace HM:=K1 (HM.out.below hb);clear hb c0;have c0:=HM.out.cells 1 rfl;go_wp2_with fail;refine (C2.out _).mono ?_;rintro e w2 ⟨rfl,hb⟩;replace HM:=K1 (HM.out.below hb);clear hb c0;have c0:=HM.out.cells 1 rfl;go_wp2_with fail;refine (C3.out _).mono ?_;rintro e w3 ⟨A4,c4,rfl,hc4,hm⟩;have hrd:=AJ (hm.own 1 rfl);have hA1:=AF (hm.own 1 rfl);replace HM:=K1 (HM.out.push_rd (hm.bel 0 rfl) hrd hA1);clear hm hrd hA1 c0;have c0:=HM.out.cells 1 rfl;go_wp2_with fail
   refine (C4.out _).mono ?_;rintro e w4 ⟨A5,c5,rfl,hc5,hm⟩;have hrd:=AJ (hm.own 1 rfl);have hA1:=AF (hm.own 1 rfl);replace HM:=K1 (HM.out.push_rd (hm.bel 0 rfl) hrd hA1);clear hm hrd hA1 c0 C1 C2 C3 C4;have HM0:=K1 (HM.out.add (c:=raO w.heap.size none 0 []) ⟨Bh _ _ _ _,(HM.out.bel 0 rfl).size⟩ (fun _ _ _ _ g hg=>by cases hg));clear HM;go_wp2_with fail
   go_loopw [15,16] (fun s15 s16 wr=>∃ (i:Nat) (A:Option Addr) (c:Nat),i<=M/\s15=.slice A (P i).length c/\s16=U O i/\Hid (Mem wr [.bel w.heap.size w,.obj w.heap.size (.cells #[U O step,U O bucket,U O lo,U O hi,U O k,U O chunk] 245 (0,0)),.rd A4 (rcells xs),.rd A5 (rcells ys),raO w.heap.size A c (P i)])) (fun _ s16 _=>M-(intOf s16).toNat)
   case atStart=>exact ⟨0,none,0,Nat.zero_le _,by rw [HP0.out];rfl,rfl,K1 (by rw [HP0.out];exact HM0.out)⟩
   case round =>
    clear HM0;obtain ⟨i,A,c,hiM,rfl,rfl,HM⟩:=hrel
    by_cases hlt:i<M
    . have hsz:=HLEN.out i;have HE0:=K1 (HSUC.out i)
      obtain ⟨n,hn⟩:∃ n,n=(P i).length:=⟨_,rfl⟩
      rw [<- hn] at hsz ⊢;replace HM:=K1 (show Mem wr [.bel w.heap.size w,.obj w.heap.size (.cells #[U O step,U O bucket,U O lo,U O hi,U O k,U O chunk] 245 (0,0)),.rd A4 (rcells xs),.rd A5 (rcells ys),.own w.heap.size 74 9 (.slice A n c) n (acells (P i))] by rw [hn];exact HM.out);have HN:=K1 hn;clear hn;have c0:=HM.out.cells 1 rfl
      by_cases hx:i<nx
      . by_cases hy:i<ny
        . obtain ⟨⟨xx,yx⟩,hx⟩:=Au xs i (by have:=HX.out;omega);obtain ⟨bx,ox,rfl,_⟩:=HM.out.ranges 2 rfl (by have:=HX.out;omega);have Hx:=K1 hx;clear hx;obtain ⟨⟨xq,yq⟩,hq⟩:=Au ys i (by have:=HY.out;omega);obtain ⟨bq,oq,rfl,_⟩:=HM.out.ranges 3 rfl (by have:=HY.out;omega);have Hq:=K1 hq;clear hq
          have HE:=K1 (show P (i+1)=P i++([aS i (xx,yx)]++[aR i (xq,yq)]) by
           rw [HSUC.out,show xs[i]?=some (xx,yx) from Hx.out,show ys[i]?=some (xq,yq) from Hq.out];rfl)
          have c0:=HM.out.cells 1 rfl;replace HM:=K1 (HAL.out _ _ i HM.out);go_wp2_with fail;clear c0;generalize wr.heap.size=gt at *;refine A9 fun W0 hW=>?_;replace HM:=K1 (hW.out.symm ▸ HM.out);clear hW;refine AC (.reads [0,1,2,3,4,5,6] (.eff 7 (.eff 8 (.reads [9] (.fin))))) 10 (fun W'=>(∀ j,W'.cell? ⟨gt,j,none⟩=([U O step,U O bucket,U O ((0:Nat):Int),U O r,U O i]:List Value)[j]?)/\W'.cell? ⟨bx,ox+i*2,none⟩=some (U O xx)/\W'.cell? ⟨bx,ox+i*2+1,none⟩=some (U O yx)) ?_;replace HM:=K1 HM.out.drew;generalize W0.drew=V at *;refine Afm ⟨HM.out.cells 5 rfl,HM.out.range2 2 rfl Hx.out⟩ ?_
          refine Afk ?_;go_wp2_with fail;refine AH fun W7 hW=>?_;replace HM:=K1 (HM.out.alloc_ hW.out);clear hW;refine Afl ⟨HM.out.cells 5 rfl,HM.out.range2 2 rfl Hx.out⟩ ?_;refine Afk ?_;refine AQ (n:=n) rfl _ _ 242 rfl HM.out 4 E9 rfl rfl _ 1 _ (Ac.cells ⟨true,false,step,bucket,_,r,i,xx,yx⟩) rfl (HM.out.box 6 rfl) rfl (DP _) (by omega) ?_;intro A' c' W8 hM8;replace HM:=K1 (hM8.front 6);clear hM8;go_wp2_with fail;refine Afl ⟨HM.out.cells 5 rfl,HM.out.range2 2 rfl Hx.out⟩ ?_;refine Afo ⟨HM.out.cells 5 rfl,HM.out.range2 2 rfl Hx.out⟩ ?_;refine Afn ?_;go_wp2_with fail;refine A9 fun W0 hW=>?_
          replace HM:=K1 (hW.out.symm ▸ HM.out);clear hW;refine AC (.reads [0,1,2,3,4,5,6,7,8] (.eff 9 (.eff 10 (.reads [11] (.fin))))) 12 (fun W'=>(∀ j,W'.cell? ⟨gt,j,none⟩=([U O step,U O bucket,U O ((0:Nat):Int),U O r,U O i]:List Value)[j]?)/\W'.cell? ⟨bq,oq+i*2,none⟩=some (U O xq)/\W'.cell? ⟨bq,oq+i*2+1,none⟩=some (U O yq)) ?_;replace HM:=K1 HM.out.drew;generalize W0.drew=V at *;refine Afm ⟨HM.out.cells 5 rfl,HM.out.range2 3 rfl Hq.out⟩ ?_;refine Afk ?_;go_wp2_with fail;refine AH fun W7 hW=>?_;replace HM:=K1 (HM.out.alloc_ hW.out);clear hW
          refine Afl ⟨HM.out.cells 5 rfl,HM.out.range2 3 rfl Hq.out⟩ ?_;refine Afk ?_;refine AQ (n:=(n+1)) rfl _ _ 242 rfl HM.out 4 E9 rfl rfl _ 1 _ (Ac.cells ⟨false,_,step,bucket,_,r,i,xq,yq⟩) rfl (HM.out.box 6 rfl) rfl (DP _) (by omega) ?_;intro A' c' W8 hM8;replace HM:=K1 (hM8.front 6);clear hM8;go_wp2_with fail;refine Afl ⟨HM.out.cells 5 rfl,HM.out.range2 3 rfl Hq.out⟩ ?_;refine Afo ⟨HM.out.cells 5 rfl,HM.out.range2 3 rfl Hq.out⟩ ?_;refine Afn ?_;go_wp2_with fail;go_roundw
          case rel =>
           refine ⟨i+1,A',c',by omega,by rw [HE.out];simp [HN.out],by go_num,?_⟩;have h9:=HM.out.front 5;refine K1 (Afp h9 ?_);unfold raO;rw [HE.out,<- Afx,Eg,Eg,HCS.out,HCR.out];simp only [Afq,Afr,<- HN.out];rfl
          case measure=>simp [intOf];omega
        . obtain ⟨⟨xx,yx⟩,hx⟩:=Au xs i (by have:=HX.out;omega);obtain ⟨bx,ox,rfl,_⟩:=HM.out.ranges 2 rfl (by have:=HX.out;omega);have Hx:=K1 hx;clear hx
          have HE:=K1 (show P (i+1)=P i++([aS i (xx,yx)]++[]) by
           rw [HSUC.out,show xs[i]?=some (xx,yx) from Hx.out,show ys[i]?=none from Aft (by have:=HY.out;omega)];rfl)
          have c0:=HM.out.cells 1 rfl;replace HM:=K1 (HAL.out _ _ i HM.out);go_wp2_with fail;clear c0;generalize wr.heap.size=gt at *;refine A9 fun W0 hW=>?_;replace HM:=K1 (hW.out.symm ▸ HM.out);clear hW;refine AC (.reads [0,1,2,3,4,5,6] (.eff 7 (.eff 8 (.reads [9] (.fin))))) 10 (fun W'=>(∀ j,W'.cell? ⟨gt,j,none⟩=([U O step,U O bucket,U O ((0:Nat):Int),U O r,U O i]:List Value)[j]?)/\W'.cell? ⟨bx,ox+i*2,none⟩=some (U O xx)/\W'.cell? ⟨bx,ox+i*2+1,none⟩=some (U O yx)) ?_;replace HM:=K1 HM.out.drew;generalize W0.drew=V at *;refine Afm ⟨HM.out.cells 5 rfl,HM.out.range2 2 rfl Hx.out⟩ ?_
          refine Afk ?_;go_wp2_with fail;refine AH fun W7 hW=>?_;replace HM:=K1 (HM.out.alloc_ hW.out);clear hW;refine Afl ⟨HM.out.cells 5 rfl,HM.out.range2 2 rfl Hx.out⟩ ?_;refine Afk ?_;refine AQ (n:=n) rfl _ _ 242 rfl HM.out 4 E9 rfl rfl _ 1 _ (Ac.cells ⟨true,false,step,bucket,_,r,i,xx,yx⟩) rfl (HM.out.box 6 rfl) rfl (DP _) (by omega) ?_;intro A' c' W8 hM8;replace HM:=K1 (hM8.front 6);clear hM8;go_wp2_with fail;refine Afl ⟨HM.out.cells 5 rfl,HM.out.range2 2 rfl Hx.out⟩ ?_;refine Afo ⟨HM.out.cells 5 rfl,HM.out.range2 2 rfl Hx.out⟩ ?_;refine Afn ?_;go_wp2_with fail;go_roundw
          case rel =>
           refine ⟨i+1,A',c',by omega,by rw [HE.out];simp [HN.out],by go_num,?_⟩;have h9:=HM.out.front 5;refine K1 (Afp h9 ?_);unfold raO;rw [HE.out,Afy,Eg,HCS.out];simp only [Afq,Afr,<- HN.out];rfl
          case measure=>simp [intOf];omega
      . have hy:i<ny:=by have:=HMX.out;omega
        obtain ⟨⟨xq,yq⟩,hq⟩:=Au ys i (by have:=HY.out;omega);obtain ⟨bq,oq,rfl,_⟩:=HM.out.ranges 3 rfl (by have:=HY.out;omega);have Hq:=K1 hq;clear hq
        have HE:=K1 (show P (i+1)=P i++([]++[aR i (xq,yq)]) by
         rw [HSUC.out,show xs[i]?=none from Aft (by have:=HX.out;omega),show ys[i]?=some (xq,yq) from Hq.out];rfl)
        have c0:=HM.out.cells 1 rfl;replace HM:=K1 (HAL.out _ _ i HM.out);go_wp2_with fail;clear c0;generalize wr.heap.size=gt at *;refine A9 fun W0 hW=>?_;replace HM:=K1 (hW.out.symm ▸ HM.out);clear hW;refine AC (.reads [0,1,2,3,4,5,6,7,8] (.eff 9 (.eff 10 (.reads [11] (.fin))))) 12 (fun W'=>(∀ j,W'.cell? ⟨gt,j,none⟩=([U O step,U O bucket,U O ((0:Nat):Int),U O r,U O i]:List Value)[j]?)/\W'.cell? ⟨bq,oq+i*2,none⟩=some (U O xq)/\W'.cell? ⟨bq,oq+i*2+1,none⟩=some (U O yq)) ?_;replace HM:=K1 HM.out.drew;generalize W0.drew=V at *;refine Afm ⟨HM.out.cells 5 rfl,HM.out.range2 3 rfl Hq.out⟩ ?_
        refine Afk ?_;go_wp2_with fail;refine AH fun W7 hW=>?_;replace HM:=K1 (HM.out.alloc_ hW.out);clear hW;refine Afl ⟨HM.out.cells 5 rfl,HM.out.range2 3 rfl Hq.out⟩ ?_;refine Afk ?_;refine AQ (n:=n) rfl _ _ 242 rfl HM.out 4 E9 rfl rfl _ 1 _ (Ac.cells ⟨false,_,step,bucket,_,r,i,xq,yq⟩) rfl (HM.out.box 6 rfl) rfl (DP _) (by omega) ?_;intro A' c' W8 hM8;replace HM:=K1 (hM8.front 6);clear hM8;go_wp2_with fail;refine Afl ⟨HM.out.cells 5 rfl,HM.out.range2 3 rfl Hq.out⟩ ?_;refine Afo ⟨HM.out.cells 5 rfl,HM.out.range2 3 rfl Hq.out⟩ ?_;refine Afn ?_;go_wp2_with fail;go_roundw
        case rel =>
         refine ⟨i+1,A',c',by omega,by rw [HE.out];simp [HN.out],by go_num,?_⟩;have h9:=HM.out.front 5;refine K1 (Afp h9 ?_);unfold raO;rw [HE.out,Afz,Eg,HCR.out];simp only [Afq,Afr,<- HN.out];rfl
        case measure=>simp [intOf];omega
    . have hiM:i=M:=by omega
      subst hiM;have hx:¬ i<nx:=by have:=HMX.out;omega
      have hy:¬ i<ny:=by have:=HMX.out;omega
      have c0:=HM.out.cells 1 rfl;have HF:=K1 HM.out;clear HM;go_wp2_with fail;go_ret;rw [HRL.out];exact ⟨A,c,rfl,Be (HF.out.own 4 rfl),HF.out.pick [0,4] _ rfl (by decide)⟩
 . go_enter Tryz.func134,Tryz.ntmps134;have c0:=HM.out.cells 1 rfl;go_wp2_with fail;refine (C1.out _).mono ?_;rintro e w1 ⟨rfl,hb⟩;replace HM:=K1 (HM.out.below hb);clear hb c0;have c0:=HM.out.cells 1 rfl;go_wp2_with fail;refine (C2.out _).mono ?_;rintro e w2 ⟨rfl,hb⟩;replace HM:=K1 (HM.out.below hb);clear hb c0;have c0:=HM.out.cells 1 rfl;go_wp2_with fail;refine (C3.out _).mono ?_;rintro e w3 ⟨A4,c4,rfl,hc4,hm⟩;have hrd:=AJ (hm.own 1 rfl);have hA1:=AF (hm.own 1 rfl);replace HM:=K1 (HM.out.push_rd (hm.bel 0 rfl) hrd hA1);clear hm hrd hA1 c0;have c0:=HM.out.cells 1 rfl;go_wp2_with fail
   refine (C4.out _).mono ?_;rintro e w4 ⟨A5,c5,rfl,hc5,hm⟩;have hrd:=AJ (hm.own 1 rfl);have hA1:=AF (hm.own 1 rfl);replace HM:=K1 (HM.out.push_rd (hm.bel 0 rfl) hrd hA1);clear hm hrd hA1 c0 C1 C2 C3 C4;have HM0:=K1 (HM.out.add (c:=raO w.heap.size none 0 []) ⟨Bh _ _ _ _,(HM.out.bel 0 rfl).size⟩ (fun _ _ _ _ g hg=>by cases hg));clear HM;go_wp2_with fail
   go_loopw [15,16] (fun s15 s16 wr=>∃ (i:Nat) (A:Option Addr) (c:Nat),i<=M/\s15=.slice A (P i).length c/\s16=U O i/\Hid (Mem wr [.bel w.heap.size w,.obj w.heap.size (.cells #[U O step,U O bucket,U O lo,U O hi,U O k,U O chunk] 245 (0,0)),.rd A4 (rcells xs),.rd A5 (rcells ys),raO w.heap.size A c (P i)])) (fun _ s16 _=>M-(intOf s16).toNat)
   case atStart=>exact ⟨0,none,0,Nat.zero_le _,by rw [HP0.out];rfl,rfl,K1 (by rw [HP0.out];exact HM0.out)⟩
   case round =>
    clear HM0;obtain ⟨i,A,c,hiM,rfl,rfl,HM⟩:=hrel
    by_cases hlt:i<M
    . have hsz:=HLEN.out i;have HE0:=K1 (HSUC.out i)
      obtain ⟨n,hn⟩:∃ n,n=(P i).length:=⟨_,rfl⟩
      rw [<- hn] at hsz ⊢;replace HM:=K1 (show Mem wr [.bel w.heap.size w,.obj w.heap.size (.cells #[U O step,U O bucket,U O lo,U O hi,U O k,U O chunk] 245 (0,0)),.rd A4 (rcells xs),.rd A5 (rcells ys),.own w.heap.size 74 9 (.slice A n c) n (acells (P i))] by rw [hn];exact HM.out);have HN:=K1 hn;clear hn;have c0:=HM.out.cells 1 rfl
      by_cases hx:i<nx
      . by_cases hy:i<ny
        . obtain ⟨⟨xx,yx⟩,hx⟩:=Au xs i (by have:=HX.out;omega);obtain ⟨bx,ox,rfl,_⟩:=HM.out.ranges 2 rfl (by have:=HX.out;omega);have Hx:=K1 hx;clear hx;obtain ⟨⟨xq,yq⟩,hq⟩:=Au ys i (by have:=HY.out;omega);obtain ⟨bq,oq,rfl,_⟩:=HM.out.ranges 3 rfl (by have:=HY.out;omega);have Hq:=K1 hq;clear hq
          have HE:=K1 (show P (i+1)=P i++([aS i (xx,yx)]++[aR i (xq,yq)]) by
           rw [HSUC.out,show xs[i]?=some (xx,yx) from Hx.out,show ys[i]?=some (xq,yq) from Hq.out];rfl)
          have c0:=HM.out.cells 1 rfl;replace HM:=K1 (HAL.out _ _ i HM.out);go_wp2_with fail;clear c0;generalize wr.heap.size=gt at *;refine A9 fun W0 hW=>?_;replace HM:=K1 (hW.out.symm ▸ HM.out);clear hW;refine AC (.reads [0,1,2,3,4,5,6] (.eff 7 (.eff 8 (.reads [9] (.fin))))) 10 (fun W'=>(∀ j,W'.cell? ⟨gt,j,none⟩=([U O step,U O bucket,U O ((1:Nat):Int),U O r,U O i]:List Value)[j]?)/\W'.cell? ⟨bx,ox+i*2,none⟩=some (U O xx)/\W'.cell? ⟨bx,ox+i*2+1,none⟩=some (U O yx)) ?_;replace HM:=K1 HM.out.drew;generalize W0.drew=V at *;refine Afm ⟨HM.out.cells 5 rfl,HM.out.range2 2 rfl Hx.out⟩ ?_
          refine Afk ?_;go_wp2_with fail;refine AH fun W7 hW=>?_;replace HM:=K1 (HM.out.alloc_ hW.out);clear hW;refine Afl ⟨HM.out.cells 5 rfl,HM.out.range2 2 rfl Hx.out⟩ ?_;refine Afk ?_;refine AQ (n:=n) rfl _ _ 242 rfl HM.out 4 E9 rfl rfl _ 1 _ (Ac.cells ⟨true,false,step,bucket,_,r,i,xx,yx⟩) rfl (HM.out.box 6 rfl) rfl (DP _) (by omega) ?_;intro A' c' W8 hM8;replace HM:=K1 (hM8.front 6);clear hM8;go_wp2_with fail;refine Afl ⟨HM.out.cells 5 rfl,HM.out.range2 2 rfl Hx.out⟩ ?_;refine Afo ⟨HM.out.cells 5 rfl,HM.out.range2 2 rfl Hx.out⟩ ?_;refine Afn ?_;go_wp2_with fail;refine A9 fun W0 hW=>?_
          replace HM:=K1 (hW.out.symm ▸ HM.out);clear hW;refine AC (.reads [0,1,2,3,4,5,6,7,8] (.eff 9 (.eff 10 (.reads [11] (.fin))))) 12 (fun W'=>(∀ j,W'.cell? ⟨gt,j,none⟩=([U O step,U O bucket,U O ((1:Nat):Int),U O r,U O i]:List Value)[j]?)/\W'.cell? ⟨bq,oq+i*2,none⟩=some (U O xq)/\W'.cell? ⟨bq,oq+i*2+1,none⟩=some (U O yq)) ?_;replace HM:=K1 HM.out.drew;generalize W0.drew=V at *;refine Afm ⟨HM.out.cells 5 rfl,HM.out.range2 3 rfl Hq.out⟩ ?_;refine Afk ?_;go_wp2_with fail;refine AH fun W7 hW=>?_;replace HM:=K1 (HM.out.alloc_ hW.out);clear hW
          refine Afl ⟨HM.out.cells 5 rfl,HM.out.range2 3 rfl Hq.out⟩ ?_;refine Afk ?_;refine AQ (n:=(n+1)) rfl _ _ 242 rfl HM.out 4 E9 rfl rfl _ 1 _ (Ac.cells ⟨false,_,step,bucket,_,r,i,xq,yq⟩) rfl (HM.out.box 6 rfl) rfl (DP _) (by omega) ?_;intro A' c' W8 hM8;replace HM:=K1 (hM8.front 6);clear hM8;go_wp2_with fail;refine Afl ⟨HM.out.cells 5 rfl,HM.out.range2 3 rfl Hq.out⟩ ?_;refine Afo ⟨HM.out.cells 5 rfl,HM.out.range2 3 rfl Hq.out⟩ ?_;refine Afn ?_;go_wp2_with fail;go_roundw
          case rel =>
           refine ⟨i+1,A',c',by omega,by rw [HE.out];simp [HN.out],by go_num,?_⟩;have h9:=HM.out.front 5;refine K1 (Afp h9 ?_);unfold raO;rw [HE.out,<- Afx,Eg,Eg,HCS.out,HCR.out];simp only [Afq,Afr,<- HN.out];rfl
          case measure=>simp [intOf];omega
        . obtain ⟨⟨xx,yx⟩,hx⟩:=Au xs i (by have:=HX.out;omega);obtain ⟨bx,ox,rfl,_⟩:=HM.out.ranges 2 rfl (by have:=HX.out;omega);have Hx:=K1 hx;clear hx
          have HE:=K1 (show P (i+1)=P i++([aS i (xx,yx)]++[]) by
           rw [HSUC.out,show xs[i]?=some (xx,yx) from Hx.out,show ys[i]?=none from Aft (by have:=HY.out;omega)];rfl)
          have c0:=HM.out.cells 1 rfl;replace HM:=K1 (HAL.out _ _ i HM.out);go_wp2_with fail;clear c0;generalize wr.heap.size=gt at *;refine A9 fun W0 hW=>?_;replace HM:=K1 (hW.out.symm ▸ HM.out);clear hW;refine AC (.reads [0,1,2,3,4,5,6] (.eff 7 (.eff 8 (.reads [9] (.fin))))) 10 (fun W'=>(∀ j,W'.cell? ⟨gt,j,none⟩=([U O step,U O bucket,U O ((1:Nat):Int),U O r,U O i]:List Value)[j]?)/\W'.cell? ⟨bx,ox+i*2,none⟩=some (U O xx)/\W'.cell? ⟨bx,ox+i*2+1,none⟩=some (U O yx)) ?_;replace HM:=K1 HM.out.drew;generalize W0.drew=V at *;refine Afm ⟨HM.out.cells 5 rfl,HM.out.range2 2 rfl Hx.out⟩ ?_
          refine Afk ?_;go_wp2_with fail;refine AH fun W7 hW=>?_;replace HM:=K1 (HM.out.alloc_ hW.out);clear hW;refine Afl ⟨HM.out.cells 5 rfl,HM.out.range2 2 rfl Hx.out⟩ ?_;refine Afk ?_;refine AQ (n:=n) rfl _ _ 242 rfl HM.out 4 E9 rfl rfl _ 1 _ (Ac.cells ⟨true,false,step,bucket,_,r,i,xx,yx⟩) rfl (HM.out.box 6 rfl) rfl (DP _) (by omega) ?_;intro A' c' W8 hM8;replace HM:=K1 (hM8.front 6);clear hM8;go_wp2_with fail;refine Afl ⟨HM.out.cells 5 rfl,HM.out.range2 2 rfl Hx.out⟩ ?_;refine Afo ⟨HM.out.cells 5 rfl,HM.out.range2 2 rfl Hx.out⟩ ?_;refine Afn ?_;go_wp2_with fail;go_roundw
          case rel =>
           refine ⟨i+1,A',c',by omega,by rw [HE.out];simp [HN.out],by go_num,?_⟩;have h9:=HM.out.front 5;refine K1 (Afp h9 ?_);unfold raO;rw [HE.out,Afy,Eg,HCS.out];simp only [Afq,Afr,<- HN.out];rfl
          case measure=>simp [intOf];omega
      . have hy:i<ny:=by have:=HMX.out;omega
        obtain ⟨⟨xq,yq⟩,hq⟩:=Au ys i (by have:=HY.out;omega);obtain ⟨bq,oq,rfl,_⟩:=HM.out.ranges 3 rfl (by have:=HY.out;omega);have Hq:=K1 hq;clear hq
        have HE:=K1 (show P (i+1)=P i++([]++[aR i (xq,yq)]) by
         rw [HSUC.out,show xs[i]?=none from Aft (by have:=HX.out;omega),show ys[i]?=some (xq,yq) from Hq.out];rfl)
        have c0:=HM.out.cells 1 rfl;replace HM:=K1 (HAL.out _ _ i HM.out);go_wp2_with fail;clear c0;generalize wr.heap.size=gt at *;refine A9 fun W0 hW=>?_;replace HM:=K1 (hW.out.symm ▸ HM.out);clear hW;refine AC (.reads [0,1,2,3,4,5,6,7,8] (.eff 9 (.eff 10 (.reads [11] (.fin))))) 12 (fun W'=>(∀ j,W'.cell? ⟨gt,j,none⟩=([U O step,U O bucket,U O ((1:Nat):Int),U O r,U O i]:List Value)[j]?)/\W'.cell? ⟨bq,oq+i*2,none⟩=some (U O xq)/\W'.cell? ⟨bq,oq+i*2+1,none⟩=some (U O yq)) ?_;replace HM:=K1 HM.out.drew;generalize W0.drew=V at *;refine Afm ⟨HM.out.cells 5 rfl,HM.out.range2 3 rfl Hq.out⟩ ?_
        refine Afk ?_;go_wp2_with fail;refine AH fun W7 hW=>?_;replace HM:=K1 (HM.out.alloc_ hW.out);clear hW;refine Afl ⟨HM.out.cells 5 rfl,HM.out.range2 3 rfl Hq.out⟩ ?_;refine Afk ?_;refine AQ (n:=n) rfl _ _ 242 rfl HM.out 4 E9 rfl rfl _ 1 _ (Ac.cells ⟨false,_,step,bucket,_,r,i,xq,yq⟩) rfl (HM.out.box 6 rfl) rfl (DP _) (by omega) ?_;intro A' c' W8 hM8;replace HM:=K1 (hM8.front 6);clear hM8;go_wp2_with fail;refine Afl ⟨HM.out.cells 5 rfl,HM.out.range2 3 rfl Hq.out⟩ ?_;refine Afo ⟨HM.out.cells 5 rfl,HM.out.range2 3 rfl Hq.out⟩ ?_;refine Afn ?_;go_wp2_with fail;go_roundw
        case rel =>
         refine ⟨i+1,A',c',by omega,by rw [HE.out];simp [HN.out],by go_num,?_⟩;have h9:=HM.out.front 5;refine K1 (Afp h9 ?_);unfold raO;rw [HE.out,Afz,Eg,HCR.out];simp only [Afq,Afr,<- HN.out];rfl
        case measure=>simp [intOf];omega
    . have hiM:i=M:=by omega
      subst hiM;have hx:¬ i<nx:=by have:=HMX.out;omega
      have hy:¬ i<ny:=by have:=HMX.out;omega
      have c0:=HM.out.cells 1 rfl;have HF:=K1 HM.out;clear HM;go_wp2_with fail;go_ret;rw [HRL.out];exact ⟨A,c,rfl,Be (HF.out.own 4 rfl),HF.out.pick [0,4] _ rfl (by decide)⟩
def rpC (c:Kf) (p:Nat) (sz:Value):List Value:=[sz,U O c.sh,U O c.ra,U O c.mo,U O c.k,U O c.ba,U O c.mi,U O c.st,U O c.bu,U O c.s,U O c.wi,U O c.ca,U O p]
theorem J9 (w:World) (c:Kf) (p:Nat) (sz:Value) (hb:1<=c.bu/\c.bu<=1048576) (hp:p<=1000000) :
  Calls Tryz.prog 93 #[.agg (rpC c p sz).toArray] w fun e w'=>∃ A cc,e=.returned (.slice A (plBs c p).length cc)/\(plBs c p).length<=cc/\Mem w' [.bel w.heap.size w,rrO w.heap.size (plBs c p).length cc A (plBs c p)]:=by
 have CB:=K1 (fun W=>RV p c.bu W hp hb);have HE:=K1 (show Cw p c.bu=plBs c p from rfl);rw [HE.out] at CB;have HM:=K1 ((Afs w).alloc (.cells (rpC c p sz).toArray 82));obtain ⟨sh,ra,mo,k,ba,mi,st,bu,s,wi,ca⟩:=c;dsimp only [rpC] at *;go_enter Tryz.func93,Tryz.ntmps93;go_wp2_with fail;refine (CB.out _).mono ?_;rintro e w1 ⟨A,cc,rfl,hcc,hm⟩;have hg:=(HM.out.bel 0 rfl).size;replace HM:=K1 ((HM.out.push_own (hm.bel 0 rfl) (hm.own 1 rfl) rfl).lower (i:=2) rfl hg);clear hm CB hg;go_wp2_with fail;go_ret;exact ⟨A,cc,rfl,hcc,HM.out.pick [0,2] _ rfl (by decide)⟩
theorem Tm (w:World) (c:Kf) (p t j:Nat) (sz:Value) (x y:Nat) (hj:(plBs c p)[j]?=some (x,y)) (hb:1<=c.bu/\c.bu<=1048576) (hp:p<=1000000) :
  Calls Tryz.prog 135 #[.agg (rpC c p sz).toArray,U O t,U O j] w fun e w'=>e=.returned (.agg (Jb.cells ⟨t,j,x,y,c.k,c.s⟩).toArray)/\Below w.heap.size w w':=by
 have CB:=K1 (fun W=>J9 W c p sz hb hp);have HJ:=K1 hj;have hm:=(((Afs w).alloc (.cells (rpC c p sz).toArray 82))).alloc (.cells #[U O 0,U O 0,U O 0,U O 0,U O 0,U O 0] 245);simp only [World.size_alloc] at hm;have HM:=K1 hm;have hjl:j<(plBs c p).length:=(List.getElem?_eq_some_iff.1 hj).1;clear hm hj;generalize plBs c p=bs at *;obtain ⟨sh,ra,mo,k,ba,mi,st,bu,s,wi,ca⟩:=c;dsimp only [rpC,Jb.cells] at *;go_enter Tryz.func135,Tryz.ntmps135;go_wp2_with fail;refine A9 fun W0 hW=>?_;replace HM:=K1 (hW.out.symm ▸ HM.out);clear hW
 refine AC (.reads [0,1,2,4,7,8,9,10,11,12] (.eff 3 (.eff 5 (.eff 6 (.eff 13 (.eff 14 (.fin))))))) 15 (fun W'=>∀ i,W'.cell? ⟨w.heap.size,i,none⟩=([sz,U O sh,U O ra,U O mo,U O k,U O ba,U O mi,U O st,U O bu,U O s,U O wi,U O ca,U O p]:List Value)[i]?) ?_;replace HM:=K1 HM.out.drew;generalize W0.drew=V at *;refine Afm (HM.out.cells 1 rfl) ?_;refine Afk ?_;go_wp2_with fail;refine (CB.out _).mono ?_;rintro e w2 ⟨A1,c1,rfl,hc1,hm2⟩;have hrd:=AJ (hm2.own 1 rfl);have hA1:=AF (hm2.own 1 rfl);replace HM:=K1 (HM.out.push_rd (hm2.bel 0 rfl) hrd hA1);clear hm2 hrd hA1 CB
 obtain ⟨b1,o1,rfl,_⟩:=HM.out.ranges 3 rfl (by omega);go_wp2_with fail;refine Afl (HM.out.cells 1 rfl) ?_;refine Afk ?_;go_wp2_with fail;refine Afl (HM.out.cells 1 rfl) ?_;refine Afk ?_;have j1:(bs[j]'hjl).1=x:=by have:=(List.getElem?_eq_some_iff.1 HJ.out).2;rw [this]
 have j2:(bs[j]'hjl).2=y:=by have:=(List.getElem?_eq_some_iff.1 HJ.out).2;rw [this]
 obtain ⟨g1,g2⟩:=HM.out.range2 3 rfl HJ.out;go_wp2_with fail;clear g1 g2;refine Afl (HM.out.cells 1 rfl) ?_;refine Afk ?_;go_wp2_with fail;refine Afl (HM.out.cells 1 rfl) ?_;refine Afk ?_;have c2:=HM.out.cells 2 rfl;have f2:=fun j=>HM.out.frozen 2 j rfl
 replace HM:=K1 (HM.out.set6 (i:=2) rfl (U O t) (U O j) (U O x) (U O y) (U O k) (U O s));go_wp2_with fail;refine Afl (HM.out.cells 1 rfl) ?_;refine Afn ?_;clear c2 f2;have c2:=HM.out.cells 2 rfl;go_wp2_with fail;refine bodyPost_ret (v:=.agg #[U O t,U O j,U O x,U O y,U O k,U O s]) ?_ rfl ⟨rfl,HM.out.bel 0 rfl⟩;simp [results,Tryz.results135,go_sem,c2]
end
end Go.Proofs.YtdpojpcoghcieaaGreat
