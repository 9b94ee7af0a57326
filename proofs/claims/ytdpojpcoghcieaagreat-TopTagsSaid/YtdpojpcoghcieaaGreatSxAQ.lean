/- A part of the proof of TopTags: NetNew, Trace, Miss. Conditions: none. -/
import Derived.Test.YtdpojpcoghcieaaGreatSxAO
set_option maxHeartbeats 8000000
set_option linter.all false
namespace Go.Proofs.YtdpojpcoghcieaaGreat
open Lib renaming hid → K1
open List renaming filterMap_cons → p1, filterMap_nil → p2, getElem?_cons_zero → p3, getElem?_cons_succ → p4
open Go.RowKit
set_option maxRecDepth 100000
open Value renaming int → U, slice → Us
open IntKind renaming i64 → O
open And renaming intro → Zd
open PlS renaming ef_ → Ze, rd_ → Zg, fin_ → Zl
open After renaming go → Zf
open Nat renaming le_trans → Zh, zero_le → Zk, le_refl → Zm
open List renaming mem_of_getElem? → Zi, range → Zj, map_append → Zn, getElem?_map → Zo, range_succ → Zs, length_set → Zt, getElem?_set_ne → Zu, getElem?_range → Zv
open Option renaming map_some → Zp
open IntWalk renaming i64_in → Zq
open World renaming size_alloc → Zr
section
structure NsOk (ns:List Nat):Prop where
 len:2<=ns.length/\ns.length<=16
 pos:∀ n∈ns,1<=n
 few:offN ns (ns.length-1)<=1000
theorem NsOk.le {ns:List Nat} (h:NsOk ns) {k:Nat} (hk:k<ns.length-1):offN ns (k+1)<=1000:=Zh (Hs ns (by omega)) h.few
theorem NsOk.at_ {ns:List Nat} (h:NsOk ns) {k:Nat} (hk:k<ns.length-1) :
  ∃ a b,ns[k]?=some a/\ns[k+1]?=some b/\1<=a/\1<=b/\midN ns k=offN ns k+b*a/\offN ns (k+1)=midN ns k+b/\a<=1000/\b<=1000/\offN ns (k+1)<=offN ns (ns.length-1):=by
 obtain ⟨a,ha⟩:=Au ns k (by omega);obtain ⟨b,hb⟩:=Au ns (k+1) (by omega);have h1:=h.pos a (Zi ha);have h2:=h.pos b (Zi hb);have e1:midN ns k=offN ns k+b*a:=by rw [midN,ha,hb];rfl
 have e2:offN ns (k+1)=midN ns k+b:=by rw [Fm,hb];rfl
 have h3:=h.le hk;have h4:=Nat.mul_le_mul_right a h2;exact ⟨a,b,ha,hb,h1,h2,e1,e2,by omega,by omega,Hs ns (by omega)⟩
theorem Mem.subZ {W:World} {L:List Ch} {A:Option Addr} {ps:List Int} {i x y:Nat} (h:Mem W L) (hi:L[i]?=some (.rd A (zC ps))) (hxy:x<y) (hy:y<=ps.length):Rd W W.heap.size (A.map fun p=>p.add x) (zC (subL ps x y)):=by
 have hs:=(h.rd i hi).sub x y (by rw [Br];exact hy);rw [if_neg (by omega),<- EJ] at hs;exact hs
structure Lk where
 k:Nat
 A:Option Addr
 c:Nat
def lkC (ns:List Nat) (Ap:Option Addr) (cp:Nat) (m:Lk):List Value :=
 [U O (ns[m.k+1]?.getD 0:Nat),U O (ns[m.k]?.getD 0:Nat),Us m.A (midN ns m.k-offN ns m.k) m.c,Us (Ap.map fun p=>p.add (midN ns m.k)) (offN ns (m.k+1)-midN ns m.k) (cp-midN ns m.k)]
def Fp (ns:List Nat) (Ap:Option Addr) (cp:Nat) (ms:List Lk):List Value:=ms.flatMap (lkC ns Ap cp)
def Ey (ns:List Nat) (ps:List Int) (ms:List Lk):List (Option Addr × List Value):=ms.map fun m=>(m.A,zC (subL ps (offN ns m.k) (midN ns m.k)))
theorem Q2 (ns:List Nat) (Ap:Option Addr) (cp:Nat) (ms:List Lk) (m:Lk):Fp ns Ap cp (ms++[m])=Fp ns Ap cp ms++lkC ns Ap cp m:=by simp [Fp]
theorem Q3 (ns:List Nat) (ps:List Int) (ms:List Lk) (m:Lk):Ey ns ps (ms++[m])=Ey ns ps ms++[(m.A,zC (subL ps (offN ns m.k) (midN ns m.k)))]:=by simp [Ey]
theorem Q4:(Tryz.prog.info? 337).map (fun i=>(i.zero,i.size,i.bytes))=some (some (.agg #[U O 0,U O 0,Us none 0 0,Us none 0 0]),4,64):=by kernel_rfl
theorem Q5:RowT Tryz.prog 328 337 4 64:=by
 obtain ⟨i0,hi,hz0,hz1,hz2⟩:=info_parts Q4;exact ⟨i0,_,Tryz.underlying328,hi,hz0,hz1,hz2,rfl,by decide,by decide⟩
def netB (gn gs q:Nat) (Ap:Option Addr) (P cp:Nat) (Al:Option Addr) (k cl:Nat):Ch:=.obj gn (.cells #[.pointer (some ⟨gs,0,none⟩),Us Ap P cp,U O q,Us Al k cl] 330 (0,0))
def netP (w:World) (B gn gs q P cp k cl:Nat) (ns:List Nat) (Ap As Al:Option Addr) (ps:List Int) (ms:List Lk):List Ch :=
 [.bel B w,.rd Ap (zC ps),.rd As (Ah ns),netB gn gs q Ap P cp Al k cl,.own B 337 4 (Us Al k cl) k (Fp ns Ap cp ms),AD (Ey ns ps ms)]
theorem Q6 (w:World) (flo fhi gs q P cp0:Nat) (ns:List Nat) (A0:Option Addr) (ps:List Int) (hF:BE w flo fhi gs ns) (hh:fhi<=w.heap.size) (hn:NsOk ns) (hr:Rd w w.heap.size A0 (zC ps)) (hp:ps.length=P) (hP:P=offN ns (ns.length-1)) (hq:q<=62) :
  Calls Tryz.prog 205 #[.pointer (some ⟨gs,0,none⟩),Us A0 P cp0,U O q] w fun e w'=>∃ gn Ap cp As Al cl ms,e=.returned (.tuple #[.pointer (some ⟨gn,0,none⟩),.bool true])/\P<=cp/\ms.map Lk.k=Zj (ns.length-1)/\(∀ m∈ms,midN ns m.k-offN ns m.k<=m.c)/\w.heap.size<=gn/\((∀ p:Addr,Ap=some p->w.heap.size<=p.block)/\(∀ p:Addr,As=some p->w.heap.size<=p.block)/\∀ m∈ms,∀ p:Addr,m.A=some p->w.heap.size<=p.block) /\
   Mem w' (netP w w.heap.size gn gs q P cp (ns.length-1) cl ns Ap As Al ps ms):=by
 have CF:=K1 (fun W (hb:Below w.heap.size w W)=>hF.keep (W2:=W) fun g _ h2=>hb.block g (by omega));have CL:=K1 (fun W hb=>Ht W flo fhi gs ns (CF.out W hb));have CN:=K1 (fun W hb=>Ji W flo fhi gs ns (CF.out W hb));have CS:=K1 (fun W (hb:Below w.heap.size w W)=>Lw W flo fhi gs ns (CF.out W hb) (Zh hh hb.size) (by have:=hn.len;omega));have CW:=K1 (fun W (hb:Below w.heap.size w W) k hk=>Lx W flo fhi gs k ns (CF.out W hb) (Zh hh hb.size) (by have:=hn.len;omega) hk);have CB:=K1 (fun W (hb:Below w.heap.size w W) k hk=>Lz W flo fhi gs k ns (CF.out W hb) (Zh hh hb.size) (by have:=hn.len;omega) hk)
 have CC:=K1 (fun W (hW:Rd W W.heap.size A0 (zC ps))=>Eu A0 P cp0 ps W hW hp (by have:=hn.few;omega));have HN:=K1 hn;have HM:=K1 ((Mem.start w).add_rd (i:=0) rfl hr);have HP:=K1 (Zd hp hP);have hl1:ns.length-1<=15:=by have:=hn.len;omega
 have HNL:=K1 (Eq.refl (ns.length-1));clear hF hn hr hp;rw [<- hP] at CN;clear hP;generalize hn1:ns.length-1=n1 at *;have HN1:=K1 hn1;clear hn1 HNL;go_enter Tryz.func205,Tryz.ntmps205;go_wp2_with fail
 (with_reducible refine (CN.out _ (HM.out.bel 0 rfl)).mono ?_)
 rintro e w1 ⟨rfl,rfl⟩;clear CN;go_wp2_with fail
 (with_reducible refine (CC.out _ (HM.out.rd 1 rfl)).mono ?_)
 rintro e w1 ⟨Ap,cp,rfl,ho,hcp,hb⟩;have HAp:Hid (∀ p:Addr,Ap=some p->w.heap.size<=p.block):=K1 (AF ho);replace HM:=K1 (HM.out.push_rd hb (AJ ho) (AF ho));clear hb ho CC;go_wp2_with fail;have HG:=K1 (HM.out.bel 0 rfl).size;replace HM:=K1 (HM.out.alloc (.cells #[.pointer (some ⟨gs,0,none⟩),Us Ap P cp,U O q,Us none 0 0] 330));refine (CS.out _ (HM.out.bel 0 rfl)).mono ?_;rintro e w2 ⟨As,cs,rfl,ho,hb⟩;have hcs:=Be ho;have HAs:Hid (∀ p:Addr,As=some p->w.heap.size<=p.block):=K1 (fun p hp=>Zh (HM.out.bel 0 rfl).size (AF ho p hp));replace HM:=K1 (HM.out.push_rd hb (AJ ho) (AF ho));clear hb ho CS
 generalize w1.heap.size=gn at *;have HG2:=K1 (show gn<w2.heap.size from HM.out.lt 3 rfl);go_wp2_with fail;refine (CL.out _ (HM.out.bel 0 rfl)).mono ?_;rintro e w3 ⟨rfl,rfl⟩;have HNL:=K1 (show ns.length=n1+1 by have:=HN1.out;have:=HN.out.len;omega);clear CL;go_wp2_with fail
 have HM0:=K1 (((HM.out.pick [0,2,4,3] [.bel w.heap.size w,.rd Ap (zC ps),.rd As (Ah ns),netB gn gs q Ap P cp none 0 0] rfl (by decide)).add (c:=.own w.heap.size 337 4 (Us none 0 0) 0 (Fp ns Ap cp [])) ⟨Bh _ _ _ _,(HM.out.bel 0 rfl).size⟩ (fun _ _ _ _ g hg=>by cases hg)).add (c:=AD (Ey ns ps [])) (Da (fun a ha=>by cases ha)) (fun _ _ _ _ g hg=>by obtain ⟨a,ha,_⟩:=hg;cases ha));clear HM
 go_loopw [42] (fun i wr=>∃ (k:Nat) (Al:Option Addr) (cl:Nat) (ms:List Lk),k<=n1/\i=U O k/\Hid (ms.map Lk.k=Zj k/\(∀ m∈ms,midN ns m.k-offN ns m.k<=m.c/\∀ p:Addr,m.A=some p->w.heap.size<=p.block))/\Hid (Mem wr (netP w w.heap.size gn gs q P cp k cl ns Ap As Al ps ms))) (fun i _=>n1-(intOf i).toNat)
 case atStart=>exact ⟨0,none,0,[],Zk _,rfl,K1 ⟨rfl,fun m hm=>by cases hm⟩,HM0⟩
 case round =>
  clear HM0;obtain ⟨k,Al,cl,ms,hk,rfl,HMS,HM⟩:=hrel
  by_cases hlt:k<n1
  . obtain ⟨a,b,ha,hb,h1,h2,e1,e2,h3,h4,h5⟩:=HN.out.at_ (by have:=HN1.out;omega:k<ns.length-1);have CWk:=K1 (fun W hb=>CW.out W hb k hlt);have CBk:=K1 (fun W hb=>CB.out W hb k hlt);clear CW CB;have hba:=Nat.mul_le_mul h2 h1;rw [HN1.out,<- HP.out.2] at h5;have hP1000:P<=1000:=by rw [HP.out.2,<- HN1.out];exact HN.out.few
    generalize hx:offN ns k=x at *;generalize hy:midN ns k=y at *;generalize hz:offN ns (k+1)=z at *;have hxy:x<y:=by omega
    have hyz:y<z:=by omega
    have hyx:¬ y=x:=by omega
    have hzy:¬ z=y:=by omega
    have HE:=K1 (Zd hx (Zd hy (Zd hz (Zd e1 (Zd e2 (Zd ha hb))))));have hzcp:z<=cp:=by omega
    have hxyl:x<=y:=by omega
    have hycp:y<=cp:=by omega
    have hyzl:y<=z:=by omega
    have hzb:z<=1000:=by omega
    have hyb:y<=1000:=by omega
    have hxb:x<=1000:=by omega
    obtain ⟨k1,hk1⟩:∃ k1,k1=k+1:=⟨_,rfl⟩
    have hk1i:(k:Int)+1=(k1:Int):=by omega
    have hkcs:k1<ns.length:=by have:=HNL.out;omega
    have hkc0:k<ns.length:=by omega
    have hk1b:k1<=16:=by omega
    have wk1:IntKind.i64.wrap (k1:Int)=(k1:Int):=Zq _ (by omega);have HK1:=K1 hk1;clear hk1;clear hx hy hz e1 e2 ha hb hba;go_wp2_with fail;refine (CWk.out _ (HM.out.bel 0 rfl)).mono ?_;rintro e w4 ⟨rfl,hb4⟩;replace HM:=K1 (HM.out.below hb4);clear hb4 CWk;go_wp2_with fail;refine (CBk.out _ (HM.out.bel 0 rfl)).mono ?_;rintro e w5 ⟨rfl,hb5⟩;have hm5:=((HM.out.below hb5).alloc (.cells #[U O x,U O y] 47)).alloc (.cells #[U O y,U O z] 47);simp only [Zr] at hm5;replace HM:=K1 hm5;clear hb5 hm5 CBk
    have CM:=K1 (fun W A c (hW:Rd W W.heap.size A (zC (subL ps x y)))=>Qh W b a (y-x) c A (subL ps x y) ⟨h2,by omega⟩ ⟨h1,by omega⟩ (by have:=HE.out.2.2.2.1;omega) (by omega) hW (Dc (by omega) (by have:=HP.out.1;omega)));go_upto_region 9 with fail
    go_cut [13,14] from 52 to 93 (fun s13 s14 W=>∃ (g13:Nat) (A3:Option Addr) (c3:Nat),s13=.pointer (some ⟨g13,0,none⟩)/\s14=.bool true/\y-x<=c3/\Hid (∀ p:Addr,A3=some p->w.heap.size<=p.block)/\Hid (Mem W (netP w w.heap.size gn gs q P cp k cl ns Ap As Al ps ms++[.obj w5.heap.size (.cells #[U O x,U O y] 47 (0,0)),.obj (w5.heap.size+1) (.cells #[U O y,U O z] 47 (0,0)),.rd A3 (zC (subL ps x y)),matB g13 b a A3 (y-x) c3])))
    case rest =>
     obtain ⟨g13,A3,c3,rfl,rfl,hc3,HA3,HMr⟩:=hcut
     have HLK:=K1 (show lkC ns Ap cp ⟨k,A3,c3⟩=[U O b,U O a,Us A3 (y-x) c3,Us (Ap.map fun p=>p.add y) (z-y) (cp-y)] by
      obtain ⟨hx,hy,hz,_,_,ha,hb⟩:=HE.out;unfold lkC;dsimp only
      rw [hx,hy,hz,ha,hb];rfl)
     clear CM HM;go_wp2_with fail
     refine AC (.reads [0,1,2,3,4,5,6,7,8,9,10,11,12,13,14,15] (.eff 16 (.eff 17 (.eff 18 (.eff 19 (.eff 20 (.fin))))))) 20
      (fun W'=>(∀ i,W'.cell? ⟨gn,i,none⟩=([.pointer (some ⟨gs,0,none⟩),Us Ap P cp,U O q,Us Al k cl]:List Value)[i]?)/\(∀ i,W'.cell? ⟨w5.heap.size+1,i,none⟩=([U O y,U O z]:List Value)[i]?)/\(∀ i,W'.cell? ⟨g13,i,none⟩=([U O b,U O a,Us A3 (y-x) c3]:List Value)[i]?)) ?_
     replace HMr:=K1 HMr.out.drew;refine Zg ⟨HMr.out.cells 3 rfl,HMr.out.cells 7 rfl,HMr.out.cells 9 rfl⟩ ?_;refine Ze ?_;go_wp2_with fail;refine AH fun W7 hW=>?_;have HM1:=K1 (HMr.out.alloc_ hW.out);clear hW HMr;refine Zf ⟨HM1.out.cells 3 rfl,HM1.out.cells 7 rfl,HM1.out.cells 9 rfl⟩ ?_;refine Ze ?_;refine AQ rfl _ _ 328 rfl HM1.out 4 Q5 rfl rfl _ 1 _ [U O b,U O a,Us A3 (y-x) c3,Us (Ap.map fun p=>p.add y) (z-y) (cp-y)] rfl (HM1.out.box 10 rfl) rfl (by intro u hu;simp at hu;rcases hu with rfl | rfl | rfl | rfl <;> rfl) (by omega) ?_;intro A' c' W8 hM8;have HM2:=K1 hM8;clear hM8 HM1
     go_wp2_with fail;refine Zf ⟨HM2.out.cells 3 rfl,HM2.out.cells 7 rfl,HM2.out.cells 9 rfl⟩ ?_;refine Ze ?_;go_wp2_with fail;refine Zf ⟨HM2.out.cells 3 rfl,HM2.out.cells 7 rfl,HM2.out.cells 9 rfl⟩ ?_;refine Ze ?_;go_wp2_with fail;refine Zf ⟨HM2.out.cells 3 rfl,HM2.out.cells 7 rfl,HM2.out.cells 9 rfl⟩ ?_;refine Ze ?_;have d3:=HM2.out.cells 3 rfl;have f3:=fun j=>HM2.out.frozen 3 j rfl
     have HM3:=K1 (((HM2.out.set (i:=3) (j:=3) rfl (Us A' (k+1) c')).famSnoc (i:=5) (j:=8) rfl rfl).front 6);clear HM2;go_wp2_with fail;refine After.last (by decide) (Zl ?_);go_wp2_with fail;go_roundw
     case rel =>
      refine ⟨k1,A',c',ms++[⟨k,A3,c3⟩],by omega,rfl,K1 ⟨?_,fun m hm=>?_⟩,K1 ?_⟩
      . rw [Zn,HMS.out.1,HK1.out,Zs];rfl
      . rcases List.mem_append.1 hm with hm | hm
        . exact HMS.out.2 m hm
        . rw [List.mem_singleton.1 hm];dsimp only;exact ⟨by rw [HE.out.1,HE.out.2.1];exact hc3,HA3.out⟩
      . unfold netP;rw [Q2,HLK.out,Q3,HK1.out];dsimp only;rw [HE.out.1,HE.out.2.1];exact HM3.out
     case measure=>simp [intOf];omega
    case first =>
     refine A9 fun W0 hW0=>?_;replace HM:=K1 (hW0.out.symm ▸ HM.out);clear hW0;obtain ⟨bS,oS,rfl,_⟩:=HM.out.rd 2 rfl (by rw [DV];omega);have HSA:=K1 (show (Ah ns)[k]?=some (U O a)/\(Ah ns)[k1]?=some (U O b) from ⟨by simp [Ah,HE.out.2.2.2.2.2.1],by rw [HK1.out];simp [Ah,HE.out.2.2.2.2.2.2]⟩);have hyps:y<=ps.length:=by have:=HP.out.1;omega
     have HYP:=K1 hyps;clear hyps
     refine AC (.reads [0,1,2,3,4,5,6,7,8,9,10,11,12,13,14,15,16,17] (.two 18 22 (.reads [19,20,21] (.eff 22 (.eff 23 (.reads [24] (.fin))))) (.eff 18 (.reads [19,20,21] (.eff 23 (.reads [24] (.fin))))))) 25
      (fun W'=>W'.cell? ⟨bS,oS+k,none⟩=some (U O a)/\W'.cell? ⟨bS,oS+k1,none⟩=some (U O b)/\(∀ i,W'.cell? ⟨gn,i,none⟩=([.pointer (some ⟨gs,0,none⟩),Us Ap P cp,U O q,Us Al k cl]:List Value)[i]?)/\(∀ i,W'.cell? ⟨w5.heap.size,i,none⟩=([U O x,U O y]:List Value)[i]?)) ?_
     replace HM:=K1 HM.out.drew;refine Zg ⟨HM.out.rdAt 2 rfl HSA.out.1,HM.out.rdAt 2 rfl HSA.out.2,HM.out.cells 3 rfl,HM.out.cells 6 rfl⟩ ?_;have CK:=K1 (CM.out _ (Ap.map fun p=>p.add x) (cp-x) (HM.out.subZ (i:=1) rfl hxy HYP.out));refine PlS.two_ (PlS.eff_ ?_) (PlS.eff_ ?_)
     . simp only [AW,p1,p2,p3,p4];go_wp2_with fail;refine (CK.out).mono ?_;rintro e w6 ⟨A3,c3,rfl,ho,hc3,hb6⟩;have HA3:Hid (∀ p:Addr,A3=some p->w.heap.size<=p.block):=K1 (fun p hp=>Zh (HM.out.bel 0 rfl).size (AF ho p hp));have HMa:=K1 (HM.out.push_rd hb6 (AJ ho) (AF ho));clear ho hb6 CK;go_wp2_with fail;refine Zf ⟨HMa.out.rdAt 2 rfl HSA.out.1,HMa.out.rdAt 2 rfl HSA.out.2,HMa.out.cells 3 rfl,HMa.out.cells 6 rfl⟩ ?_;refine Zg ⟨HMa.out.rdAt 2 rfl HSA.out.1,HMa.out.rdAt 2 rfl HSA.out.2,HMa.out.cells 3 rfl,HMa.out.cells 6 rfl⟩ ?_;refine Ze ?_;go_wp2_with fail;refine AH fun W7 hW=>?_
       have HMb:=K1 (HMa.out.alloc_ hW.out);clear hW HMa;refine Zf ⟨HMb.out.rdAt 2 rfl HSA.out.1,HMb.out.rdAt 2 rfl HSA.out.2,HMb.out.cells 3 rfl,HMb.out.cells 6 rfl⟩ ?_;refine Ze ?_;have c9:=HMb.out.cells 9 rfl;have f9:=fun j=>HMb.out.frozen 9 j rfl
       have HMc:=K1 (((HMb.out.set (i:=9) (j:=0) rfl (U O b)).set (i:=9) (j:=1) rfl (U O a)).set (i:=9) (j:=2) rfl (Us A3 (y-x) c3));clear HMb;go_wp2_with fail;refine Zf ⟨HMc.out.rdAt 2 rfl HSA.out.1,HMc.out.rdAt 2 rfl HSA.out.2,HMc.out.cells 3 rfl,HMc.out.cells 6 rfl⟩ ?_;clear c9 f9;refine Zg ⟨HMc.out.rdAt 2 rfl HSA.out.1,HMc.out.rdAt 2 rfl HSA.out.2,HMc.out.cells 3 rfl,HMc.out.cells 6 rfl⟩ ?_;refine Zl ?_;go_wp2_with fail;go_meet;exact ⟨_,A3,c3,rfl,rfl,hc3,HA3,K1 (HMc.out.pick [0,1,2,3,4,5,6,7,8,9] _ rfl (by decide))⟩
     . simp only [AW,p1,p2,p3,p4];go_wp2_with fail;refine AH fun W7 hW=>?_;have HMa:=K1 (show Mem W7 (_++[.obj W0.heap.size _]) from HM.out.alloc_ hW.out);clear hW HM CK;refine Zf ⟨HMa.out.rdAt 2 rfl HSA.out.1,HMa.out.rdAt 2 rfl HSA.out.2,HMa.out.cells 3 rfl,HMa.out.cells 6 rfl⟩ ?_;have CK:=K1 (CM.out _ (Ap.map fun p=>p.add x) (cp-x) (HMa.out.subZ (i:=1) rfl hxy HYP.out));refine Ze ?_;go_wp2_with fail;refine (CK.out).mono ?_;rintro e w6 ⟨A3,c3,rfl,ho,hc3,hb6⟩;have HA3:Hid (∀ p:Addr,A3=some p->w.heap.size<=p.block):=K1 (fun p hp=>Zh (HMa.out.bel 0 rfl).size (AF ho p hp))
       have HMb:=K1 (HMa.out.push_rd hb6 (AJ ho) (AF ho));clear ho hb6 CK HMa;go_wp2_with fail;refine Zf ⟨HMb.out.rdAt 2 rfl HSA.out.1,HMb.out.rdAt 2 rfl HSA.out.2,HMb.out.cells 3 rfl,HMb.out.cells 6 rfl⟩ ?_;refine Zg ⟨HMb.out.rdAt 2 rfl HSA.out.1,HMb.out.rdAt 2 rfl HSA.out.2,HMb.out.cells 3 rfl,HMb.out.cells 6 rfl⟩ ?_;refine Ze ?_;have c9:=HMb.out.cells 8 rfl;have f9:=fun j=>HMb.out.frozen 8 j rfl
       have HMc:=K1 (((HMb.out.set (i:=8) (j:=0) rfl (U O b)).set (i:=8) (j:=1) rfl (U O a)).set (i:=8) (j:=2) rfl (Us A3 (y-x) c3));clear HMb;go_wp2_with fail;refine Zf ⟨HMc.out.rdAt 2 rfl HSA.out.1,HMc.out.rdAt 2 rfl HSA.out.2,HMc.out.cells 3 rfl,HMc.out.cells 6 rfl⟩ ?_;clear c9 f9;refine Zg ⟨HMc.out.rdAt 2 rfl HSA.out.1,HMc.out.rdAt 2 rfl HSA.out.2,HMc.out.cells 3 rfl,HMc.out.cells 6 rfl⟩ ?_;refine Zl ?_;go_wp2_with fail;go_meet;exact ⟨_,A3,c3,rfl,rfl,hc3,HA3,K1 (HMc.out.pick [0,1,2,3,4,5,6,7,9,8] _ rfl (by decide))⟩
  . have hkn:k=n1:=by omega
    subst hkn;go_wp2_with fail
    go_ret2
    exact ⟨gn,Ap,cp,As,Al,cl,ms,rfl,hcp,HMS.out.1,fun m hm=>(HMS.out.2 m hm).1,HG.out,⟨HAp.out,HAs.out,fun m hm=>(HMS.out.2 m hm).2⟩,HM.out⟩
theorem Q7:(Tryz.prog.info? 87).map (fun i=>(i.zero,i.size,i.bytes))=some (some (Us none 0 0),1,24):=by kernel_rfl
theorem Q8:RowT Tryz.prog 340 87 1 24:=by
 obtain ⟨i0,hi,hz0,hz1,hz2⟩:=info_parts Q7;exact ⟨i0,_,Tryz.underlying340,hi,hz0,hz1,hz2,rfl,by decide,by decide⟩
def vvO (base n c:Nat) (A:Option Addr) (xs:List Value):Ch:=.own base 87 1 (Us A n c) n xs
def vvB (g n c:Nat) (A:Option Addr):Ch:=.obj g (.cells #[Us A n c] 340 (0,0))
theorem L9 (w:World) (L:List Ch) (h:Mem w L) (ib io base g n c m cz:Nat) (A Z:Option Addr) (xs:List Value) (hb:L[ib]?=some (vvB g n c A)) (ho:L[io]?=some (vvO base n c A xs)) (hn:n<=1000) :
  Calls Tryz.prog 241 #[Us Z m cz,.pointer (some ⟨g,0,none⟩)] w fun e w'=>e=.returned (.tuple #[])/\∃ A' c',Mem w' (two L ib io (vvB g (n+1) c' A') (vvO base (n+1) c' A' (xs++[Us Z m cz]))):=by
 have HB:=K1 hb;have HO:=K1 ho;have HN:=K1 (Dl ho hb (by simp [vvO,vvB]));have c0:=h.cell ib 0 hb rfl;have HM1:=K1 (h.alloc (.cells #[Us Z m cz] 87));clear h hb ho;go_enter Tryz.func241,Tryz.ntmps241
 go_wp2_with (at_builtin;refine AQ rfl _ _ 340 rfl HM1.out io Q8 (at_l HO.out) rfl _ 1 _ [Us Z m cz] rfl (HM1.out.box L.length Bc) rfl (by intro u hu;simp at hu;subst hu;rfl) (by omega) ?_;intro A' c' W5 hM5;have hM6:=hM5.setl HO.out;have c4:=hM6.cell ib 0 (By HN.out HB.out) rfl;have f4:=hM6.frozen ib 0 (By HN.out HB.out);have HM6:=K1 hM6;clear hM5 hM6 HM1 c0)
 go_end0
 refine ⟨rfl,A',c',?_⟩;have h7:=HM6.out.set (i:=ib) (j:=0) (By HN.out HB.out) (Us A' (n+1) c');unfold two;rw [List.set_comm _ _ HN.out] at h7;exact h7
def Cz (xs:List Int):Nat->List Int
 | 0=>xs
 | k+1=>(Cz xs k).set k (max (xs[k]?.getD 0) 0)
theorem Hv (xs:List Int):∀ k,(Cz xs k).length=xs.length
 | 0=>rfl
 | k+1=>by rw [Cz,Zt,Hv xs k]
theorem LA (xs:List Int):∀ k j,k<=j->(Cz xs k)[j]?=xs[j]?
 | 0,_,_=>rfl
 | k+1,j,h=>by rw [Cz,Zu (by omega),LA xs k j (by omega)]
theorem LB {xs:List Int} (h:In64 xs):∀ k,In64 (Cz xs k)
 | 0=>h
 | k+1=>by
   refine (LB h k).set _ ?_
   cases hx:xs[k]? with
   | none=>simp
   | some x=>have:=h.at_ hx;simp;omega
def linL (ns:List Nat) (ps:List Int) (q k:Nat) (xs:List Int):List Int :=
 Bn 0 (subL ps (midN ns k) (offN ns (k+1))) (mvL (subL ps (offN ns k) (midN ns k)) xs (ns[k]?.getD 0) q (ns[k+1]?.getD 0)) (ns[k+1]?.getD 0)
def layL (ns:List Nat) (ps:List Int) (q:Nat) (xs:List Int):Nat->List Int
 | 0=>xs
 | k+1=>if k+1<ns.length-1 then Cz (linL ns ps q k (layL ns ps q xs k)) (ns[k+1]?.getD 0) else linL ns ps q k (layL ns ps q xs k)
theorem Jj (ns:List Nat) (ps:List Int) (q k:Nat) (xs:List Int):(linL ns ps q k xs).length=ns[k+1]?.getD 0:=by rw [linL,D4,Gb]
theorem Jk (ns:List Nat) (ps:List Int) (q k:Nat) (xs:List Int):In64 (linL ns ps q k xs):=FX (Qk _ _ _ _ _) _
theorem EL (ns:List Nat) (ps:List Int) (q:Nat) (xs:List Int) (hx:xs.length=ns[0]?.getD 0):∀ k,(layL ns ps q xs k).length=ns[k]?.getD 0
 | 0=>hx
 | k+1=>by
   rw [layL]
   split
   . rw [Hv,Jj]
   . rw [Jj]
theorem LC (ns:List Nat) (ps:List Int) (q:Nat) {xs:List Int} (hx:In64 xs):∀ k,In64 (layL ns ps q xs k)
 | 0=>hx
 | k+1=>by
   rw [layL]
   split
   . exact LB (Jk _ _ _ _ _) _
   . exact Jk _ _ _ _ _
structure Ly where
 A:Option Addr
 c:Nat
 v:List Int
def AK (ls:List Ly):List Value:=ls.map fun l=>Us l.A l.v.length l.c
def AO (ls:List Ly):List (Option Addr × List Value):=ls.map fun l=>(l.A,zC l.v)
def lyOk (ns:List Nat) (ps:List Int) (q:Nat) (xs:List Int) (n:Nat) (ls:List Ly):Prop:=ls.map Ly.v=(Zj n).map (layL ns ps q xs)/\∀ l∈ls,l.v.length<=l.c
theorem lyOk.len {ns:List Nat} {ps:List Int} {q:Nat} {xs:List Int} {n:Nat} {ls:List Ly} (h:lyOk ns ps q xs n ls):ls.length=n:=by
 have:=congrArg List.length h.1
 simpa using this
theorem lyOk.at_ {ns:List Nat} {ps:List Int} {q:Nat} {xs:List Int} {n:Nat} {ls:List Ly} (h:lyOk ns ps q xs n ls) {k:Nat} (hk:k<n):∃ l,ls[k]?=some l/\l.v=layL ns ps q xs k/\l.v.length<=l.c:=by
 obtain ⟨l,hl⟩:=Au ls k (by rw [h.len];exact hk);refine ⟨l,hl,?_,h.2 l (Zi hl)⟩;have:=congrArg (·[k]?) h.1;simp only [Zo,hl,Zv hk,Zp,Option.some.injEq] at this;exact this
theorem lyOk.snoc {ns:List Nat} {ps:List Int} {q:Nat} {xs:List Int} {n:Nat} {ls:List Ly} (h:lyOk ns ps q xs n ls) {l:Ly} (hv:l.v=layL ns ps q xs n) (hc:l.v.length<=l.c):lyOk ns ps q xs (n+1) (ls++[l]):=by
 refine ⟨?_,fun m hm=>?_⟩
 . rw [Zn,h.1,Zs,Zn];simp [hv]
 . rcases List.mem_append.1 hm with hm | hm
   . exact h.2 m hm
   . rw [List.mem_singleton.1 hm];exact hc
theorem Mem.famRd {W:World} {L:List Ch} {l:List (Option Addr × List Value)} {i j:Nat} {A:Option Addr} {vs:List Value} (h:Mem W L) (hi:L[i]?=some (AD l)) (hj:l[j]?=some (A,vs)):Rd W W.heap.size A vs:=h.st i hi (A,vs) (Zi hj)
def trP (w:World) (g6 n co:Nat) (Ao:Option Addr) (ls:List Ly):List Ch:=[.bel w.heap.size w,vvB g6 n co Ao,vvO w.heap.size n co Ao (AK ls),AD (AO ls)]
def trZ (w:World) (g6 n co:Nat) (Ao:Option Addr) (ls:List Ly) (bz gz b cz:Nat) (zs:List Int):List Ch:=[.bel w.heap.size w,vvB g6 n co Ao,vvO w.heap.size n co Ao (AK ls),AD (AO ls),.own bz 2 1 (Us (some ⟨gz,0,none⟩) b cz) b (zC zs)]
theorem LD {W w:World} {g6 n co bz gz b cz c':Nat} {Ao A':Option Addr} {ls:List Ly} {zs:List Int} (h:Mem W (two (trZ w g6 n co Ao ls bz gz b cz zs) 1 2 (vvB g6 (n+1) c' A') (vvO w.heap.size (n+1) c' A' (AK ls++[Us (some ⟨gz,0,none⟩) b cz])))) (hz:zs.length=b) :
  Mem W (trP w g6 (n+1) c' A' (ls++[⟨some ⟨gz,0,none⟩,cz,zs⟩])):=by
 have h1:=((h.freeze (i:=4) rfl).famSnoc (i:=3) (j:=4) rfl rfl).front 4;have e1:AK (ls++[⟨some ⟨gz,0,none⟩,cz,zs⟩])=AK ls++[Us (some ⟨gz,0,none⟩) b cz]:=by simp [AK,hz]
 have e2:AO (ls++[⟨some ⟨gz,0,none⟩,cz,zs⟩])=AO ls++[(some ⟨gz,0,none⟩,zC zs)]:=by simp [AO]
 unfold trP;rw [e1,e2];exact h1
theorem Mem.lower {W:World} {L:List Ch} {base base' e size n i:Nat} {v:Value} {xs:List Value} (h:Mem W L) (hi:L[i]?=some (.own base e size v n xs)) (hb:base'<=base):Mem W (L.set i (.own base' e size v n xs)) :=
 h.turn hi ⟨DG hb (h.own i hi),Zh hb (h.holds i _ hi).2⟩ (fun _ hg=>hg) trivial
theorem LE (w:World) (e:TypeId) (v:Value):(w.alloc (.cells #[v] e)).ownsRow w.heap.size e 1 (Us (some ⟨w.heap.size,0,none⟩) 1 1) 1 [v] :=
 ⟨by simp,.inr ⟨w.heap.size,1,#[v],rfl,Zm _,heap_alloc_new w _,Zm _,by simp [maxLen],by simp,by simp⟩⟩
theorem LF {ms:List Lk} {n k:Nat} (h:ms.map Lk.k=Zj n) (hk:k<n):∃ m,ms[k]?=some m/\m.k=k:=by
 have hl:ms.length=n:=by have:=congrArg List.length h;simpa using this
 obtain ⟨m,hm⟩:=Au ms k (by omega);refine ⟨m,hm,?_⟩;have:=congrArg (·[k]?) h;simp only [Zo,hm,Zv hk,Zp,Option.some.injEq] at this;exact this
theorem Mem.link {W w0:World} {B gn gs q P cp n cl k:Nat} {ns:List Nat} {Ap As Al:Option Addr} {ps:List Int} {ms:List Lk} {m:Lk} (h:Mem W (netP w0 B gn gs q P cp n cl ns Ap As Al ps ms)) (hm:ms[k]?=some m) :
  ∃ bl ol,Al=some ⟨bl,ol,none⟩/\∀ i v,(lkC ns Ap cp m)[i]?=some v->W.cell? ⟨bl,ol+k*4+i,none⟩=some v:=by
 have hr:=AJ (h.own 4 rfl);have hf:=Ef (lkC ns Ap cp) 4 (fun _=>rfl) ms k m hm
 obtain ⟨bl,ol,rfl,_,hc⟩:=hr (by
  have:=(List.getElem?_eq_some_iff.1 (hf 0 _ rfl)).1
  exact Nat.lt_of_le_of_lt (Zk _) this)
 exact ⟨bl,ol,rfl,fun i v hv=>by rw [Nat.add_assoc];exact hc _ _ (hf i v hv)⟩
theorem Q9 (w w0:World) (B gn gs q P cp cl flo fhi nx cx:Nat) (ns:List Nat) (Ap As Al X:Option Addr) (ps xs:List Int) (ms:List Lk) (hN:Mem w (netP w0 B gn gs q P cp (ns.length-1) cl ns Ap As Al ps ms)) (hMS:ms.map Lk.k=Zj (ns.length-1)/\∀ m∈ms,midN ns m.k-offN ns m.k<=m.c)
  (hF:BE w flo fhi gs ns) (hh:fhi<=w.heap.size) (hn:NsOk ns) (hp:ps.length=P) (hP:P=offN ns (ns.length-1)) (hPc:P<=cp) (hX:Rd w w.heap.size X (zC xs)) (hx:xs.length=nx) (hnx:ns[0]?=some nx) (h1:In64 xs) (h2:In64 ps) (hq:q<=62) (hcl:ns.length-1<=cl) :
  Calls Tryz.prog 232 #[.pointer (some ⟨gn,0,none⟩),Us X nx cx] w fun e w'=>∃ Ao co ls,e=.returned (.tuple #[Us Ao ns.length co,.bool true])/\lyOk ns ps q xs ns.length ls/\Mem w' [.bel w.heap.size w,vvO w.heap.size ns.length co Ao (AK ls),AD (AO ls)]:=by
 have HN:=K1 (fun W (hb:Below w.heap.size w W)=>hN.below hb);have CS:=K1 (Lw w flo fhi gs ns hF hh (by have:=hn.len;omega));have CC:=K1 (fun W (hW:Rd W W.heap.size X (zC xs))=>Eu X nx cx xs W hW hx (by have:=hn.few;have h3:=hn.at_ (k:=0) (by have:=hn.len;omega);obtain ⟨a,b,ha,_,_,_,_,_,h4,_⟩:=h3;rw [hnx] at ha;injection ha with ha;omega));have HNO:=K1 hn;have HMS:=K1 hMS;have HP:=K1 (Zd hp (Zd hP (Zd hPc (Zd h1 (Zd h2 hnx)))));have HB:=K1 (show ∀ x y,x<y->y<=ps.length->Rd w w.heap.size (Ap.map fun p=>p.add x) (zC (subL ps x y)) from fun x y hxy hy=>hN.subZ (i:=1) rfl hxy hy)
 have c0:=hN.cells 3 rfl;have HM:=K1 ((Mem.start w).add_rd (i:=0) rfl hX);have hl1:ns.length-1<=15:=by have:=hn.len;omega
 have hnl:ns.length=ns.length-1+1:=by have:=hn.len;omega
 have hx0:=hnx;clear hN hF hn hp hP hPc hX h1 h2 hMS hh;rw [hnl];generalize hn1:ns.length-1=n1 at *;have HN1:=K1 (Zd hn1 hnl);clear hn1;rw [hnl] at CS;have hns0:(Ah ns)[0]?=some (U O nx):=by simp [Ah,hnx]
 have HNS0:=K1 hns0;clear hnl hns0 hnx hx0;go_enter Tryz.func232,Tryz.ntmps232;go_wp2_with fail;refine (CS.out).mono ?_;rintro e w1 ⟨A1,c1,rfl,ho,hb⟩;replace HM:=K1 (HM.out.push_rd hb (AJ ho) (AF ho));clear ho CS c0;obtain ⟨b1,o1,rfl,_⟩:=HM.out.rd 2 rfl (by have:=(List.getElem?_eq_some_iff.1 HNS0.out).1;omega);have d0:=HM.out.rdAt 2 rfl HNS0.out;rw [Nat.add_zero] at d0;go_wp2_with fail;refine (CC.out _ (HM.out.rd 1 rfl)).mono ?_;rintro e w2 ⟨A2,c2,rfl,ho,hc2,hb2⟩;replace HM:=K1 (HM.out.push_rd hb2 (AJ ho) (AF ho));clear ho CC d0 hb2 hb
 have hm3:=(HM.out.push_own ((Below.refl w2.heap.size w2).alloc (Zm _) (.cells #[Us A2 nx c2] 87)) (LE w2 87 (Us A2 nx c2)) rfl).alloc (.cells #[Us (some ⟨w2.heap.size,0,none⟩) 1 1] 340);simp only [Zr] at hm3;have c0:=(HN.out _ (hm3.bel 0 rfl)).cells 3 rfl;have hg2:=(HM.out.bel 0 rfl).size;replace HM:=K1 hm3;clear hm3;go_wp2_with fail
 have hm4:=(((HM.out.lower (i:=4) rfl hg2).add (c:=AD (AO [])) (Da (fun a ha=>by cases ha)) (fun _ _ _ _ g hg=>by obtain ⟨a,ha,_⟩:=hg;cases ha)).famSnoc (i:=6) (j:=3) rfl rfl).pick [0,5,4,6] (trP w (w2.heap.size+1) 1 1 (some ⟨w2.heap.size,0,none⟩) [⟨A2,c2,xs⟩]) (by rw [<- hx];rfl) (by decide);have HM0:=K1 hm4
 have hok0:lyOk ns ps q xs 1 [⟨A2,c2,xs⟩]:=⟨rfl,fun l hl=>by rw [List.mem_singleton.1 hl];dsimp only;omega⟩
 have HOK0:=K1 hok0;have HX:=K1 hx;clear hm4 HM c0 hg2 hok0 hx;generalize w2.heap.size+1=g6 at *
 go_loopw [37] (fun i wr=>∃ (k:Nat) (Ao:Option Addr) (co:Nat) (ls:List Ly),k<=n1/\i=U O k/\Hid (lyOk ns ps q xs (k+1) ls)/\Hid (Mem wr (trP w g6 (k+1) co Ao ls))) (fun i _=>n1-(intOf i).toNat)
 case atStart=>exact ⟨0,_,1,_,Zk _,rfl,HOK0,HM0⟩
 case round =>
  clear HM0 HOK0;obtain ⟨k,Ao,co,ls,hk,rfl,HOK,HM⟩:=hrel
  by_cases hlt:k<n1
  . obtain ⟨a,b,ha,hb,h1,h2,e1,e2,h3,h4,h5⟩:=HNO.out.at_ (by have:=HN1.out.1;omega:k<ns.length-1);obtain ⟨m,hm,hmk⟩:=LF HMS.out.1 hlt;have hmc:=HMS.out.2 m (Zi hm);obtain ⟨bl,ol,rfl,hlk⟩:=(HN.out w (Below.refl _ _)).link hm
    have hlk2:=fun W hb=>((HN.out W hb).link hm)
    have hfam:=fun W hb=>(HN.out W hb).famRd (i:=5) (j:=k) (A:=m.A) (vs:=zC (subL ps (offN ns m.k) (midN ns m.k))) rfl (by simp [Ey,hm])
    have hcells:lkC ns Ap cp m=[U O b,U O a,Us m.A (midN ns k-offN ns k) m.c,Us (Ap.map fun p=>p.add (midN ns k)) (offN ns (k+1)-midN ns k) (cp-midN ns k)]:=by
     unfold lkC;rw [hmk,ha,hb];rfl
    rw [hmk] at hmc hfam;obtain ⟨l,hl,hlv,hlc⟩:=HOK.out.at_ (show k<k+1 by omega);have hll:l.v.length=a:=by rw [hlv,EL ns ps q xs (by rw [HP.out.2.2.2.2.2];exact HX.out) k,ha];rfl
    have hba:=Nat.mul_le_mul h2 h1;rw [HN1.out.1,<- HP.out.2.1] at h5;have hP1000:P<=1000:=by rw [HP.out.2.1,<- HN1.out.1];exact HNO.out.few
    have hlin:linL ns ps q k l.v=Bn 0 (subL ps (midN ns k) (offN ns (k+1))) (mvL (subL ps (offN ns k) (midN ns k)) l.v a q b) b:=by unfold linL;rw [ha,hb];rfl
    have hnext:layL ns ps q xs (k+1)=if k+1<n1 then Cz (linL ns ps q k l.v) b else linL ns ps q k l.v:=by rw [layL,HN1.out.1,hb,<- hlv];rfl
    generalize hx:offN ns k=x at *;generalize hy:midN ns k=y at *;generalize hz:offN ns (k+1)=z at *;have hxy:x<y:=by omega
    have hyz:y<z:=by omega
    have hyps:y<=ps.length:=by have:=HP.out.1;omega
    have hzps:z<=ps.length:=by have:=HP.out.1;omega
    have CM:=K1 (fun W (hb:Below w.heap.size w W) (hL:Rd W W.heap.size l.A (zC l.v))=>Ql W b a (y-x) m.c q l.c m.A l.A (subL ps x y) l.v ⟨h2,by omega⟩ ⟨h1,by omega⟩ (by omega) (by omega) hmc (by omega) (hfam W hb) hL (Dc (by omega) hyps) hll (HP.out.2.2.2.2.1.sub _ _) (by rw [hlv];exact LC ns ps q HP.out.2.2.2.1 k) hq)
    obtain ⟨k1,hk1⟩:∃ k1,k1=k+1:=⟨_,rfl⟩
    have hk1i:(k:Int)+1=(k1:Int):=by omega
    have hk1b:k1<=16:=by omega
    have hkc:k<k+1:=by omega
    have wk1:IntKind.i64.wrap (k1:Int)=(k1:Int):=Zq _ (by omega);rw [<- hk1] at hnext HM HOK;have HK1:=K1 hk1;have HNX:=K1 (Zd hnext (Zd hlin (Zd hlv (Zd hll (Zd hlc hl)))));have HBI:=K1 (HB.out y z hyz hzps);have HBL:=K1 (show (subL ps y z).length=b by rw [Dc (by omega) hzps];omega)
    have d0:∀ i v,(lkC ns Ap cp m)[i]?=some v->wr.cell? ⟨bl,ol+k*4+i,none⟩=some v:=fun i v hv=>by
     obtain ⟨bl',ol',e,h⟩:=hlk2 wr (HM.out.bel 0 rfl);injection e with e
     injection e with e1 e2
     subst e1;subst e2
     exact h i v hv
    rw [hcells] at d0;have d1:=d0 0 _ rfl;have d2:=d0 1 _ rfl;have d3:=d0 2 _ rfl;have d4:=d0 3 _ rfl;have hzy:z-y=b:=by omega
    have hzcp:z<=cp:=by have:=HP.out.2.2.1;omega
    have hk1n:k<k1:=by omega
    clear hk1;rw [hzy] at d4;rw [Nat.add_zero] at d1;clear ha hb e1 e2 hm hmk hlk hlk2 hfam hcells hmc hl hlv hlc hll hba hlin hnext hx hy hz d0 hkc;go_wp2_with fail;refine A9 fun W0 hW0=>?_;replace HM:=K1 (HM.out.alloc_ hW0.out);clear hW0 d1 d2 d3 d4;generalize wr.heap.size=g9 at *;obtain ⟨go,rfl⟩:=HM.out.ownA 2 rfl (by omega);have HLV:=K1 (show (AK ls)[k]?=some (Us l.A a l.c) by simp [AK,HNX.out.2.2.2.2.2,HNX.out.2.2.2.1])
    have HLK:=K1 (show ∀ (W:World) (M:List Ch),Mem W M->M[2]?=some (vvO w.heap.size k1 co (some ⟨go,0,none⟩) (AK ls))->W.cell? ⟨go,k,none⟩=some (Us l.A a l.c) from fun W M h hM=>((h.own 2 hM).cellAt k (by omega)).trans HLV.out);have HLR:=K1 (show ∀ (W:World) (M:List Ch),Mem W M->M[3]?=some (AD (AO ls))->Rd W W.heap.size l.A (zC l.v) from fun W M h hM=>h.famRd (j:=k) hM (by simp [AO,HNX.out.2.2.2.2.2]))
    refine AC (.reads [0,1,2,3,4,5,6,7,8,9] (.eff 10 (.reads [11,12,13,14,15] (.fin)))) 16
     (fun W'=>(∀ i,W'.cell? ⟨g9,i,none⟩=([U O b,U O a,Us m.A (y-x) m.c,Us (Ap.map fun p=>p.add y) b (cp-y)]:List Value)[i]?)/\W'.cell? ⟨g6,0,none⟩=some (Us (some ⟨go,0,none⟩) k1 co)/\W'.cell? ⟨go,k,none⟩=some (Us l.A a l.c)/\(∀ i,W'.cell? ⟨gn,i,none⟩=([.pointer (some ⟨gs,0,none⟩),Us Ap P cp,U O q,Us (some ⟨bl,ol,none⟩) n1 cl]:List Value)[i]?)) ?_
    replace HM:=K1 HM.out.drew;refine Zg ⟨HM.out.cells 4 rfl,HM.out.cell 1 0 rfl rfl,HLK.out _ _ HM.out rfl,(HN.out _ (HM.out.bel 0 rfl)).cells 3 rfl⟩ ?_;refine Ze ?_;go_wp2_with fail;refine (CM.out _ (HM.out.bel 0 rfl) (HLR.out _ _ HM.out rfl)).mono ?_;rintro e w3 ⟨Z,cz,rfl,ho,hcz,hb⟩;replace HM:=K1 (HM.out.push_own hb ho rfl);clear ho hb CM;generalize W0.drew.heap.size=bz at *;go_wp2_with fail;refine Zf ⟨HM.out.cells 4 rfl,HM.out.cell 1 0 rfl rfl,HLK.out _ _ HM.out rfl,(HN.out _ (HM.out.bel 0 rfl)).cells 3 rfl⟩ ?_
    refine Zg ⟨HM.out.cells 4 rfl,HM.out.cell 1 0 rfl rfl,HLK.out _ _ HM.out rfl,(HN.out _ (HM.out.bel 0 rfl)).cells 3 rfl⟩ ?_;refine Zl ?_;have d4:=HM.out.cell 4 3 rfl rfl;go_wp2_with fail;obtain ⟨gz,rfl⟩:=HM.out.ownA 5 rfl (by omega);replace HM:=K1 (HM.out.add_rd (i:=0) rfl HBI.out);have h9:b<=cp-y:=by omega
    have h10:b<=1000000000:=by omega
    have h11:0+b<=(mvL (subL ps x y) l.v a q b).length:=by rw [Gb];omega
    have HVA:=Hk w3 _ HM.out 5 6 bz b cz 0 b cz (cp-y) (some ⟨gz,0,none⟩) (some ⟨gz,0,none⟩) (Ap.map fun p=>p.add y) (mvL (subL ps x y) l.v a q b) (subL ps y z) rfl rfl HBL.out h11 (Gb _ _ _ _ _) (fun _=>rfl) hcz h9 h10;clear h9 h10 h11;rw [<- HNX.out.2.1] at HVA;refine HVA.mono ?_;clear HVA;rintro e w4 ⟨rfl,hm4⟩;replace HM:=K1 hm4;clear hm4 d4;have HZL:=K1 (show (linL ns ps q k l.v).length=b by rw [HNX.out.2.1,D4,Gb]);have c0:=(HN.out _ (HM.out.bel 0 rfl)).cells 3 rfl;replace HM:=K1 (HM.out.pick [0,1,2,3,5] (trZ w g6 k1 co (some ⟨go,0,none⟩) ls bz gz b cz (linL ns ps q k l.v)) rfl (by decide))
    have HNX1:=K1 HNX.out.1;have HLI:=K1 (Jk ns ps q k l.v);clear HNX HLK HLR HLV HBI HBL HK1;generalize linL ns ps q k l.v=lin at *
    by_cases hr:k1<n1
    . have HV:=K1 (HNX1.out.trans (if_pos hr));clear HNX1;go_wp2_with fail;clear c0
      go_loopw [70] (fun i wr=>∃ j:Nat,j<=b/\i=U O j/\Hid (Mem wr (trZ w g6 k1 co (some ⟨go,0,none⟩) ls bz gz b cz (Cz lin j)))) (fun i _=>b-(intOf i).toNat)
      case atStart=>exact ⟨0,Zk _,rfl,HM⟩
      case round =>
       clear HM;obtain ⟨j,hj,rfl,HM⟩:=hrel
       by_cases hlt2:j<b
       . obtain ⟨v,hv⟩:=Au lin j (by have:=HZL.out;omega);have hc1:wr.cell? ⟨gz,j,none⟩=some (U O v):=((HM.out.own 4 rfl).cellAt j (by omega)).trans (Bk ((LA lin j j (Zm _)).trans hv));have HS:=K1 (show zC (Cz lin (j+1))=(zC (Cz lin j)).set j (U O (max v 0)) by rw [Cz,Dn,hv];rfl);have kf:=HM.out.ownF 4 rfl;have hm3:=HM.out.setOwn (j:=j) (i:=4) rfl (U O (max v 0));rw [<- HS.out] at hm3;have HM3:=K1 hm3;clear hm3 hv HM;have HRV:=K1 (fun W=>P8 W v);generalize max v 0=v0 at *;go_wp2_with fail;refine (HRV.out _).mono ?_;rintro e w5 ⟨rfl,rfl⟩;go_wp2_with fail;go_roundw
         case rel=>exact ⟨j+1,by omega,by go_num,HM3⟩
         case measure=>simp [intOf];omega
       . have hjb:j=b:=by omega
         subst hjb;have HMZ:=HM;have HL5:(Cz lin j).length=j:=by rw [Hv];exact HZL.out
         have HV5:=HV.out.symm;have HC5:(Cz lin j).length<=cz:=by omega
         clear HM;go_wp2_with fail;refine (L9 _ _ HMZ.out 1 2 w.heap.size g6 k1 co j cz (some ⟨go,0,none⟩) (some ⟨gz,0,none⟩) (AK ls) rfl rfl (by omega)).mono ?_;rintro e w5 ⟨rfl,A',c',hm5⟩;have HM5:=K1 (LD hm5 HL5);clear hm5 HMZ;go_wp2_with fail;go_roundw
         case rel=>exact ⟨k1,A',c',_,by omega,rfl,K1 (HOK.out.snoc HV5 HC5),HM5⟩
         case measure=>simp [intOf];omega
    . have HV5:=(HNX1.out.trans (if_neg hr)).symm;have HMZ:=HM;have HL5:=HZL.out;have HC5:lin.length<=cz:=by omega
      clear HM HNX1;go_wp2_with fail;refine (L9 _ _ HMZ.out 1 2 w.heap.size g6 k1 co b cz (some ⟨go,0,none⟩) (some ⟨gz,0,none⟩) (AK ls) rfl rfl (by omega)).mono ?_;rintro e w5 ⟨rfl,A',c',hm5⟩;have HM5:=K1 (LD hm5 HL5);clear hm5 HMZ;go_wp2_with fail;go_roundw
      case rel=>exact ⟨k1,A',c',_,by omega,rfl,K1 (HOK.out.snoc HV5 HC5),HM5⟩
      case measure=>simp [intOf];omega
  . have hkn:k=n1:=by omega
    subst hkn;have c6:=HM.out.cell 1 0 rfl rfl;go_wp2_with fail
    go_ret2
    exact ⟨Ao,co,ls,rfl,HOK.out,HM.out.pick [0,2,3] _ rfl (by decide)⟩
structure Ez (W:World) (gn gs q:Nat) (ns:List Nat) (ps:List Int):Prop where
 ex:∃ w0 B P cp cl Ap As Al ms,Mem W (netP w0 B gn gs q P cp (ns.length-1) cl ns Ap As Al ps ms)/\(ms.map Lk.k=Zj (ns.length-1)/\∀ m∈ms,midN ns m.k-offN ns m.k<=m.c)/\ps.length=P/\P=offN ns (ns.length-1)/\P<=cp
 form:∃ lo hi,BE W lo hi gs ns/\hi<=W.heap.size
 ok:NsOk ns
 ps:In64 ps
 q:q<=62
theorem Ez.below {W W':World} {gn gs q:Nat} {ns:List Nat} {ps:List Int} (h:Ez W gn gs q ns ps) (hb:Below W.heap.size W W'):Ez W' gn gs q ns ps:=by
 obtain ⟨⟨w0,B,P,cp,cl,Ap,As,Al,ms,h1,h2⟩,⟨lo,hi,h3,h4⟩,h5,h6,h7⟩:=h;exact ⟨⟨w0,B,P,cp,cl,Ap,As,Al,ms,h1.below hb,h2⟩,⟨lo,hi,h3.below h4 hb,Zh h4 hb.size⟩,h5,h6,h7⟩
theorem QA (w:World) (gn gs q nx cx:Nat) (ns:List Nat) (X:Option Addr) (ps xs:List Int) (h:Ez w gn gs q ns ps) (hX:Rd w w.heap.size X (zC xs)) (hx:xs.length=nx) (hnx:ns[0]?=some nx) (h1:In64 xs) :
  Calls Tryz.prog 232 #[.pointer (some ⟨gn,0,none⟩),Us X nx cx] w fun e w'=>∃ Ao co ls,e=.returned (.tuple #[Us Ao ns.length co,.bool true])/\lyOk ns ps q xs ns.length ls/\Mem w' [.bel w.heap.size w,vvO w.heap.size ns.length co Ao (AK ls),AD (AO ls)]:=by
 obtain ⟨⟨w0,B,P,cp,cl,Ap,As,Al,ms,hM,hMS,hp,hP,hPc⟩,⟨lo,hi,hF,hh⟩,hn,h2,hq⟩:=h;exact Q9 w w0 B gn gs q P cp cl lo hi nx cx ns Ap As Al X ps xs ms hM hMS hF hh hn hp hP hPc hX hx hnx h1 h2 hq (Be (hM.own 4 rfl))
def Ce (ys xs:List Int):Nat->List Int
 | 0=>xs
 | k+1=>(Ce ys xs k).set k (wrap64 ((xs[k]?.getD 0)-(ys[k]?.getD 0)))
theorem Gc (ys xs:List Int):∀ k,(Ce ys xs k).length=xs.length
 | 0=>rfl
 | k+1=>by rw [Ce,Zt,Gc ys xs k]
theorem LG (ys xs:List Int):∀ k j,k<=j->(Ce ys xs k)[j]?=xs[j]?
 | 0,_,_=>rfl
 | k+1,j,h=>by rw [Ce,Zu (by omega),LG ys xs k j (by omega)]
theorem LH {ys xs:List Int} (h:In64 xs):∀ k,In64 (Ce ys xs k)
 | 0=>h
 | k+1=>(LH h k).set _ (DJ _)
def Gd (w:World) (n co m gd cd:Nat) (Ao:Option Addr) (ls:List Ly) (zs:List Int):List Ch :=
 [.bel w.heap.size w,vvO w.heap.size n co Ao (AK ls),AD (AO ls),.own w.heap.size 2 1 (Us (some ⟨gd,0,none⟩) m cd) m (zC zs)]
theorem QB (w:World) (gn gs q nx cx ny cy:Nat) (ns:List Nat) (X Y:Option Addr) (ps xs ys:List Int) (h:Ez w gn gs q ns ps) (hX:Rd w w.heap.size X (zC xs)) (hx:xs.length=nx) (hnx:ns[0]?=some nx) (h1:In64 xs)
  (hY:Rd w w.heap.size Y (zC ys)) (hy:ys.length=ny) (hny:ns[ns.length-1]?=some ny) :
  Calls Tryz.prog 224 #[.pointer (some ⟨gn,0,none⟩),Us X nx cx,Us Y ny cy] w fun e w'=>∃ Ao co ls gd cd,e=.returned (.tuple #[Us Ao ns.length co,Us (some ⟨gd,0,none⟩) ny cd,.bool true])/\lyOk ns ps q xs ns.length ls /\
   Mem w' (Gd w ns.length co ny gd cd Ao ls (Ce ys (layL ns ps q xs (ns.length-1)) ny)):=by
 have CT:=K1 (QA w gn gs q nx cx ns X ps xs h hX hx hnx h1);have HY:=K1 (Zd hY hy);have hn2:=h.ok.len;have hny1:1<=ny:=h.ok.pos ny (Zi hny)
 have hny2:ny<=1000:=by
  obtain ⟨a,b,ha,hb,_,_,_,_,_,h4,_⟩:=h.ok.at_ (k:=ns.length-2) (by omega);rw [show ns.length-2+1=ns.length-1 by omega,hny] at hb;injection hb with hb;omega
 have hll:(layL ns ps q xs (ns.length-1)).length=ny:=by rw [EL ns ps q xs (by rw [hnx];exact hx),hny];rfl
 have CC:=K1 (fun W A c (hW:Rd W W.heap.size A (zC (layL ns ps q xs (ns.length-1))))=>Eu A ny c _ W hW hll (by omega));have CSb:=K1 (fun W a b=>KU W a b)
 obtain ⟨n1,hn1⟩:∃ n1,n1=ns.length-1:=⟨_,rfl⟩
 have hnl:ns.length=n1+1:=by omega
 rw [<- hn1] at hll CC ⊢;rw [hnl] at CT ⊢;have hni:(n1:Int)+1-1=(n1:Int):=by omega
 have hn15:n1<=15:=by omega
 have hnlt:n1<n1+1:=by omega
 have HLL:=K1 hll;clear h hX hY hx hnx h1 hy hny hn2 hn1 hnl hll;go_enter Tryz.func224,Tryz.ntmps224;go_wp2_with fail;refine CT.out.mono ?_;rintro e w1 ⟨Ao,co,ls,rfl,hok,hm⟩;have HOK:=K1 hok;obtain ⟨l,hl,hlv,hlc⟩:=hok.at_ hnlt;obtain ⟨go,rfl⟩:=hm.ownA 1 rfl (by omega);have HLV:=K1 (show (AK ls)[n1]?=some (Us l.A ny l.c) by simp only [AK,Zo,hl,Zp];rw [hlv,HLL.out]);have HLR:=K1 (show ∀ (W:World) (M:List Ch),Mem W M->M[2]?=some (AD (AO ls))->Rd W W.heap.size l.A (zC (layL ns ps q xs n1)) from fun W M h hM=>h.famRd (j:=n1) hM (by simp [AO,hl,hlv]));have HM:=K1 hm;clear hok hl hlv hlc hm CT
 have d1:w1.cell? ⟨go,n1,none⟩=some (Us l.A ny l.c):=((HM.out.own 1 rfl).cellAt n1 (by omega)).trans HLV.out;go_wp2_with fail;refine (CC.out _ _ _ (HLR.out _ _ HM.out rfl)).mono ?_;rintro e w2 ⟨D,cd,rfl,ho,hcd,hb⟩;have hg:=(HM.out.bel 0 rfl).size;replace HM:=K1 ((HM.out.push_own hb ho rfl).lower (i:=3) rfl hg);clear ho hb CC d1 hg;obtain ⟨gd,rfl⟩:=HM.out.ownA 3 rfl (by omega);go_wp2_with fail;have HM0:=K1 (HM.out.pick [0,1,2,3] (Gd w (n1+1) co ny gd cd (some ⟨go,0,none⟩) ls (Ce ys (layL ns ps q xs n1) 0)) rfl (by decide));clear HM HLR HLV
 go_loopw [42] (fun i wr=>∃ j:Nat,j<=ny/\i=U O j/\Hid (Mem wr (Gd w (n1+1) co ny gd cd (some ⟨go,0,none⟩) ls (Ce ys (layL ns ps q xs n1) j)))) (fun i _=>ny-(intOf i).toNat)
 case atStart=>exact ⟨0,Zk _,rfl,HM0⟩
 case round =>
  clear HM0;obtain ⟨j,hj,rfl,HM⟩:=hrel
  by_cases hlt:j<ny
  . obtain ⟨y,hy⟩:=Au ys j (by have:=HY.out.2;omega);obtain ⟨v,hv⟩:=Au (layL ns ps q xs n1) j (by have:=HLL.out;omega);replace HM:=K1 (HM.out.add_rd (i:=0) rfl HY.out.1);obtain ⟨bY,oY,rfl,_⟩:=HM.out.rd 4 rfl (by rw [Br];have:=HY.out.2;omega);have HYV:=K1 (Zd (Bk hy) (Bk ((LG ys (layL ns ps q xs n1) j j (Zm _)).trans hv)));have HS:=K1 (show zC (Ce ys (layL ns ps q xs n1) (j+1))=(zC (Ce ys (layL ns ps q xs n1) j)).set j (U O (wrap64 (v-y))) by rw [Ce,Dn,hv,hy];rfl)
    have HCE:=K1 (show ∀ (W:World) (M:List Ch),Mem W M->M[3]?=some (.own w.heap.size 2 1 (Us (some ⟨gd,0,none⟩) ny cd) ny (zC (Ce ys (layL ns ps q xs n1) j)))->W.cell? ⟨gd,j,none⟩=some (U O v) from fun W M h hM=>((h.own 3 hM).cellAt j (by omega)).trans HYV.out.2);have CK:=K1 (fun W=>CSb.out W v y);clear hy hv;generalize wrap64 (v-y)=p at *;go_wp2_with fail
    refine AC (.reads [0,1,2,3,4,5,6,7,8,9] (.eff 10 (.reads [11] (.eff 12 (.fin))))) 12
     (fun W'=>W'.cell? ⟨gd,j,none⟩=some (U O v)/\W'.cell? ⟨bY,oY+j,none⟩=some (U O y)) ?_
    replace HM:=K1 HM.out.drew;refine Zg ⟨HCE.out _ _ HM.out rfl,HM.out.rdAt 4 rfl HYV.out.1⟩ ?_;refine Ze ?_;go_wp2_with fail;refine (CK.out _).mono ?_;rintro e w3 ⟨rfl,rfl⟩;go_wp2_with fail;refine Zf ⟨HCE.out _ _ HM.out rfl,HM.out.rdAt 4 rfl HYV.out.1⟩ ?_;refine Zg ⟨HCE.out _ _ HM.out rfl,HM.out.rdAt 4 rfl HYV.out.1⟩ ?_;refine Ze ?_;have hc1:=HCE.out _ _ HM.out rfl;have kf:=HM.out.ownF 3 rfl;have hm3:=(HM.out.setOwn (j:=j) (i:=3) rfl (U O p)).front 4;have HM3:=K1 (show Mem _ (Gd w (n1+1) co ny gd cd (some ⟨go,0,none⟩) ls (Ce ys (layL ns ps q xs n1) (j+1))) by unfold Gd;rw [HS.out];exact hm3)
    clear hm3 HM;go_wp2_with fail;refine After.last (by decide) (Zl ?_);go_wp2_with fail;go_roundw
    case rel=>exact ⟨j+1,by omega,by go_num,HM3⟩
    case measure=>simp [intOf];omega
  . have hjn:j=ny:=by omega
    subst hjn;go_wp2_with fail
    go_ret3
    exact ⟨_,co,ls,gd,cd,rfl,HOK.out,HM.out⟩
end
end Go.Proofs.YtdpojpcoghcieaaGreat
