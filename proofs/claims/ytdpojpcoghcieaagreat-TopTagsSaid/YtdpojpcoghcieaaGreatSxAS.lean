/- A part of the proof of TopTags: Gradient, Sgd, SgdUpd, SgdApply, DataCopied. Conditions: none. -/
import Derived.Test.YtdpojpcoghcieaaGreatSxAQ
set_option maxHeartbeats 8000000
set_option linter.all false
namespace Go.Proofs.YtdpojpcoghcieaaGreat
open Lib renaming hid → K1
open Go.RowKit
set_option maxRecDepth 100000
open Value renaming int → U, slice → Us
open IntKind renaming i64 → O
open PlS renaming ef_ → Z3, rd_ → Z6, fin_ → Z7
open After renaming go → Z4
open And renaming intro → Z5
open Mem renaming start → Z8
open World renaming size_alloc → Z9
open List renaming getElem?_set_ne → ZB, length_set → ZD
open Nat renaming add_zero → ZC
section
def De (vs xs:List Int):Nat->List Int
 | 0=>xs
 | k+1=>(De vs xs k).set k (if (vs[k]?.getD 0)<=0 then 0 else xs[k]?.getD 0)
theorem Gf (vs xs:List Int):∀ k,(De vs xs k).length=xs.length
 | 0=>rfl
 | k+1=>by rw [De,ZD,Gf vs xs k]
theorem LL (vs xs:List Int):∀ k j,k<=j->(De vs xs k)[j]?=xs[j]?
 | 0,_,_=>rfl
 | k+1,j,h=>by rw [De,ZB (by omega),LL vs xs k j (by omega)]
theorem LM {vs xs:List Int} (h:In64 xs):∀ k,In64 (De vs xs k)
 | 0=>h
 | k+1=>by
   refine (LM h k).set _ ?_
   split
   . omega
   . cases hx:xs[k]? with
     | none=>simp
     | some x=>exact h.at_ hx
def gOut (ns:List Nat) (q:Nat) (lay:Nat->List Int) (k:Nat) (d out:List Int):List Int :=
 splice (splice out (offN ns k) (BA d (lay k) q (ns[k]?.getD 0) (midN ns k-offN ns k) (ns[k+1]?.getD 0))) (midN ns k) d
def gD (ns:List Nat) (ps:List Int) (q:Nat) (lay:Nat->List Int) (k:Nat) (d:List Int):List Int :=
 De (lay k) (Cp (subL ps (offN ns k) (midN ns k)) d (ns[k]?.getD 0) q (ns[k+1]?.getD 0)) (ns[k]?.getD 0)
def EM (ns:List Nat) (ps:List Int) (q:Nat) (lay:Nat->List Int):Nat->List Int->List Int->List Int
 | 0,_,out=>out
 | k+1,d,out=>if k=0 then gOut ns q lay k d out else EM ns ps q lay k (gD ns ps q lay k d) (gOut ns q lay k d out)
def DX (ns:List Nat) (ps:List Int) (q:Nat) (xs ys:List Int):List Int :=
 EM ns ps q (layL ns ps q xs) (ns.length-1) (Ce ys (layL ns ps q xs (ns.length-1)) (ns[ns.length-1]?.getD 0)) (AE (offN ns (ns.length-1)))
theorem QJ {ns:List Nat} {q:Nat} {lay:Nat->List Int} {k P:Nat} {d out:List Int} (ho:out.length=P) (h1:midN ns k+d.length<=P) (h2:offN ns k<=midN ns k):(gOut ns q lay k d out).length=P:=by
 unfold gOut;rw [length_splice,length_splice,ho]
 . rw [D5];omega
 . rw [length_splice _ _ _ (by rw [D5];omega)];omega
def grP (w:World) (n co b gd cd P gz:Nat) (Ao:Option Addr) (ls:List Ly) (d out:List Int):List Ch :=
 [.bel w.heap.size w,vvO w.heap.size n co Ao (AK ls),AD (AO ls),.own w.heap.size 2 1 (Us (some ⟨gd,0,none⟩) b cd) b (zC d),.own w.heap.size 2 1 (Us (some ⟨gz,0,none⟩) P P) P (zC out)]
theorem Hw (l o:List Int) (x:Nat):zC (splice l x o)=splice (zC l) x (zC o):=by simp [splice,List.map_take,List.map_drop]
theorem QK (r c:Int) (A:Option Addr) (n m:Nat) (W:World):(Instr.field 333 (.agg #[U O r,U O c,Us A n m]) 2).run Tryz.prog W=.ok (Us A n m) W:=by kernel_rfl
theorem size64:(Tryz.prog.info? 2).map (·.size)=some 1:=by kernel_rfl
theorem QM (w:World) (gn gs q nx cx ny cy P:Nat) (ns:List Nat) (X Y:Option Addr) (ps xs ys:List Int) (h:Ez w gn gs q ns ps) (hX:Rd w w.heap.size X (zC xs)) (hx:xs.length=nx) (hnx:ns[0]?=some nx) (h1:In64 xs)
  (hY:Rd w w.heap.size Y (zC ys)) (hy:ys.length=ny) (hny:ns[ns.length-1]?=some ny) (hP:P=offN ns (ns.length-1)) :
  Calls Tryz.prog 208 #[.pointer (some ⟨gn,0,none⟩),Us X nx cx,Us Y ny cy] w fun e w'=>∃ gz,e=.returned (.tuple #[Us (some ⟨gz,0,none⟩) P P,.bool true])/\w'.ownsRow w.heap.size 2 1 (Us (some ⟨gz,0,none⟩) P P) P (zC (DX ns ps q xs ys))/\Below w.heap.size w w':=by
 have CMi:=K1 (QB w gn gs q nx cx ny cy ns X Y ps xs ys h hX hx hnx h1 hY hy hny);have HNI:=K1 (fun W (hb:Below w.heap.size w W)=>h.below hb);have HNO:=K1 h.ok;have HPS:=K1 (Z5 h.ps h.q);obtain ⟨⟨w0,B,P0,cp,cl,Ap,As,Al,ms,hM,hMS,hp,hP0,hPc⟩,⟨flo,fhi,hF,hh⟩,hn,h2,hq⟩:=h;rw [<- hP] at hP0;subst hP0;have hP1000:P0<=1000:=hP ▸ hn.few;have CF:=K1 (fun W (hb:Below w.heap.size w W)=>hF.below hh hb);have CN:=K1 (fun W hb=>Ji W flo fhi gs ns (CF.out W hb));have CL:=K1 (fun W hb=>Ht W flo fhi gs ns (CF.out W hb))
 have CW:=K1 (fun W (hb:Below w.heap.size w W) k hk=>Lx W flo fhi gs k ns (CF.out W hb) (Nat.le_trans hh hb.size) (by have:=hn.len;omega) hk);have CB:=K1 (fun W (hb:Below w.heap.size w W) k hk=>Lz W flo fhi gs k ns (CF.out W hb) (Nat.le_trans hh hb.size) (by have:=hn.len;omega) hk);have HNT:=K1 (fun W (hb:Below w.heap.size w W)=>hM.below hb);have HGN:=K1 (fun W (hb:Below w.heap.size w W)=>(hM.below hb).cells 3 rfl);have HMS:=K1 hMS;have HP:=K1 (Z5 hp (Z5 hP (Z5 hPc (Z5 h1 (Z5 hx hnx)))));have hmk:=Ga P0 (by omega)
 have HG:=K1 (show DX ns ps q xs ys=EM ns ps q (layL ns ps q xs) (ns.length-1) (Ce ys (layL ns ps q xs (ns.length-1)) ny) (AE P0) by rw [DX,hny,<- hP];rfl);have hll:(layL ns ps q xs (ns.length-1)).length=ny:=by rw [EL ns ps q xs (by rw [hnx];exact hx),hny];rfl
 have HLI:=K1 (fun k=>LC ns ps q h1 k);have HLL:=K1 (fun k=>EL ns ps q xs (by rw [hnx];exact hx) k);have hl2:=hn.len;have hmks:=hM.cells 3 rfl;rw [<- hP] at CN
 obtain ⟨n1,hn1⟩:∃ n1,n1=ns.length-1:=⟨_,rfl⟩
 have hnl:ns.length=n1+1:=by omega
 have HN1:=K1 (Z5 hn1 (Z5 hnl (show ns[n1]?=some ny by rw [hn1];exact hny)));rw [<- hn1] at CL CW CB HG hll CMi;rw [hnl] at CMi;generalize DX ns ps q xs ys=G at *
 obtain ⟨m0,hm0⟩:∃ m0,m0=n1-1:=⟨_,rfl⟩
 have hm0i:(n1:Int)-1=(m0:Int):=by omega
 have hm0b:m0<=15:=by omega
 have HM0E:=K1 (show m0+1=n1 by omega);have HDL:=K1 hll;clear hM hMS hp hP hPc hF hn h2 hq h1 hX hx hnx hY hy hny hll hl2 hn1 hnl hm0 hmks;go_enter Tryz.func208,Tryz.ntmps208;go_wp2_with fail;refine wp_scope_straight ?_;go_wp2_with fail;refine CMi.out.mono ?_;rintro e w1 ⟨Ao,co,ls,gd,cd,rfl,hok,hm⟩;have HOK:=K1 hok;have HM:=K1 hm;clear hok hm CMi;have c0:=HGN.out _ (HM.out.bel 0 rfl);go_wp2_with fail;refine (CN.out _ (HM.out.bel 0 rfl)).mono ?_;rintro e w2 ⟨rfl,rfl⟩;clear CN c0;have hgz:=(HM.out.bel 0 rfl).size
 have hm2:=((HM.out.zero P0 (by omega)).lower (i:=4) rfl hgz).pick [0,1,2,3,4] (grP w (n1+1) co ny gd cd P0 w1.heap.size Ao ls (Ce ys (layL ns ps q xs n1) ny) (AE P0)) rfl (by decide);have c0:=HGN.out _ (hm2.bel 0 rfl);replace HM:=K1 hm2;clear hm2 hgz;go_wp2_with fail;refine wp_label ?_
 apply_assumption
 go_wp2_with fail;refine (CL.out _ (HM.out.bel 0 rfl)).mono ?_;rintro e w2 ⟨rfl,rfl⟩;clear CL c0;generalize w1.heap.size=gz at *;go_wp2_with fail;have HG0:=K1 (show ∃ ny',ns[m0+1]?=some ny/\ny'=ny from ⟨ny,by rw [HM0E.out];exact HN1.out.2.2,rfl⟩)
 go_loopw [9,12] (fun s9 i wr=>∃ (k b gd cd:Nat) (d out:List Int),i=U O k/\s9=Us (some ⟨gd,0,none⟩) b cd/\k<=15/\Hid (k<n1/\ns[k+1]?=some b/\d.length=b/\In64 d/\out.length=P0/\G=EM ns ps q (layL ns ps q xs) (k+1) d out)/\Hid (Mem wr (grP w (n1+1) co b gd cd P0 gz Ao ls d out))) (fun _ i _=>(intOf i).toNat)
 case atStart=>exact ⟨m0,ny,gd,cd,_,_,rfl,rfl,hm0b,K1 ⟨by have:=HM0E.out;omega,by rw [HM0E.out];exact HN1.out.2.2,by rw [Gc];exact HDL.out,LH (HLI.out n1) _,by simp,by rw [HM0E.out];exact HG.out⟩,HM⟩
 case round =>
  clear HM HG HG0 hm0i hm0b HM0E HDL;obtain ⟨k,b,gd,cd,d,out,rfl,rfl,hk15,HK,HM⟩:=hrel;have hlt:=HK.out.1;obtain ⟨a,b',ha,hb',h1,h2,e1,e2,h3,h4,h5⟩:=HNO.out.at_ (by have:=HN1.out.1;omega:k<ns.length-1);obtain rfl:b'=b:=by have:=HK.out.2.1;rw [hb'] at this;injection this
  obtain ⟨m,hm,hmk⟩:=LF (ms:=ms) (n:=n1) (k:=k) (by rw [HN1.out.1];exact HMS.out.1) hlt;have hmc:=HMS.out.2 m (List.mem_of_getElem? hm);obtain ⟨bl,ol,hAl,hlk⟩:=(HNT.out w (Below.refl _ _)).link hm
  have hlk2:=fun W hb=>((HNT.out W hb).link hm)
  have hfam:=fun W hb=>(HNT.out W hb).famRd (i:=5) (j:=k) (A:=m.A) (vs:=zC (subL ps (offN ns m.k) (midN ns m.k))) rfl (by simp [Ey,hm])
  have hcells:lkC ns Ap cp m=[U O b',U O a,Us m.A (midN ns k-offN ns k) m.c,Us (Ap.map fun p=>p.add (midN ns k)) (offN ns (k+1)-midN ns k) (cp-midN ns k)]:=by
   unfold lkC;rw [hmk,ha,hb'];rfl
  rw [hmk] at hmc hfam;obtain ⟨⟨lA,lc,lv⟩,hl,hlv,hlc⟩:=HOK.out.at_ (show k<n1+1 by omega);dsimp only at hlv hlc;have hll:lv.length=a:=by rw [hlv,HLL.out k,ha];rfl
  have hli:In64 lv:=by rw [hlv];exact HLI.out k
  have hba:=Nat.mul_le_mul h2 h1;rw [<- HP.out.2.1] at h5;have hGK:G=if k=0 then gOut ns q (layL ns ps q xs) k d out else EM ns ps q (layL ns ps q xs) k (gD ns ps q (layL ns ps q xs) k d) (gOut ns q (layL ns ps q xs) k d out):=HK.out.2.2.2.2.2
  have hgO:gOut ns q (layL ns ps q xs) k d out=splice (splice out (offN ns k) (BA d lv q a (midN ns k-offN ns k) b')) (midN ns k) d:=by unfold gOut;rw [ha,hb',<- hlv];rfl
  have hgD:gD ns ps q (layL ns ps q xs) k d=De lv (Cp (subL ps (offN ns k) (midN ns k)) d a q b') a:=by unfold gD;rw [ha,hb',<- hlv];rfl
  have CWk:=K1 (fun W hb=>CW.out W hb k hlt);have CBk:=K1 (fun W hb=>CB.out W hb k hlt);rw [hgO] at hGK;rw [hgD] at hGK;generalize hx:offN ns k=x at *;generalize hy:midN ns k=y at *;generalize hz:offN ns (k+1)=z at *;have hxy:x<y:=by omega
  have hyz:y<z:=by omega
  have hyps:y<=ps.length:=by have:=HP.out.1;omega
  have hnn:y-x=b'*a:=by omega
  have CO:=K1 (fun (W:World) (hD:Rd W W.heap.size (some ⟨gd,0,none⟩) (zC d)) (hL:Rd W W.heap.size lA (zC lv))=>Qo W b' a (y-x) q cd lc (some ⟨gd,0,none⟩) lA d lv ⟨h2,by omega⟩ ⟨h1,by omega⟩ hnn (by omega) hD hL HK.out.2.2.1 hll HK.out.2.2.2.1 hli HPS.out.2);have CBa:=K1 (fun (W:World) (hb:Below w.heap.size w W) (hD:Rd W W.heap.size (some ⟨gd,0,none⟩) (zC d))=>Qn W b' a (y-x) m.c q cd m.A (some ⟨gd,0,none⟩) (subL ps x y) d ⟨h2,by omega⟩ ⟨h1,by omega⟩ hnn (by omega) hmc (hfam W hb) hD (Dc (by omega) hyps) HK.out.2.2.1 (HPS.out.1.sub _ _) HK.out.2.2.2.1 HPS.out.2)
  have HL:=K1 (Z5 hlv (Z5 hll (Z5 hlc (Z5 hl hli))));have HGK:=K1 hGK;have HOL:=K1 (Z5 HK.out.2.2.2.2.1 (Z5 HK.out.2.2.1 (Z5 hb' ha)))
  have HLC:Hid (∀ W,Below w.heap.size w W->∀ i v,([U O b',U O a,Us m.A (y-x) m.c,Us (Ap.map fun p=>p.add y) (z-y) (cp-y)]:List Value)[i]?=some v->W.cell? ⟨bl,ol+k*4+i,none⟩=some v):=K1 (fun W hb i v hv=>by
   obtain ⟨bl',ol',e,h⟩:=hlk2 W hb;rw [hAl] at e;injection e with e
   injection e with e1 e2
   subst e1;subst e2
   rw [hcells] at h
   exact h i v hv)
  subst hAl;have hzP:z<=P0:=h5;have hxyl:x<=y:=by omega
  have hyzl:y<=z:=by omega
  have hzb:z<=1000:=by omega
  have hyx:¬ y=x:=by omega
  have hzy:¬ z=y:=by omega
  have hzyb:z-y=b':=by omega
  have hkn:k<n1:=hlt;have hkn1:k<n1+1:=by omega
  have hkni:(k:Int)<(n1:Int)+1:=by omega
  have hkl:k<ns.length-1:=by have:=HN1.out.1;omega
  have hlb:ns.length-1<=15:=by have:=HNO.out.len;omega
  have hyP:y<=P0:=by omega
  clear hx hy hz ha hb' e1 e2 hm hmk hlk hlk2 hfam hcells hmc hl hlv hlc hll hli hba hGK hgO hgD CW CB hnn hyps HK;obtain ⟨go,rfl⟩:=HM.out.ownA 1 rfl (by omega);have HLV:=K1 (show (AK ls)[k]?=some (Us lA a lc) by simp [AK,HL.out.2.2.2.1,HL.out.2.1]);have HLK:=K1 (show ∀ (W:World) (M:List Ch),Mem W M->M[1]?=some (vvO w.heap.size (n1+1) co (some ⟨go,0,none⟩) (AK ls))->W.cell? ⟨go,k,none⟩=some (Us lA a lc) from fun W M h hM=>((h.own 1 hM).cellAt k (by omega)).trans HLV.out)
  have HLR:=K1 (show ∀ (W:World) (M:List Ch),Mem W M->M[2]?=some (AD (AO ls))->Rd W W.heap.size lA (zC lv) from fun W M h hM=>h.famRd (j:=k) hM (by simp [AO,HL.out.2.2.2.1]));go_wp2_with fail
  go_cut [13,14] from 41 to 117 (fun s13 s14 W=>∃ (g13 g14:Nat),s13=.pointer (some ⟨g13,0,none⟩)/\s14=.pointer (some ⟨g14,0,none⟩)/\Hid (Mem W (grP w (n1+1) co b' gd cd P0 gz (some ⟨go,0,none⟩) ls d out++[.obj g13 (.cells #[U O x,U O y] 47 (0,0)),.obj g14 (.cells #[U O y,U O z] 47 (0,0))])))
  case rest =>
   have hfld:=QK;obtain ⟨g13,g14,rfl,rfl,HMr⟩:=hcut;clear HM CWk CBk;go_wp2_with fail
   refine AC (.reads [0,1,2,3,4,5,6,7,8,9,10,11,12,13,14] (.eff 15 (.reads [16] (.eff 17 (.fin))))) 18
    (fun W'=>(∀ i,W'.cell? ⟨g13,i,none⟩=([U O x,U O y]:List Value)[i]?)/\W'.cell? ⟨go,k,none⟩=some (Us lA a lc)/\(∀ i,W'.cell? ⟨gn,i,none⟩=([.pointer (some ⟨gs,0,none⟩),Us Ap P0 cp,U O q,Us (some ⟨bl,ol,none⟩) (ns.length-1) cl]:List Value)[i]?)) ?_
   replace HMr:=K1 HMr.out.drew;refine Z6 ⟨HMr.out.cells 5 rfl,HLK.out _ _ HMr.out rfl,HGN.out _ (HMr.out.bel 0 rfl)⟩ ?_;refine Z3 ?_;go_wp2_with fail;refine (CO.out _ (AJ (HMr.out.own 3 rfl)) (HLR.out _ _ HMr.out rfl)).mono ?_;rintro e w8 ⟨g2,rfl,ho,hb⟩;replace HMr:=K1 (HMr.out.push_rd hb (AJ ho) (AF ho));clear ho hb CO;go_wp2_with fail;refine Z4 ⟨HMr.out.cells 5 rfl,HLK.out _ _ HMr.out rfl,HGN.out _ (HMr.out.bel 0 rfl)⟩ ?_;refine Z6 ⟨HMr.out.cells 5 rfl,HLK.out _ _ HMr.out rfl,HGN.out _ (HMr.out.bel 0 rfl)⟩ ?_;refine Z3 ?_
   refine P1 rfl _ _ 87 87 rfl 2 Tryz.underlying87 size64 HMr.out 4 (lo:=x) rfl (some ⟨g2,0,none⟩) (y-x) _ _ rfl rfl (HMr.out.rd 7 rfl) (by rw [Br,D5]) (by omega) (by omega) (Ek _) ?_;intro w9 hM9;rw [<- Hw] at hM9;replace HMr:=K1 (hM9.front 7);clear hM9;have HOS:=K1 (show (splice out x (BA d lv q a (y-x) b')).length=P0 by rw [length_splice,HOL.out.1];rw [D5,HOL.out.1];omega);generalize splice out x (BA d lv q a (y-x) b')=out1 at *;go_wp2_with fail;refine Z4 ⟨HMr.out.cells 5 rfl,HLK.out _ _ HMr.out rfl,HGN.out _ (HMr.out.bel 0 rfl)⟩ (Z7 ?_);have c14:=HMr.out.cells 6 rfl
   have HO2:=K1 (show (splice out1 y d).length=P0 by rw [length_splice,HOS.out];rw [HOL.out.2.1,HOS.out];omega)
   by_cases hk0:k=0
   . subst hk0;have HGE:=K1 (HGK.out.trans (if_pos rfl));clear HGK CBa HLC HLR HLK HLV;obtain ⟨w10,hrun,hM10⟩:=IX (P:=Tryz.prog) (ys:=zC d) 87 87 3 2 Tryz.underlying87 size64 HMr.out 4 (lo:=y) rfl (some ⟨gd,0,none⟩) b' (P0-y) cd (AJ (HMr.out.own 3 rfl)) (by rw [Br];exact HOL.out.2.1) (by omega) (by omega) (Ek _);rw [<- Hw] at hM10;have HM9:=K1 hM10;clear hM10 HMr;go_wp2_with fail
     go_ret2
     rw [HGE.out];exact ⟨gz,rfl,HM9.out.own 4 rfl,HM9.out.bel 0 rfl⟩
   . have HGE:=K1 (HGK.out.trans (if_neg hk0));clear HGK;obtain ⟨w10,hrun,hM10⟩:=IX (P:=Tryz.prog) (ys:=zC d) 87 87 3 2 Tryz.underlying87 size64 HMr.out 4 (lo:=y) rfl (some ⟨gd,0,none⟩) b' (P0-y) cd (AJ (HMr.out.own 3 rfl)) (by rw [Br];exact HOL.out.2.1) (by omega) (by omega) (Ek _);rw [<- Hw] at hM10;have HM9:=K1 hM10;clear hM10 HMr;go_wp2_with fail;clear hrun c14
     obtain ⟨k1,hk1⟩:∃ k1,k=k1+1:=⟨k-1,by omega⟩
     have hk1i:(k:Int)-1=(k1:Int):=by omega
     have HK1:=K1 hk1;clear hk1
     refine AC (.reads [0,1,2,3,4,5,6,7,8,9,10,11,12] (.eff 13 (.reads [14,15,16,17] (.fin)))) 18
      (fun W'=>(∀ i,W'.cell? ⟨gn,i,none⟩=([.pointer (some ⟨gs,0,none⟩),Us Ap P0 cp,U O q,Us (some ⟨bl,ol,none⟩) (ns.length-1) cl]:List Value)[i]?)/\W'.cell? ⟨bl,ol+k*4,none⟩=some (U O b')/\W'.cell? ⟨bl,ol+k*4+1,none⟩=some (U O a)/\W'.cell? ⟨bl,ol+k*4+2,none⟩=some (Us m.A (y-x) m.c)) ?_
     have HM10:=K1 HM9.out.drew;clear HM9;refine Z6 ⟨HGN.out _ (HM10.out.bel 0 rfl),(by have:=HLC.out _ (HM10.out.bel 0 rfl) 0 _ rfl;rwa [ZC] at this),HLC.out _ (HM10.out.bel 0 rfl) 1 _ rfl,HLC.out _ (HM10.out.bel 0 rfl) 2 _ rfl⟩ ?_;refine Z3 ?_;go_wp2_with fail;refine (CBa.out _ (HM10.out.bel 0 rfl) (AJ (HM10.out.own 3 rfl))).mono ?_;rintro e w11 ⟨g2,rfl,ho,hb⟩;have hg3:=(HM10.out.bel 0 rfl).size;have HM11:=K1 ((HM10.out.push_own hb ho rfl).lower (i:=7) rfl hg3);clear ho hb CBa hg3 HM10;go_wp2_with fail
     refine Z4 ⟨HGN.out _ (HM11.out.bel 0 rfl),(by have:=HLC.out _ (HM11.out.bel 0 rfl) 0 _ rfl;rwa [ZC] at this),HLC.out _ (HM11.out.bel 0 rfl) 1 _ rfl,HLC.out _ (HM11.out.bel 0 rfl) 2 _ rfl⟩ ?_;refine Z6 ⟨HGN.out _ (HM11.out.bel 0 rfl),(by have:=HLC.out _ (HM11.out.bel 0 rfl) 0 _ rfl;rwa [ZC] at this),HLC.out _ (HM11.out.bel 0 rfl) 1 _ rfl,HLC.out _ (HM11.out.bel 0 rfl) 2 _ rfl⟩ ?_;refine Z7 ?_;have HBK:=K1 (Z5 (EK (subL ps x y) d a q b') (Lr (subL ps x y) d a q b'))
     have HM12:=K1 (HM11.out.pick [0,1,2,7,4] (grP w (n1+1) co a g2 a P0 gz (some ⟨go,0,none⟩) ls (De lv (Cp (subL ps x y) d a q b') 0) (splice out1 y d)) rfl (by decide));clear HM11;have hlk:=HLK.out _ _ HM12.out rfl;go_wp2_with fail;generalize Cp (subL ps x y) d a q b'=bk at *;clear hlk
     go_loopw [103] (fun i wr=>∃ j:Nat,j<=a/\i=U O j/\Hid (Mem wr (grP w (n1+1) co a g2 a P0 gz (some ⟨go,0,none⟩) ls (De lv bk j) (splice out1 y d)))) (fun i _=>a-(intOf i).toNat)
     case atStart=>exact ⟨0,Nat.zero_le _,rfl,HM12⟩
     case round =>
      clear HM12;obtain ⟨j,hj,rfl,HM⟩:=hrel
      by_cases hlt2:j<a
      . obtain ⟨v,hv⟩:=Au lv j (by have:=HL.out.2.1;omega);obtain ⟨u,hu⟩:=Au bk j (by have:=HBK.out.1;omega);obtain ⟨bL,oL,rfl,_,hcl⟩:=HLR.out _ _ HM.out rfl (by rw [Br];have:=HL.out.2.1;omega);have hc2:=hcl j _ (Bk hv);have hc1:wr.cell? ⟨g2,j,none⟩=some (U O u):=((HM.out.own 3 rfl).cellAt j (by omega)).trans (Bk ((LL lv bk j j (Nat.le_refl _)).trans hu));have HS:=K1 (show zC (De lv bk (j+1))=(zC (De lv bk j)).set j (U O (if v<=0 then 0 else u)) by rw [De,Dn,hv,hu];rfl);have HGA:=K1 (fun W=>P9 W v u);have kf:=HM.out.ownF 3 rfl
        have hm3:=HM.out.setOwn (j:=j) (i:=3) rfl (U O (if v<=0 then 0 else u));rw [<- HS.out] at hm3;have HM3:=K1 hm3;clear hm3 hv hu HM hcl;generalize (if v<=0 then 0 else u)=p at *;go_wp2_with fail;refine (HGA.out _).mono ?_;rintro e w5 ⟨rfl,rfl⟩;go_wp2_with fail;go_roundw
        case rel=>exact ⟨j+1,by omega,by go_num,HM3⟩
        case measure=>simp [intOf];omega
      . have hja:j=a:=by omega
        subst hja;go_wp2_with fail;refine ⟨⟨k1,j,g2,j,_,_,rfl,rfl,by omega,K1 ⟨by have:=HK1.out;omega,by rw [<- HK1.out];exact HOL.out.2.2.2,by rw [Gf];exact HBK.out.1,LM HBK.out.2 _,HO2.out,by rw [<- HK1.out];exact HGE.out⟩,HM⟩,?_⟩;have:=HK1.out;simp [intOf];omega
  case first =>
   refine A9 fun W0 hW0=>?_;replace HM:=K1 (hW0.out.symm ▸ HM.out);clear hW0 CO CBa HLK HLR HLV HLC
   refine AC (.reads [0,1,2,3,4,6,7,8,9,10] (.three 5 12 13 (.three 11 12 13 (.two 12 13 (.eff 13 (.eff 14 (.eff 15 (.fin)))) (.eff 12 (.eff 14 (.eff 15 (.fin))))) (.two 11 13 (.eff 13 (.eff 14 (.eff 15 (.fin)))) (.eff 11 (.eff 14 (.eff 15 (.fin))))) (.two 11 12 (.eff 12 (.eff 14 (.eff 15 (.fin)))) (.eff 11 (.eff 14 (.eff 15 (.fin)))))) (.two 5 13 (.two 11 13 (.eff 13 (.eff 14 (.eff 15 (.fin)))) (.eff 11 (.eff 14 (.eff 15 (.fin))))) (.eff 5 (.eff 11 (.eff 14 (.eff 15 (.fin)))))) (.two 5 12 (.two 11 12 (.eff 12 (.eff 14 (.eff 15 (.fin)))) (.eff 11 (.eff 14 (.eff 15 (.fin))))) (.eff 5 (.eff 11 (.eff 14 (.eff 15 (.fin)))))))) 16
    (fun W'=>∀ i,W'.cell? ⟨gn,i,none⟩=([.pointer (some ⟨gs,0,none⟩),Us Ap P0 cp,U O q,Us (some ⟨bl,ol,none⟩) (ns.length-1) cl]:List Value)[i]?) ?_
   replace HM:=K1 HM.out.drew.hole_.hole_;generalize W0.drew=V at *;refine Z6 (HGN.out _ (HM.out.bel 0 rfl)) ?_
   repeat' (first
    | (refine PlS.three_ ?_ ?_ ?_
       skip)
    | (refine PlS.two_ ?_ ?_
       skip)
    | (refine Z3 (k:=5) ?_
       go_wp2_with fail;refine (CWk.out _ (HM.out.bel 0 rfl)).mono ?_;rintro e u5 ⟨rfl,hb⟩;replace HM:=K1 (HM.out.below hb);clear hb;go_wp2_with fail
       refine Z4 (HGN.out _ (HM.out.bel 0 rfl)) ?_)
    | (refine Z3 (k:=11) ?_
       go_wp2_with fail;refine (CBk.out _ (HM.out.bel 0 rfl)).mono ?_;rintro e u11 ⟨rfl,hb⟩;replace HM:=K1 (HM.out.below hb);clear hb;go_wp2_with fail
       refine Z4 (HGN.out _ (HM.out.bel 0 rfl)) ?_)
    | (refine Z3 (k:=12) ?_
       obtain ⟨g13,hgg,_,hmm⟩:=HM.out.allocFit rfl (.cells #[U O 0,U O 0] 47) 5 rfl;go_wp2_with fail;rw [<- hgg];refine AH fun u12 hW=>?_;have HM:=K1 (hW.out.symm ▸ hmm);clear hW hmm hgg
       refine Z4 (HGN.out _ (HM.out.bel 0 rfl)) ?_)
    | (refine Z3 (k:=13) ?_
       obtain ⟨g14,hgg,_,hmm⟩:=HM.out.allocFit rfl (.cells #[U O 0,U O 0] 47) 6 rfl;go_wp2_with fail;rw [<- hgg];refine AH fun u13 hW=>?_;have HM:=K1 (hW.out.symm ▸ hmm);clear hW hmm hgg
       refine Z4 (HGN.out _ (HM.out.bel 0 rfl)) ?_)
    | (refine Z3 (k:=14) ?_
       have hc:=HM.out.cells 5 rfl;have hf:=fun j=>HM.out.frozen 5 j rfl
       replace HM:=K1 ((HM.out.set (i:=5) (j:=0) rfl (U O x)).set (i:=5) (j:=1) rfl (U O y));go_wp2_with fail;clear hc hf
       refine Z4 (HGN.out _ (HM.out.bel 0 rfl)) ?_)
    | (refine Z3 (k:=15) ?_
       have hc:=HM.out.cells 6 rfl;have hf:=fun j=>HM.out.frozen 6 j rfl
       replace HM:=K1 ((HM.out.set (i:=6) (j:=0) rfl (U O y)).set (i:=6) (j:=1) rfl (U O z));go_wp2_with fail;clear hc hf
       refine Z4 (HGN.out _ (HM.out.bel 0 rfl)) ?_)
    | (refine Z7 ?_
       go_wp2_with fail;go_meet
       exact ⟨_,_,rfl,rfl,K1 (HM.out.pick [0,1,2,3,4,5,6] _ rfl (by decide))⟩))
def vOwn (base n c:Nat) (A:Option Addr) (zs:List Int):Ch:=.own base 2 1 (Us A n c) n (zC zs)
abbrev stV (n:Nat) (A:Option Addr) (c:Nat) (B:Option Addr) (d:Nat):Value:=.agg #[Us A n c,Us B n d]
theorem Mem.zero_ {w W:World} {L:List Ch} {n:Nat} (h:Mem w L) (hW:W=w.alloc (Ew n)) (hn:n<=1048576):Mem W (L++[.own w.heap.size 2 1 (Us (some ⟨w.heap.size,0,none⟩) n n) n (zC (AE n))]):=hW ▸ h.zero n hn
theorem QN (w:World) (A:Option Addr) (n cap:Nat) (zs:List Int) (hA:Rd w w.heap.size A (zC zs)) (hz:zs.length=n) (hn:n<=1048576) :
  Calls Tryz.prog 65 #[Us A n cap] w fun e w'=>∃ Ap cp gm,e=.returned (stV n Ap cp (some ⟨gm,0,none⟩) n)/\Mem w' [.bel w.heap.size w,vOwn w.heap.size n cp Ap zs,vOwn w.heap.size n n (some ⟨gm,0,none⟩) (AE n)]:=by
 have CC:=K1 (fun W (hW:Rd W W.heap.size A (zC zs))=>Eu A n cap zs W hW hz (by omega));have hmk:=Ga n hn;have HM:=K1 (((Z8 w).add_rd (i:=0) rfl hA).alloc (.cells #[Us none 0 0,Us none 0 0] 89));have HN:=K1 hn;clear hA hz;go_enter Tryz.func65,Tryz.ntmps65;go_wp2_with fail;refine A9 fun W0 hW0=>?_;replace HM:=K1 (hW0.out.symm ▸ HM.out);clear hW0;refine AC (.reads [0,2,3] (.two 1 4 (.eff 4 (.reads [5] (.eff 6 (.fin)))) (.eff 1 (.reads [5] (.eff 6 (.fin)))))) 7 (fun _=>True) ?_;replace HM:=K1 HM.out.drew;generalize W0.drew=V at *;refine PlS.rc_ trivial ?_;refine PlS.two_ ?_ ?_
 . refine Z3 ?_;go_wp2_with fail;refine (CC.out _ (HM.out.rd 1 rfl)).mono ?_;rintro e w1 ⟨Ap,cp,rfl,ho,hcp,hb⟩;have hg:=(HM.out.bel 0 rfl).size;replace HM:=K1 ((HM.out.push_own hb ho rfl).lower (i:=3) rfl hg);clear ho hb hg CC;go_wp2_with fail;refine Z4 trivial ?_;refine Z3 ?_;go_wp2_with fail;refine AH fun W7 hW=>?_;have hg:=(HM.out.bel 0 rfl).size;replace HM:=K1 ((HM.out.zero_ hW.out HN.out).lower (i:=4) rfl hg);clear hW hg;refine Z4 trivial ?_;refine PlS.rc_ trivial ?_;refine Z3 ?_;have c2:=HM.out.cells 2 rfl;have f2:=fun j=>HM.out.frozen 2 j rfl
   have HF:=K1 ((HM.out.set (i:=2) (j:=0) rfl (Us Ap n cp)).set (i:=2) (j:=1) rfl (Us (some ⟨w1.heap.size,0,none⟩) n n));clear HM;go_wp2_with fail;refine Z4 trivial (Z7 ?_);clear c2 f2;have c2:=HF.out.cells 2 rfl;go_wp2_with fail;refine bodyPost_ret (v:=stV n Ap cp (some ⟨w1.heap.size,0,none⟩) n) ?_ rfl ⟨_,_,_,rfl,HF.out.pick [0,3,4] _ rfl (by decide)⟩;simp [results,Tryz.results65,go_sem,c2]
 . refine Z3 ?_;go_wp2_with fail;refine AH fun W7 hW=>?_;have hg:=(HM.out.bel 0 rfl).size;replace HM:=K1 ((HM.out.zero_ hW.out HN.out).lower (i:=3) rfl hg);clear hW hg;refine Z4 trivial ?_;refine Z3 ?_;go_wp2_with fail;refine (CC.out _ (HM.out.rd 1 rfl)).mono ?_;rintro e w1 ⟨Ap,cp,rfl,ho,hcp,hb⟩;have hg:=(HM.out.bel 0 rfl).size;replace HM:=K1 ((HM.out.push_own hb ho rfl).lower (i:=4) rfl hg);clear ho hb hg CC;go_wp2_with fail;refine Z4 trivial ?_;refine PlS.rc_ trivial ?_;refine Z3 ?_;have c2:=HM.out.cells 2 rfl;have f2:=fun j=>HM.out.frozen 2 j rfl
   have HF:=K1 ((HM.out.set (i:=2) (j:=0) rfl (Us Ap n cp)).set (i:=2) (j:=1) rfl (Us (some ⟨V.heap.size,0,none⟩) n n));clear HM;go_wp2_with fail;refine Z4 trivial (Z7 ?_);clear c2 f2;have c2:=HF.out.cells 2 rfl;go_wp2_with fail;refine bodyPost_ret (v:=stV n Ap cp (some ⟨V.heap.size,0,none⟩) n) ?_ rfl ⟨_,_,_,rfl,HF.out.pick [0,4,3] _ rfl (by decide)⟩;simp [results,Tryz.results65,go_sem,c2]
theorem Jl (w:World) (A B:Option Addr) (n ca cb:Nat) (ps ms:List Int) (hA:Rd w w.heap.size A (zC ps)) (hB:Rd w w.heap.size B (zC ms)) (hp:ps.length=n) (hm:ms.length=n) (hn:n<=1048576) :
  Calls Tryz.prog 68 #[stV n A ca B cb] w fun e w'=>∃ Ap cp Am cm,e=.returned (stV n Ap cp Am cm)/\Mem w' [.bel w.heap.size w,vOwn w.heap.size n cp Ap ps,vOwn w.heap.size n cm Am ms]:=by
 have CA:=K1 (fun W (hW:Rd W W.heap.size A (zC ps))=>Eu A n ca ps W hW hp (by omega));have CB:=K1 (fun W (hW:Rd W W.heap.size B (zC ms))=>Eu B n cb ms W hW hm (by omega));have hm0:=((((Z8 w).add_rd (i:=0) rfl hA).add_rd (i:=0) rfl hB).alloc (.cells #[Us A n ca,Us B n cb] 89)).alloc (.cells #[Us none 0 0,Us none 0 0] 89);simp only [Z9] at hm0;have HM:=K1 hm0;clear hA hB hp hm hm0;go_enter Tryz.func68,Tryz.ntmps68;go_wp2_with fail;refine A9 fun W0 hW0=>?_;replace HM:=K1 (hW0.out.symm ▸ HM.out);clear hW0
 refine AC (.reads [0,1,3,4] (.eff 2 (.eff 5 (.reads [6] (.eff 7 (.fin)))))) 8 (fun W'=>∀ i,W'.cell? ⟨w.heap.size,i,none⟩=([Us A n ca,Us B n cb]:List Value)[i]?) ?_;replace HM:=K1 HM.out.drew;generalize W0.drew=V at *;refine Z6 (HM.out.cells 3 rfl) ?_;refine Z3 ?_;go_wp2_with fail;refine (CA.out _ (HM.out.rd 1 rfl)).mono ?_;rintro e w1 ⟨Ap,cp,rfl,ho,hcp,hb⟩;have hg:=(HM.out.bel 0 rfl).size;replace HM:=K1 ((HM.out.push_own hb ho rfl).lower (i:=5) rfl hg);clear ho hb hg CA;go_wp2_with fail;refine Z4 (HM.out.cells 3 rfl) ?_;refine Z3 ?_;go_wp2_with fail;refine (CB.out _ (HM.out.rd 2 rfl)).mono ?_
 rintro e w2 ⟨Am,cm,rfl,ho,hcm,hb⟩;have hg:=(HM.out.bel 0 rfl).size;replace HM:=K1 ((HM.out.push_own hb ho rfl).lower (i:=6) rfl hg);clear ho hb hg CB;go_wp2_with fail;refine Z4 (HM.out.cells 3 rfl) ?_;refine Z6 (HM.out.cells 3 rfl) ?_;refine Z3 ?_;have c2:=HM.out.cells 4 rfl;have f2:=fun j=>HM.out.frozen 4 j rfl
 have HF:=K1 ((HM.out.set (i:=4) (j:=0) rfl (Us Ap n cp)).set (i:=4) (j:=1) rfl (Us Am n cm));clear HM;go_wp2_with fail;refine Z4 (HF.out.cells 3 rfl) (Z7 ?_);clear c2 f2;have c2:=HF.out.cells 4 rfl;go_wp2_with fail;refine bodyPost_ret (v:=stV n Ap cp Am cm) ?_ rfl ⟨_,_,_,_,rfl,HF.out.pick [0,5,6] _ rfl (by decide)⟩;simp [results,Tryz.results68,go_sem,c2]
structure Ru where
 ra:Int
 mo:Int
 q:Nat
abbrev Ru.val (r:Ru):Value:=.agg #[U O r.ra,U O r.mo,U O r.q]
structure Ru.Ok (r:Ru):Prop where
 ra:-9223372036854775808<=r.ra/\r.ra<=9223372036854775807
 mo:-9223372036854775808<=r.mo/\r.mo<=9223372036854775807
 q:r.q<=62
def updM (r:Ru) (m g:Int):Int:=sumW [mulF r.mo m r.q,g]
def updP (r:Ru) (p m:Int):Int:=wrap64 (p-mulF r.ra m r.q)
theorem LN (r:Ru) (m g:Int):-9223372036854775808<=updM r m g/\updM r m g<=9223372036854775807:=DJ _
theorem QO (r:Ru) (p m:Int):-9223372036854775808<=updP r p m/\updP r p m<=9223372036854775807:=DJ _
theorem QP (w:World) (L:List Ch) (h:Mem w L) (r:Ru) (hr:r.Ok) (ip im B N cp cm gp gm i:Nat) (ps ms:List Int) (pv mv g:Int) (hP:L[ip]?=some (vOwn B N cp (some ⟨gp,0,none⟩) ps)) (hM:L[im]?=some (vOwn B N cm (some ⟨gm,0,none⟩) ms)) (hne:ip≠im)
  (hN:ps.length=N/\ms.length=N) (hi:i<N) (hp:ps[i]?=some pv) (hm:ms[i]?=some mv) (hm64:-9223372036854775808<=mv/\mv<=9223372036854775807) :
  Calls Tryz.prog 229 #[r.val,.pointer (some ⟨gp,i,none⟩),.pointer (some ⟨gm,i,none⟩),U O g] w fun e w'=>e=.returned (.tuple #[]) /\
   Mem w' ((L.set im (vOwn B N cm (some ⟨gm,0,none⟩) (ms.set i (updM r mv g)))).set ip (vOwn B N cp (some ⟨gp,0,none⟩) (ps.set i (updP r pv (updM r mv g))))):=by
 have CM1:=K1 (fun W=>FV W r.mo mv r.q hr.q hr.mo hm64);have CM2:=K1 (fun W=>FV W r.ra (updM r mv g) r.q hr.q hr.ra (LN r mv g));have CS:=K1 (fun W A (hW:RdI W W.heap.size A [mulF r.mo mv r.q,g])=>PO W A [mulF r.mo mv r.q,g] 2 2 rfl (by omega) hW);have CB:=K1 (fun W a b=>KU W a b);have HUP:=K1 (show updP r pv (updM r mv g)=wrap64 (pv-mulF r.ra (updM r mv g) r.q) from rfl);have HUM:=K1 (show updM r mv g=sumW [mulF r.mo mv r.q,g] from rfl);have HP:=K1 hP;have HMm:=K1 hM;have HNE:=K1 hne;have hcp:w.cell? ⟨gp,i,none⟩=some (U O pv):=((h.own ip hP).cellAt i (by omega)).trans (Bk hp)
 have hcm:w.cell? ⟨gm,i,none⟩=some (U O mv):=((h.own im hM).cellAt i (by omega)).trans (Bk hm);have HC:=K1 (show ∀ (W:World) (M:List Ch),Mem W M->M[ip]?=some (vOwn B N cp (some ⟨gp,0,none⟩) ps)->W.cell? ⟨gp,i,none⟩=some (U O pv) from fun W M h hM=>((h.own ip hM).cellAt i (by omega)).trans (Bk hp));have HCm:=K1 (show ∀ (W:World) (M:List Ch),Mem W M->M[im]?=some (vOwn B N cm (some ⟨gm,0,none⟩) ms)->W.cell? ⟨gm,i,none⟩=some (U O mv) from fun W M h hM=>((h.own im hM).cellAt i (by omega)).trans (Bk hm))
 have HCn:=K1 (show ∀ (W:World) (M:List Ch) (v:Int),Mem W M->M[im]?=some (vOwn B N cm (some ⟨gm,0,none⟩) (ms.set i v))->W.cell? ⟨gm,i,none⟩=some (U O v) from fun W M v h hM=>((h.own im hM).cellAt i (by omega)).trans (Bk (List.getElem?_set_self (by omega))));have HM:=K1 (h.alloc (.cells #[U O r.ra,U O r.mo,U O r.q] 162));obtain ⟨ra,mo,q⟩:=r;dsimp only [Ru.val] at *;generalize updP ⟨ra,mo,q⟩ pv (updM ⟨ra,mo,q⟩ mv g)=p' at *;generalize updM ⟨ra,mo,q⟩ mv g=m' at *;generalize mulF mo mv q=a1 at *;generalize mulF ra m' q=a2 at *;clear h hP hM hne hN hp hm hm64 hr hcp hcm
 go_enter Tryz.func229,Tryz.ntmps229;go_wp2_with fail;refine A9 fun W0 hW0=>?_;replace HM:=K1 (hW0.out.symm ▸ HM.out);clear hW0;generalize w.heap.size=gr at *;refine AC (.reads [0,1,2,3,4,5,6,7,9] (.eff 8 (.eff 10 (.eff 11 (.reads [12] (.eff 13 (.fin))))))) 13 (fun W'=>(∀ i,W'.cell? ⟨gr,i,none⟩=([U O ra,U O mo,U O q]:List Value)[i]?)/\W'.cell? ⟨gm,i,none⟩=some (U O mv)) ?_;replace HM:=K1 HM.out.drew;generalize W0.drew=V at *;refine Z6 ⟨HM.out.cells _ Bc,HCm.out _ _ HM.out (at_l HMm.out)⟩ ?_;refine Z3 ?_;go_wp2_with fail;refine (CM1.out _).mono ?_;rintro e w1 ⟨rfl,hb⟩
 replace HM:=K1 (HM.out.below hb);clear hb CM1;go_wp2_with fail;refine Z4 ⟨HM.out.cells _ Bc,HCm.out _ _ HM.out (at_l HMm.out)⟩ ?_;refine Z3 ?_;go_wp2_with fail;refine AH fun W7 hW=>?_;have HMb:=K1 (HM.out.alloc_ hW.out);clear hW HM;refine Z4 ⟨HMb.out.cells _ (at_l Bc),HCm.out _ _ HMb.out (at_l (at_l HMm.out))⟩ ?_;refine Z3 ?_;go_wp2_with fail;refine (CS.out _ _ (HMb.out.box _ Bc)).mono ?_;rintro e w2 ⟨rfl,hb⟩;have HM:=K1 (HMb.out.below hb).left;clear hb CS HMb;rw [<- HUM.out];go_wp2_with fail;refine Z4 ⟨HM.out.cells _ Bc,HCm.out _ _ HM.out (at_l HMm.out)⟩ ?_
 refine Z6 ⟨HM.out.cells _ Bc,HCm.out _ _ HM.out (at_l HMm.out)⟩ ?_;refine Z3 ?_;have c2:=HCm.out _ _ HM.out (at_l HMm.out);have f2:=HM.out.ownF im (at_l HMm.out);have hm3:=HM.out.setOwn (i:=im) (j:=i) (at_l HMm.out) (U O m');rw [<- Dn,DO HMm.out] at hm3;have HM3:=K1 hm3;clear hm3 HM;go_wp2_with fail;refine After.last (by decide) (Z7 ?_);clear c2 f2;go_wp2_with fail;refine A9 fun W1 hW1=>?_;replace HM3:=K1 (hW1.out.symm ▸ HM3.out);clear hW1
 refine AC (.reads [0,1,2,3,4,5,6,7,8,9,10] (.eff 11 (.eff 12 (.reads [13] (.eff 14 (.fin)))))) 14 (fun W'=>(∀ i,W'.cell? ⟨gr,i,none⟩=([U O ra,U O mo,U O q]:List Value)[i]?)/\W'.cell? ⟨gp,i,none⟩=some (U O pv)/\W'.cell? ⟨gm,i,none⟩=some (U O m')) ?_;replace HM3:=K1 HM3.out.drew;generalize W1.drew=V1 at *;refine Z6 ⟨HM3.out.cells _ Bc,HC.out _ _ HM3.out (at_l (By HNE.out.symm HP.out)),HCn.out _ _ m' HM3.out (at_l (AU HMm.out))⟩ ?_;refine Z3 ?_;go_wp2_with fail;refine (CM2.out _).mono ?_;rintro e w3 ⟨rfl,hb⟩;replace HM3:=K1 (HM3.out.below hb);clear hb CM2;go_wp2_with fail
 refine Z4 ⟨HM3.out.cells _ Bc,HC.out _ _ HM3.out (at_l (By HNE.out.symm HP.out)),HCn.out _ _ m' HM3.out (at_l (AU HMm.out))⟩ ?_;refine Z3 ?_;go_wp2_with fail;refine (CB.out _ _ _).mono ?_;rintro e w4 ⟨rfl,rfl⟩;rw [<- HUP.out];go_wp2_with fail;refine Z4 ⟨HM3.out.cells _ Bc,HC.out _ _ HM3.out (at_l (By HNE.out.symm HP.out)),HCn.out _ _ m' HM3.out (at_l (AU HMm.out))⟩ ?_;refine Z6 ⟨HM3.out.cells _ Bc,HC.out _ _ HM3.out (at_l (By HNE.out.symm HP.out)),HCn.out _ _ m' HM3.out (at_l (AU HMm.out))⟩ ?_;refine Z3 ?_;have c2:=HC.out _ _ HM3.out (at_l (By HNE.out.symm HP.out))
 have f2:=HM3.out.ownF ip (at_l (By HNE.out.symm HP.out));have hm4:=(HM3.out.left).setOwn (i:=ip) (j:=i) (By HNE.out.symm HP.out) (U O p');rw [<- Dn] at hm4;have HM4:=K1 hm4;clear hm4 HM3;go_wp2_with fail;refine After.last (by decide) (Z7 ?_);clear c2 f2;go_wp2_with fail
 go_end0
 exact ⟨rfl,HM4.out⟩
def Bw (r:Ru) (gs:List Int) (x:Nat) (ps ms:List Int):Nat->List Int × List Int
 | 0=>(ps,ms)
 | k+1 =>
   ((Bw r gs x ps ms k).1.set (x+k) (updP r (ps[x+k]?.getD 0) (updM r (ms[x+k]?.getD 0) (gs[x+k]?.getD 0))),
    (Bw r gs x ps ms k).2.set (x+k) (updM r (ms[x+k]?.getD 0) (gs[x+k]?.getD 0)))
theorem Jm (r:Ru) (gs:List Int) (x:Nat) (ps ms:List Int):∀ k,(Bw r gs x ps ms k).1.length=ps.length/\(Bw r gs x ps ms k).2.length=ms.length
 | 0=>⟨rfl,rfl⟩
 | k+1=>by
   have:=Jm r gs x ps ms k;simp only [Bw,ZD];exact this
theorem LO (r:Ru) (gs:List Int) (x:Nat) (ps ms:List Int):∀ k j,x+k<=j->(Bw r gs x ps ms k).1[j]?=ps[j]?/\(Bw r gs x ps ms k).2[j]?=ms[j]?
 | 0,_,_=>⟨rfl,rfl⟩
 | k+1,j,h=>by
   have:=LO r gs x ps ms k j (by omega);simp only [Bw];rw [ZB (by omega),ZB (by omega)];exact this
theorem Jn {r:Ru} {gs:List Int} {x:Nat} {ps ms:List Int} (hp:In64 ps) (hm:In64 ms):∀ k,In64 (Bw r gs x ps ms k).1/\In64 (Bw r gs x ps ms k).2
 | 0=>⟨hp,hm⟩
 | k+1=>⟨(Jn hp hm k).1.set _ (QO _ _ _),(Jn hp hm k).2.set _ (LN _ _ _)⟩
theorem QQ (w:World) (L:List Ch) (h:Mem w L) (r:Ru) (hr:r.Ok) (ip im ig B Bg N Ng cp cm cg gp gm gg x y n cq:Nat) (ps ms gs:List Int) (hP:L[ip]?=some (vOwn B N cp (some ⟨gp,0,none⟩) ps)) (hM:L[im]?=some (vOwn B N cm (some ⟨gm,0,none⟩) ms)) (hG:L[ig]?=some (vOwn Bg Ng cg (some ⟨gg,0,none⟩) gs))
  (hpm:ip≠im) (hgp:ig≠ip) (hgm:ig≠im) (hN:ps.length=N/\ms.length=N) (hNg:gs.length=Ng) (hxy:x<y) (hyN:y<=N) (hyG:y<=Ng) (hn:n=y-x) (hN2:N<=1000) (hcq:n<=cq) (hm64:In64 ms) :
  Calls Tryz.prog 212 #[r.val,stV N (some ⟨gp,0,none⟩) cp (some ⟨gm,0,none⟩) cm,.agg #[U O x,U O y],Us (some ⟨gg,x,none⟩) n cq] w fun e w'=>e=.returned (.bool true) /\
   Mem w' (two L im ip (vOwn B N cm (some ⟨gm,0,none⟩) (Bw r gs x ps ms n).2) (vOwn B N cp (some ⟨gp,0,none⟩) (Bw r gs x ps ms n).1)):=by
 have CSz:Hid (∀ W:World,Calls Tryz.prog 43 #[.agg #[U O x,U O y]] W fun e w'=>e=.returned (U O n)/\Below W.heap.size W w'):=K1 (fun W=>(IJ x y W (by omega) (by omega)).mono fun e w' ⟨h1,h2⟩=>⟨by rw [hn];exact h1,h2 ▸ (Below.refl _ _).alloc (Nat.le_refl _) _⟩)
 have HU:=K1 (fun (W:World) (M:List Ch) (hM':Mem W M) (k:Nat) (ps' ms':List Int) (pv mv g:Int) (h1:M[ip]?=some (vOwn B N cp (some ⟨gp,0,none⟩) ps')) (h2:M[im]?=some (vOwn B N cm (some ⟨gm,0,none⟩) ms')) (h3:ps'.length=N/\ms'.length=N) (h4:k<N) (h5:ps'[k]?=some pv) (h6:ms'[k]?=some mv) (h7:-9223372036854775808<=mv/\mv<=9223372036854775807) =>
  QP W M hM' r hr ip im B N cp cm gp gm k ps' ms' pv mv g h1 h2 hpm h3 h4 h5 h6 h7)
 have HH:=K1 (Z5 hP (Z5 hM (Z5 hG (Z5 hpm (Z5 hgp hgm)))));have HX:=K1 (Z5 hN (Z5 hNg (Z5 hn hm64)));have hyx:¬ y<x:=by omega
 have hnb:n<=1000:=by omega
 have hx1:x<=1000:=by omega
 have hy1:y<=1000:=by omega
 have hxN:x<N:=by omega
 have hm0:=((h.alloc (.cells #[U O r.ra,U O r.mo,U O r.q] 162)).alloc (.cells #[Us (some ⟨gp,0,none⟩) N cp,Us (some ⟨gm,0,none⟩) N cm] 89)).alloc (.cells #[U O x,U O y] 47);simp only [Z9,List.append_assoc,List.cons_append,List.nil_append] at hm0;rw [<- ND hM hP (L:=L)] at hm0;have HM:=K1 hm0;clear hm0 h hP hM hG hpm hgp hgm hN hNg hn hm64 hr;have hAP:Hid (∀ k,Bw r gs x ps ms (k+1)=((Bw r gs x ps ms k).1.set (x+k) (updP r (ps[x+k]?.getD 0) (updM r (ms[x+k]?.getD 0) (gs[x+k]?.getD 0))),(Bw r gs x ps ms k).2.set (x+k) (updM r (ms[x+k]?.getD 0) (gs[x+k]?.getD 0)))):=K1 (fun k=>rfl)
 have e1:=HM.out.cells _ (BK (B:=[_,_,_]) 2 rfl);have e2:=HM.out.cells _ (BK (B:=[_,_,_]) 1 rfl);go_enter Tryz.func212,Tryz.ntmps212;go_wp2_with fail;refine (CSz.out _).mono ?_;rintro e w1 ⟨rfl,hb⟩;replace HM:=K1 (HM.out.below hb);clear hb e1 e2;have e1:=HM.out.cells _ (BK (B:=[_,_,_]) 2 rfl);have e2:=HM.out.cells _ (BK (B:=[_,_,_]) 1 rfl);go_wp2_with fail;refine (CSz.out _).mono ?_;rintro e w2 ⟨rfl,hb⟩;replace HM:=K1 (HM.out.below hb);clear hb e1 e2 CSz;go_wp2_with fail
 go_loopw [46] (fun iv wr=>∃ k:Nat,k<=n/\iv=U O k/\Hid (Mem wr (two L im ip (vOwn B N cm (some ⟨gm,0,none⟩) (Bw r gs x ps ms k).2) (vOwn B N cp (some ⟨gp,0,none⟩) (Bw r gs x ps ms k).1)++[.obj w.heap.size (.cells #[U O r.ra,U O r.mo,U O r.q] 162 (0,0)),.obj (w.heap.size+1) (.cells #[Us (some ⟨gp,0,none⟩) N cp,Us (some ⟨gm,0,none⟩) N cm] 89 (0,0)),.obj (w.heap.size+1+1) (.cells #[U O x,U O y] 47 (0,0))]))) (fun iv _=>n-(intOf iv).toNat)
 case atStart=>exact ⟨0,Nat.zero_le _,rfl,HM⟩
 case round =>
  clear HM;obtain ⟨k,hk,rfl,HM⟩:=hrel
  by_cases hlt:k<n
  . obtain ⟨xk,hxk⟩:∃ xk,xk=x+k:=⟨_,rfl⟩
    have hxki:(x:Int)+(k:Int)=(xk:Int):=by omega
    have hxkN:xk<N:=by have:=HX.out.2.2.1;omega
    have wxk:IntKind.i64.wrap (xk:Int)=(xk:Int):=IntWalk.i64_in _ (by omega);obtain ⟨pv,hpv⟩:=Au ps xk (by have:=HX.out.1.1;omega);obtain ⟨mv,hmv⟩:=Au ms xk (by have:=HX.out.1.2;omega);obtain ⟨g,hgv⟩:=Au gs xk (by have:=HX.out.2.1;have:=HX.out.2.2.1;omega);have hat:=LO r gs x ps ms k xk (by omega);have hlen:=Jm r gs x ps ms k
    have HUk:=K1 (fun (W:World) (T:List Ch) (hM':Mem W (two L im ip (vOwn B N cm (some ⟨gm,0,none⟩) (Bw r gs x ps ms k).2) (vOwn B N cp (some ⟨gp,0,none⟩) (Bw r gs x ps ms k).1)++T))=>HU.out W _ hM' xk (Bw r gs x ps ms k).1 (Bw r gs x ps ms k).2 pv mv g (at_l (FD HH.out.1 HH.out.2.2.2.1)) (at_l (I8 HH.out.2.1 HH.out.2.2.2.1)) ⟨hlen.1.trans HX.out.1.1,hlen.2.trans HX.out.1.2⟩ hxkN (hat.1.trans hpv) (hat.2.trans hmv) (HX.out.2.2.2.at_ hmv))
    have HS:=K1 (show Bw r gs x ps ms (k+1)=((Bw r gs x ps ms k).1.set xk (updP r pv (updM r mv g)),(Bw r gs x ps ms k).2.set xk (updM r mv g)) by rw [hAP.out,<- hxk,hpv,hmv,hgv];rfl);have HGC:=K1 (show ∀ (W:World) (M:List Ch),Mem W M->M[ig]?=some (vOwn Bg Ng cg (some ⟨gg,0,none⟩) gs)->W.cell? ⟨gg,xk,none⟩=some (U O g) from fun W M h hM=>((h.own ig hM).cellAt xk (by have:=(List.getElem?_eq_some_iff.1 hgv).1;have:=HX.out.2.1;omega)).trans (Bk hgv));have HXK:=K1 hxk;have hgx:x+k=xk:=hxk.symm;clear hpv hmv hgv hat hlen hxk;go_wp2_with fail
    refine AC (.reads [0,1,2,3,4,5,6,7,8,9,10,11,12,13,14,15,16,17,18] (.eff 19 (.fin))) 20 (fun W'=>(∀ i,W'.cell? ⟨w.heap.size,i,none⟩=([U O r.ra,U O r.mo,U O r.q]:List Value)[i]?)/\(∀ i,W'.cell? ⟨w.heap.size+1,i,none⟩=([Us (some ⟨gp,0,none⟩) N cp,Us (some ⟨gm,0,none⟩) N cm]:List Value)[i]?)/\(∀ i,W'.cell? ⟨w.heap.size+1+1,i,none⟩=([U O x,U O y]:List Value)[i]?)/\W'.cell? ⟨gg,xk,none⟩=some (U O g)) ?_;replace HM:=K1 HM.out.drew
    refine Z6 ⟨HM.out.cells _ (BK 0 rfl),HM.out.cells _ (BK 1 rfl),HM.out.cells _ (BK 2 rfl),HGC.out _ _ HM.out (at_l (FE HH.out.2.2.1 HH.out.2.2.2.2.2.symm HH.out.2.2.2.2.1.symm))⟩ ?_;refine Z3 ?_;go_wp2_with fail;refine (HUk.out _ _ HM.out).mono ?_;rintro e w3 ⟨rfl,hm3⟩;rw [JT HH.out.2.1 HH.out.1 HH.out.2.2.2.1] at hm3;have HM3:=K1 hm3;clear hm3 HM HUk;go_wp2_with fail;refine Z4 ⟨HM3.out.cells _ (BK 0 rfl),HM3.out.cells _ (BK 1 rfl),HM3.out.cells _ (BK 2 rfl),HGC.out _ _ HM3.out (at_l (FE HH.out.2.2.1 HH.out.2.2.2.2.2.symm HH.out.2.2.2.2.1.symm))⟩ (Z7 ?_);go_wp2_with fail;go_roundw
    case rel=>exact ⟨k+1,by omega,by go_num,by rw [HS.out];exact HM3⟩
    case measure=>simp [intOf];omega
  . have hkn:k=n:=by omega
    subst hkn;go_wp2_with fail;go_ret;exact ⟨rfl,HM.out.left⟩
abbrev exV (n:Nat) (A:Option Addr) (c:Nat) (m:Nat) (B:Option Addr) (d:Nat):Value:=.agg #[Us A n c,Us B m d]
theorem LP (w:World) (A B:Option Addr) (n nb ca cb:Nat) (ps ms:List Int) (hA:Rd w w.heap.size A (zC ps)) (hB:Rd w w.heap.size B (zC ms)) (hp:ps.length=n) (hm:ms.length=nb) (hn:n<=1048576) (hn2:nb<=1048576) :
  Calls Tryz.prog 112 #[exV n A ca nb B cb] w fun e w'=>∃ Ap cp Am cm,e=.returned (exV n Ap cp nb Am cm)/\Mem w' [.bel w.heap.size w,vOwn w.heap.size n cp Ap ps,vOwn w.heap.size nb cm Am ms]:=by
 have CA:=K1 (fun W (hW:Rd W W.heap.size A (zC ps))=>IH A n ca (zC ps) W hW (by simp [hp]) (Ek ps) (by omega));have CB:=K1 (fun W (hW:Rd W W.heap.size B (zC ms))=>IH B nb cb (zC ms) W hW (by simp [hm]) (Ek ms) (by omega));have hm0:=((((Z8 w).add_rd (i:=0) rfl hA).add_rd (i:=0) rfl hB).alloc (.cells #[Us A n ca,Us B nb cb] 140)).alloc (.cells #[Us none 0 0,Us none 0 0] 140);simp only [Z9] at hm0;have HM:=K1 hm0;clear hA hB hp hm hm0;go_enter Tryz.func112,Tryz.ntmps112;go_wp2_with fail;refine A9 fun W0 hW0=>?_;replace HM:=K1 (hW0.out.symm ▸ HM.out);clear hW0
 refine AC (.reads [0,1,3,4] (.eff 2 (.eff 5 (.reads [6] (.eff 7 (.fin)))))) 8 (fun W'=>∀ i,W'.cell? ⟨w.heap.size,i,none⟩=([Us A n ca,Us B nb cb]:List Value)[i]?) ?_;replace HM:=K1 HM.out.drew;generalize W0.drew=V at *;refine Z6 (HM.out.cells 3 rfl) ?_;refine Z3 ?_;go_wp2_with fail;refine (CA.out _ (HM.out.rd 1 rfl)).mono ?_;rintro e w1 ⟨Ap,cp,rfl,ho,hcp,hb⟩;have hg:=(HM.out.bel 0 rfl).size;replace HM:=K1 ((HM.out.push_own hb ho rfl).lower (i:=5) rfl hg);clear ho hb hg CA;go_wp2_with fail;refine Z4 (HM.out.cells 3 rfl) ?_;refine Z3 ?_;go_wp2_with fail;refine (CB.out _ (HM.out.rd 2 rfl)).mono ?_
 rintro e w2 ⟨Am,cm,rfl,ho,hcm,hb⟩;have hg:=(HM.out.bel 0 rfl).size;replace HM:=K1 ((HM.out.push_own hb ho rfl).lower (i:=6) rfl hg);clear ho hb hg CB;go_wp2_with fail;refine Z4 (HM.out.cells 3 rfl) ?_;refine Z6 (HM.out.cells 3 rfl) ?_;refine Z3 ?_;have c2:=HM.out.cells 4 rfl;have f2:=fun j=>HM.out.frozen 4 j rfl
 have HF:=K1 ((HM.out.set (i:=4) (j:=0) rfl (Us Ap n cp)).set (i:=4) (j:=1) rfl (Us Am nb cm));clear HM;go_wp2_with fail;refine Z4 (HF.out.cells 3 rfl) (Z7 ?_);clear c2 f2;have c2:=HF.out.cells 4 rfl;go_wp2_with fail;refine bodyPost_ret (v:=exV n Ap cp nb Am cm) ?_ rfl ⟨_,_,_,_,rfl,HF.out.pick [0,5,6] _ rfl (by decide)⟩;simp [results,Tryz.results112,go_sem,c2]
theorem QR (w:World) (A B:Option Addr) (n nb ca cb:Nat) (ps ms:List Int) (hA:Rd w w.heap.size A (zC ps)) (hB:Rd w w.heap.size B (zC ms)) (hp:ps.length=n) (hm:ms.length=nb) (hn:n<=1048576) (hn2:nb<=1048576) :
  Calls Tryz.prog 111 #[exV n A ca nb B cb] w fun e w'=>∃ Ap cp Am cm,e=.returned (.tuple #[exV n Ap cp nb Am cm,.bool true])/\Mem w' [.bel w.heap.size w,vOwn w.heap.size n cp Ap ps,vOwn w.heap.size nb cm Am ms]:=by
 have CC:=K1 (fun W (hb:Below w.heap.size w W)=>LP W A B n nb ca cb ps ms ((hA.below hb).more hb.size) ((hB.below hb).more hb.size) hp hm hn hn2);have hm0:=((Z8 w).alloc (.cells #[Us A n ca,Us B nb cb] 140)).alloc (.cells #[Us none 0 0,Us none 0 0] 140);simp only [Z9] at hm0;have HM:=K1 hm0;have c1:=hm0.cells 1 rfl;clear hA hB hp hm hm0;go_enter Tryz.func111,Tryz.ntmps111;go_wp2_with fail;refine Dw fun W0 hW0=>?_;replace HM:=K1 (hW0.out.symm ▸ HM.out);clear hW0 c1;refine (CC.out _ (HM.out.bel 0 rfl)).mono ?_;rintro e w2 ⟨Ap,cp,Am,cm,rfl,hm2⟩;have hg:=(HM.out.bel 0 rfl).size
 have HM2:=K1 (((HM.out.join hm2 (fun c hc hm=>by
  simp only [List.mem_cons,List.not_mem_nil,or_false] at hc
  rcases hc with rfl | rfl <;> exact absurd trivial hm)).lower (i:=3) rfl hg).lower (i:=4) rfl hg)
 clear hm2 hg CC HM;have c2:=HM2.out.cells 2 rfl;have f2:=fun j=>HM2.out.frozen 2 j rfl
 have HF:=K1 ((HM2.out.set (i:=2) (j:=0) rfl (Us Ap n cp)).set (i:=2) (j:=1) rfl (Us Am nb cm));clear HM2;go_wp2_with fail;clear c2 f2;have c2:=HF.out.cells 2 rfl;refine bodyPost_ret (v:=.tuple #[exV n Ap cp nb Am cm,.bool true]) ?_ rfl ⟨_,_,_,_,rfl,HF.out.pick [0,3,4] _ rfl (by decide)⟩;simp [results,Tryz.results111,go_sem,c2]
end
end Go.Proofs.YtdpojpcoghcieaaGreat
