/- A part of the proof of TopTags: RefGrad, GradEq. Conditions: none. -/
import Derived.Test.YtdpojpcoghcieaaGreatSxBD
import Derived.Test.YtdpojpcoghcieaaGreatSxAW
set_option maxHeartbeats 8000000
set_option linter.all false
namespace Go.Proofs.YtdpojpcoghcieaaGreat
open Lib renaming hid → K1
open Go.RowKit
open Value renaming int → U, slice → Us
open IntKind renaming i64 → O
open Nat renaming le_refl → Aey, sub_self → Ae5, zero_le → Ae6, add_sub_cancel_left → Afd
open Int renaming toNat_natCast → Aez
open List renaming length_take → Ae0, length_append → Ae2, append_assoc → Ae3, mem_of_getElem? → Ae7, take_of_length_le → Ae8, range → Ae9, drop_eq_nil_of_le → Afa, getElem?_append_right → Afc, getElem?_take_of_lt → Afe, append_nil → Aff, map_append → Afg, map_congr_left → Afh, drop_append → Afi, nil_append → Afj
open Option renaming getD_some → Ae1
open And renaming intro → Ae4
open IntWalk renaming i64_in → Afb
section
def errG (ns:List Nat) (ps:List Int) (q n1:Nat) (f:Nat->List Int) (ys:List Int) (j:Nat):List Int:=if j=0 then [] else rerr ns ps q n1 f ys (n1-j)
def rgval (f g:Nat->List Int) (q:Nat) (p:Plc):Int :=
 if p.c<0 then (g (p.k.toNat+1))[p.r.toNat]?.getD 0 else mulF ((g (p.k.toNat+1))[p.r.toNat]?.getD 0) ((f p.k.toNat)[p.c.toNat]?.getD 0) q
def DZ (ns:List Nat) (ps:List Int) (q:Nat) (xs ys:List Int):List Int :=
 (plcN ns (ns.length-1)).map (rgval (rlay ns ps q xs) (errG ns ps q (ns.length-1) (rlay ns ps q xs) ys) q)
theorem SX (ns:List Nat) (ps:List Int) (q:Nat) (xs ys:List Int):(DZ ns ps q xs ys).length=offN ns (ns.length-1):=by simp [DZ,G0]
theorem Mem.rd0 {W:World} {L:List Ch} (h:Mem W L) (i:Nat) {b j:Nat} {vs:List Value} {v:Value} (hi:L[i]?=some (.rd (some ⟨b,0,none⟩) vs)) (hv:vs[j]?=some v):W.cell? ⟨b,j,none⟩=some v:=by
 have:=h.rdAt i hi hv
 rwa [Nat.zero_add] at this
theorem SY (la:List Ly):AK (la++[⟨none,0,[]⟩])=AK la++[Us none 0 0]:=by simp [AK]
theorem SZ {la:List Ly} {k:Nat} (hk:la.length=k) (A:Option Addr) (c n:Nat) (v:List Int) (hv:v.length=n) (u:Value):(AK la++[u]).set k (Us A n c)=AK (la++[⟨A,c,v⟩]):=by
 have h1:(AK la).length=k:=by simp [AK,hk]
 rw [List.set_append_right _ _ (by omega),h1,Ae5];simp [AK,hv]
theorem MF (la:List Ly) (l:Ly):AO (la++[l])=AO la++[(l.A,zC l.v)]:=by simp [AO]
set_option maxRecDepth 100000 in
theorem Ta (w:World) (m P cs cp q nx cx ny cy:Nat) (As Ap X Y:Option Addr) (ns:List Nat) (ps xs ys:List Int) (h:RNet w ns ps m P cs cp q As Ap) (hX:Rd w w.heap.size X (zC xs)) (hxl:xs.length=nx) (hnx:ns[0]?=some nx) (hxi:In64 xs) (hxc:nx<=cx) (hY:Rd w w.heap.size Y (zC ys)) (hyl:ys.length=ny) (hny:ns[m-1]?=some ny) :
  Calls Tryz.prog 72 #[.agg #[Us As m cs,Us Ap P cp,U O q],Us X nx cx,Us Y ny cy] w fun e w'=>∃ A c,e=.returned (Us A P c)/\w'.ownsRow w.heap.size 2 1 (Us A P c) P (zC (DZ ns ps q xs ys))/\Below w.heap.size w w':=by
 have h16:=h.few;have hm0:=(Mem.start w).alloc (.cells #[Us As m cs,Us Ap P cp,U O q] 178);have HM:=K1 hm0;have HRN:=K1 (fun W (hb:Below w.heap.size w W)=>h.below hb);have HYR:=K1 (fun W (hb:Below w.heap.size w W)=>(hY.below hb).more hb.size);have CT:=K1 (fun W (hb:Below w.heap.size w W)=>Sv W m P cs cp q As Ap ns ps (h.below hb) nx cx X xs ((hX.below hb).more hb.size) hxl hnx hxi hxc);have CP:=K1 (fun W (hb:Below w.heap.size w W)=>S6 W As m cs ns (h.below hb).sz h.ok h.len);have CL:=K1 (fun W=>Il W m P cs cp q As Ap (by omega));have CM:=K1 (fun W x y hx hy=>Ge W x y q h.sh hx hy)
 have hq:(q:Int)<=62:=by have:=h.sh;omega
 have HLN:=K1 (J4 (ns:=ns) (ps:=ps) (q:=q) (xs:=xs) (by rw [hxl,hnx];rfl));have HLI:=K1 (M0 (ns:=ns) h.bd q hxi);have HFIT:=K1 (Ae4 h.fit h.len);have hnsl:=h.len
 obtain ⟨n1,hn1⟩:∃ n1,n1=m-1:=⟨_,rfl⟩
 have hm1:m=n1+1:=by omega
 have HNS:=K1 (show ∀ k,k<=n1->∃ a,ns[k]?=some a by intro k hk;exact Au ns k (by omega));have hgr:DZ ns ps q xs ys=(plcN ns n1).map (rgval (rlay ns ps q xs) (errG ns ps q n1 (rlay ns ps q xs) ys) q):=by unfold DZ;rw [hnsl,<- hn1]
 rw [hgr];have hpl:(plcN ns n1).length=P:=by rw [G0,hn1];exact h.fit
 have hpo:=J8 ns n1;rw [<- hn1] at CP CL hny;rw [<- hn1] at HFIT;rw [HFIT.out.1] at CP;have HEL:=K1 (show ∀ f k a,ns[k]?=some a->0<k->k<=n1->(errG ns ps q n1 f ys k).length=a by intro f k a ha h0 hk;rw [errG,if_neg (by omega),J5 (by rw [hyl,hny];rfl),show n1-(n1-k)=k by omega,ha];rfl);have HEI:=K1 (show ∀ f k,In64 (errG ns ps q n1 f ys k) by intro f k;unfold errG;split;exact (fun z hz=>by cases hz);exact M1 _ _ _ _ _ _ _);have CE:=K1 (fun f ls Ao co d k W hk h1 h2 h3 a ha=>Sx m P cs cp q n1 ny cy co As Ap Ao Y ns ps ys f ls hm1 hny hyl d k W hk h1 h2 h3 a ha)
 obtain ⟨pl,hpe⟩:∃ pl,plcN ns n1=pl:=⟨_,rfl⟩
 rw [hpe] at hpl hpo CP ⊢;have HPL:=K1 (Ae4 hpl hpo)
 obtain ⟨F,hF⟩:∃ F:Nat->List Int,F=rlay ns ps q xs:=⟨_,rfl⟩
 rw [<- hF] at HLN HLI CT ⊢
 obtain ⟨G,hG⟩:∃ G:Nat->List Int,G=errG ns ps q n1 F ys:=⟨_,rfl⟩
 have HGE:=K1 (show ∀ k,0<k->rerr ns ps q n1 F ys (n1-k)=G k by intro k hk;rw [hG,errG,if_neg (by omega)]);have HG0:=K1 (show G 0=[] by rw [hG];rfl);have HGL:=K1 (show ∀ k a,ns[k]?=some a->0<k->k<=n1->(G k).length=a by rw [hG];exact HEL.out F);have HGI:=K1 (show ∀ k,In64 (G k) by rw [hG];exact HEI.out F);rw [<- hG];clear h hm0 hX hY hxl hnx hxi hxc hyl hny hnsl hn1 hgr hpl hpo hpe hF hG HEL HEI;have gm:n1<=15/\1<=n1:=by omega
 have gP:P<=1000:=h16.2.2;have HMN:=K1 hm1;clear h16 hm1;go_enter Tryz.func72,Tryz.ntmps72;have c1:=HM.out.cells 1 rfl;go_wp2_with fail;refine (CT.out _ (HM.out.bel 0 rfl)).mono ?_;rintro e w2 ⟨Ao,co,ls,rfl,hok,hmt⟩;have HB2:=K1 ((HM.out.bel 0 rfl).trans ((hmt.bel 0 rfl).mono (HM.out.bel 0 rfl).size));replace HM:=K1 (HM.out.below (hmt.bel 0 rfl));have hva:=AJ (hmt.own 1 rfl);have hfa:=hmt.st 2 rfl;clear CT c1
 have hrv:RVals w2 ns F m Ao ls:=⟨hok,hva,hfa,HLN.out,HLI.out⟩
 have HRV:=K1 hrv;have HRN2:=K1 (HRN.out w2 HB2.out);have HY2:=K1 (HYR.out w2 HB2.out);have hbx:=HM.out.box 1 rfl;have hm2:=(((Mem.start w2).add_rd (i:=0) rfl hbx).add_rd (i:=0) rfl hva).fam_add rfl hfa;clear hmt hva hfa hrv hbx HRN HYR HM;have HM:=K1 hm2;clear hm2;have c0:w2.cell? ⟨w.heap.size,0,none⟩=some (Us As m cs):=HM.out.rd0 1 rfl rfl;go_wp2_with fail;refine (CP.out _ HB2.out).mono ?_;rintro e w3 ⟨Al,cl,rfl,ho,hb3⟩;replace HM:=K1 (HM.out.push_rd hb3 (AJ ho) (AF ho));clear ho hb3 CP c0;go_wp2_with fail;generalize hg0:w.heap.size=g0 at *;generalize hb2:w2.heap.size=b2 at *
 have HEQ:=K1 (Ae4 hg0 hb2);clear hg0 hb2;have hm5:=(HM.out.add (c:=E8 b2 0 0 none (AK [])) ⟨Bh _ _ _ _,by have:=(HM.out.bel 0 rfl).size;have:=HEQ.out;omega⟩ (fun _ _ _ _ g hg=>by cases hg)).add (c:=AD (AO [])) (Da (fun a ha=>by cases ha)) (fun _ _ _ _ g hg=>by obtain ⟨a,ha,_⟩:=hg;cases ha);have HM5:=K1 hm5;clear hm5 HM;have HOK0:=K1 (show FOk G 0 [] from ⟨rfl,fun l hl=>by cases hl⟩)
 go_loopw [9,10] (fun s9 s10 wr=>∃ (k:Nat) (Aa:Option Addr) (ca:Nat) (la:List Ly),k<=m/\s9=Us Aa k ca/\s10=U O k/\Hid (FOk G k la)/\Hid (Mem wr [.bel b2 w2,.rd (some ⟨g0,0,none⟩) [Us As m cs,Us Ap P cp,U O q],.rd Ao (AK ls),AD (AO ls),.rd Al (Ds pl),E8 b2 k ca Aa (AK la),AD (AO la)])) (fun _ s10 _=>m-(intOf s10).toNat)
 case atStart=>exact ⟨0,none,0,[],Ae6 _,rfl,rfl,HOK0,HM5⟩
 case round =>
  clear HM5 HOK0;obtain ⟨k,Aa,ca,la,hk,rfl,rfl,HOK,HM⟩:=hrel;have c0:wr.cell? ⟨g0,0,none⟩=some (Us As m cs):=HM.out.rd0 1 rfl rfl;have c1:wr.cell? ⟨g0,1,none⟩=some (Us Ap P cp):=HM.out.rd0 1 rfl rfl;have c2:wr.cell? ⟨g0,2,none⟩=some (U O q):=HM.out.rd0 1 rfl rfl;go_wp2_with fail;refine (CL.out _).mono ?_;rintro e w5 ⟨rfl,hb5⟩;replace HM:=K1 (HM.out.below hb5);clear hb5 c0 c1 c2
  by_cases hlt:k<m
  . have HM3:=K1 (HM.out.alloc (.cells #[Us none 0 0] 26));have hkn:(k:Int)<=(n1:Int):=by have:=HMN.out;have:=HEQ.out;omega
    by_cases hk0:0<k
    . obtain ⟨a,ha⟩:=HNS.out k (by have:=HMN.out;omega);have gk0:(0:Int)<(k:Int):=by omega
      obtain ⟨k1,hk1⟩:∃ k1,k1=k+1:=⟨_,rfl⟩
      have gk1:(0:Int)<=(k:Int)/\(k:Int)<(k1:Int):=by omega
      have wk1:IntKind.i64.wrap ((k:Int)+1)=(k1:Int):=by rw [show (k:Int)+1=(k1:Int) by omega];exact Afb _ (by have:=HMN.out;omega)
      have HK1:=K1 hk1;have HKK:=K1 hk0;clear hk1 hk0
      go_wp2_with (at_builtin;refine AQ (n:=k) rfl _ _ 180 rfl HM3.out 5 J0 rfl rfl _ 1 _ [Us none 0 0] rfl (HM3.out.box 7 rfl) rfl (by intro u hu;simp at hu;subst hu;rfl) (by have:=HMN.out;omega) ?_;intro AA cA W6 hM6;have HM6:=K1 (show Mem W6 [.bel b2 w2,.rd (some ⟨g0,0,none⟩) [Us As m cs,Us Ap P cp,U O q],.rd Ao (AK ls),AD (AO ls),.rd Al (Ds pl),.own b2 26 1 (Us AA (k+1) cA) (k+1) (AK la++[Us none 0 0]),AD (AO la)] from hM6.front 7);clear hM6 HM3 HM;rw [<- HK1.out] at HM6 ⊢;obtain ⟨ga,hga⟩:=HM6.out.ownA 5 rfl (by have:=HK1.out;omega);subst hga;have c0:W6.cell? ⟨g0,0,none⟩=some (Us As m cs):=HM6.out.rd0 1 rfl rfl;have c1:W6.cell? ⟨g0,1,none⟩=some (Us Ap P cp):=HM6.out.rd0 1 rfl rfl;have c2:W6.cell? ⟨g0,2,none⟩=some (U O q):=HM6.out.rd0 1 rfl rfl)
      have HBW:=K1 (show Below w2.heap.size w2 W6 by rw [HEQ.out.2];exact HM6.out.bel 0 rfl);have CEk:=K1 (CE.out F ls Ao co (n1-k) k W6 (by have:=HMN.out;omega) (HRN2.out.below HBW.out) (HRV.out.below HBW.out) ((HY2.out.below (HM6.out.bel 0 rfl)).more (by have:=HBW.out.size;have:=HEQ.out;omega)) a ha);rw [HGE.out k HKK.out] at CEk;have HGk:=K1 (HGL.out k a ha HKK.out (by have:=HMN.out;omega));clear HBW ha;refine (CEk.out).mono ?_;rintro e w7 ⟨Ae,ce,rfl,hme⟩;have hce:=Be (hme.own 1 rfl);have HM7:=K1 (HM6.out.push_rd (hme.bel 0 rfl) (AJ (hme.own 1 rfl)) (AF (hme.own 1 rfl)))
      clear hme CEk HM6 c0 c1 c2;have kf:=HM7.out.ownF 5 rfl;have HLA:=K1 HOK.out.len
      obtain ⟨kv,hkv⟩:∃ v,w7.cell? ⟨ga,k,none⟩=some v:=⟨Us none 0 0,((HM7.out.own 5 rfl).cellAt k (by have:=HK1.out;omega)).trans (by rw [Afc (by simp [AK,HLA.out])];simp [AK,HLA.out])⟩
      have hm8:=HM7.out.setOwn (i:=5) (j:=k) rfl (Us Ae a ce);rw [SZ HLA.out Ae ce a (G k) HGk.out] at hm8;have HM8:=K1 ((hm8.famSnoc (i:=6) (j:=7) rfl rfl).front 7);clear hm8 HM7;go_wp2_with fail;go_roundw
      case rel=>exact ⟨k1,_,cA,la++[⟨Ae,ce,G k⟩],by have:=HK1.out;omega,rfl,by go_num,K1 (by rw [HK1.out];exact HOK.out.snoc rfl (by dsimp only;rw [HGk.out];exact hce)),K1 (by rw [MF];exact HM8.out)⟩
      case measure=>simp [intOf];omega
    . have hk00:k=0:=by omega
      have HK0:=K1 hk00;have gk0:¬ (0:Int)<(k:Int):=by omega
      clear hk00 hk0
      go_wp2_with (at_builtin;refine AQ (n:=k) rfl _ _ 180 rfl HM3.out 5 J0 rfl rfl _ 1 _ [Us none 0 0] rfl (HM3.out.box 7 rfl) rfl (by intro u hu;simp at hu;subst hu;rfl) (by have:=HMN.out;omega) ?_;intro AA cA W6 hM6;have HM6:=K1 (show Mem W6 [.bel b2 w2,.rd (some ⟨g0,0,none⟩) [Us As m cs,Us Ap P cp,U O q],.rd Ao (AK ls),AD (AO ls),.rd Al (Ds pl),.own b2 26 1 (Us AA (k+1) cA) (k+1) (AK la++[Us none 0 0]),AD (AO la)] from hM6.front 7);clear hM6 HM3 HM)
      have hm8:=(HM6.out.add_rd (i:=0) rfl (Rd.nil_ _ _ none)).famSnoc (i:=6) (j:=7) (A:=none) (vs:=zC []) rfl rfl;have HM8:=K1 (hm8.front 7);clear hm8 HM6;go_roundw
      case rel=>exact ⟨k+1,AA,cA,la++[⟨none,0,[]⟩],by have:=HMN.out;have:=HEQ.out;omega,rfl,by go_num,K1 (HOK.out.snoc (by rw [HK0.out];exact HG0.out.symm) (by simp)),K1 (by rw [MF,SY];exact HM8.out)⟩
      case measure=>simp [intOf];omega
  . have hkm:k=m:=by have:=HMN.out;have:=HEQ.out;omega
    subst hkm;have hkn:¬ (k:Int)<=(n1:Int):=by have:=HMN.out;have:=HEQ.out;omega
    have hkd:decide (k<=n1)=false:=decide_eq_false (by omega)
    have hm6:=((HM.out.freeze (i:=5) rfl).add (c:=.own b2 2 1 (Us none 0 0) 0 (zC ((pl.take 0).map (rgval F G q)))) ⟨Bh _ _ _ _,by have:=(HM.out.bel 0 rfl).size;have:=HEQ.out;omega⟩ (fun _ _ _ _ g hg=>by cases hg))
    have HM6:=K1 hm6;clear hm6 HM;go_wp2_with fail
    go_loopw [11,12] (fun s11 s12 wr=>∃ (i:Nat) (Az:Option Addr) (cz:Nat),i<=P/\s11=Us Az i cz/\s12=U O i/\Hid (Mem wr [.bel b2 w2,.rd (some ⟨g0,0,none⟩) [Us As k cs,Us Ap P cp,U O q],.rd Ao (AK ls),AD (AO ls),.rd Al (Ds pl),.rd Aa (AK la),AD (AO la),vOwn b2 i cz Az ((pl.take i).map (rgval F G q))])) (fun _ s12 _=>P-(intOf s12).toNat)
    case atStart=>exact ⟨0,none,0,Ae6 _,rfl,rfl,HM6⟩
    case round =>
     clear HM6;obtain ⟨i,Az,cz,hi,rfl,rfl,HM⟩:=hrel
     by_cases hiP:i<P
     . obtain ⟨p,hp⟩:=Au pl i (by rw [HPL.out.1];exact hiP);obtain ⟨kk,rr,hkk,e1,e2,hrr,hcc⟩:=HPL.out.2 p (Ae7 hp);have HTK:=K1 (show (pl.take (i+1)).map (rgval F G q)=(pl.take i).map (rgval F G q)++[rgval F G q p] by rw [List.take_add_one,hp];simp);have hfl:=Ef J6 3 (fun _=>rfl) pl i p hp;obtain ⟨bp,op,rfl⟩:=HM.out.rdA 4 rfl (by have:=(List.getElem?_eq_some_iff.1 (hfl 0 _ rfl)).1;exact Nat.lt_of_le_of_lt (Ae6 _) this);have d0:=HM.out.rdAt 4 rfl (hfl 0 _ rfl);have d1:=HM.out.rdAt 4 rfl (hfl 1 _ rfl);have d2:=HM.out.rdAt 4 rfl (hfl 2 _ rfl);rw [Nat.add_zero] at d0;rw [<- Nat.add_assoc] at d1 d2
       obtain ⟨pk,pr,pc⟩:=p;dsimp only at e1 e2 hcc;subst e1;subst e2;obtain ⟨a,ha⟩:=HNS.out kk (by have:=HMN.out;have:=HEQ.out;omega);obtain ⟨b,hb⟩:=HNS.out (kk+1) (by have:=HMN.out;have:=HEQ.out;omega);rw [hb] at hrr;rw [ha] at hcc;dsimp only [Ae1] at hrr hcc;obtain ⟨le,hle,hlev,_⟩:=HOK.out.at_ (show kk+1<k by have:=HMN.out;have:=HEQ.out;omega);have hlel:le.v.length=b:=by rw [hlev];exact HGL.out _ b hb (by have:=HMN.out;have:=HEQ.out;omega) (by have:=HMN.out;have:=HEQ.out;omega)
       have HEV:=K1 (show (AK la)[kk+1]?=some (Us le.A b le.c) by simp [AK,hle,hlel]);have HER:=K1 (show ∀ (W:World) (M:List Ch),Mem W M->M[6]?=some (AD (AO la))->Rd W W.heap.size le.A (zC le.v) from fun W M h hM=>h.famRd (j:=kk+1) hM (by simp [AO,hle]));obtain ⟨d,hd⟩:=Au le.v rr (by have:=HMN.out;have:=HEQ.out;omega);have hdv:(G (kk+1))[rr]?.getD 0=d:=by rw [<- hlev,hd];rfl
       have hdi:-9223372036854775808<=d/\d<=9223372036854775807:=by have:=HGI.out (kk+1);rw [<- hlev] at this;exact this d (Ae7 hd)
       obtain ⟨ll,hl,hlv,_⟩:=HRV.out.ok.at_ (show kk<k by have:=HMN.out;have:=HEQ.out;omega);have hll:ll.v.length=a:=by rw [hlv,HLN.out kk,ha];rfl
       have HLV:=K1 (show (AK ls)[kk]?=some (Us ll.A a ll.c) by simp [AK,hl,hll]);have HLR:=K1 (show ∀ (W:World) (M:List Ch),Mem W M->M[3]?=some (AD (AO ls))->Rd W W.heap.size ll.A (zC ll.v) from fun W M h hM=>h.famRd (j:=kk) hM (by simp [AO,hl]));have hlli:In64 ll.v:=by rw [hlv];exact HLI.out kk
       have HLX:=K1 (show ∀ c:Nat,(F kk)[c]?=ll.v[c]? by intro c;rw [hlv]);generalize ll.A=lA at *;generalize ll.c=lc at *;generalize ll.v=lv at *;generalize le.A=eA at *;generalize le.c=ec at *;generalize le.v=ev at *;obtain ⟨be,oe,hbe,_,_⟩:=HER.out _ _ HM.out rfl (by simp;omega);subst hbe;have QE:=K1 (fun W (M:List Ch) (h:Mem W M) (hM:M[6]?=some (AD (AO la)))=>(HER.out W M h hM).at_cell (Bk hd));obtain ⟨ba,oa,hba⟩:=HM.out.rdA 5 rfl (by simp [AK];have:=HOK.out.len;omega);subst hba;obtain ⟨bo,oo,hbo⟩:=HM.out.rdA 2 rfl (by simp [AK];have:=HRV.out.ok.len;omega);subst hbo
       obtain ⟨k1,hk1⟩:∃ k1,k1=kk+1:=⟨_,rfl⟩
       rw [<- hk1] at HEV;have wk1:IntKind.i64.wrap ((kk:Int)+1)=(k1:Int):=by rw [show (kk:Int)+1=(k1:Int) by have:=HMN.out;have:=HEQ.out;omega];exact Afb _ (by have:=HMN.out;have:=HEQ.out;omega)
       have gk1:(0:Int)<=(k1:Int)/\(k1:Int)<(k:Int):=by have:=HMN.out;have:=HEQ.out;omega
       have gr:(0:Int)<=(rr:Int)/\(rr:Int)<(b:Int):=by have:=HMN.out;have:=HEQ.out;omega
       have gkk:(0:Int)<=(kk:Int)/\(kk:Int)<(k:Int):=by have:=HMN.out;have:=HEQ.out;omega
       have gi:(0:Int)<=(i:Int)/\(i:Int)<(P:Int):=by have:=HMN.out;have:=HEQ.out;omega
       have gi2:i<=1000:=by have:=HMN.out;have:=HEQ.out;omega
       have HLL:=K1 (Ae4 hll hlli);have HDV:=K1 hdv;have HDI:=K1 hdi;clear hle hlev hlel hl hlv hll hlli hd hdv hdi hp hfl hk1 ha hb hrr hkk;have HMp:=K1 (HM.out.alloc (.cells #[U O (kk:Int),U O (rr:Int),U O pc] 230));have c8:=HMp.out.cells 8 rfl;have HMq:=HMp;clear HMp HM c8;have c8:=HMq.out.cells 8 rfl;go_wp2_with fail;clear c8 d0 d1 d2;refine A9 fun W0 hW=>?_;replace HMq:=K1 (hW.out.symm ▸ HMq.out);clear hW
       refine AC (.reads [0,1,2,3,4,5,6,7,8,9,10] (.fin)) 11 (fun W'=>W'.cell? ⟨wr.heap.size,0,none⟩=some (U O (kk:Int))/\W'.cell? ⟨wr.heap.size,1,none⟩=some (U O (rr:Int))/\W'.cell? ⟨wr.heap.size,2,none⟩=some (U O pc)/\W'.cell? ⟨ba,oa+k1,none⟩=some (Us (some ⟨be,oe,none⟩) b ec)/\W'.cell? ⟨be,oe+rr,none⟩=some (U O d)) ?_;replace HMq:=K1 HMq.out.drew;generalize W0.drew=V at *;refine PlS.rd_ ⟨HMq.out.cell 8 0 rfl rfl,HMq.out.cell 8 1 rfl rfl,HMq.out.cell 8 2 rfl rfl,HMq.out.rdAt 5 rfl HEV.out,QE.out _ _ HMq.out rfl⟩ ?_;refine PlS.fin_ ?_;have c8:=HMq.out.cells 8 rfl
       rcases hcc with hcc | ⟨cc,hcc,hca⟩
       . subst hcc;have HV:=K1 (show rgval F G q ⟨(kk:Int),(rr:Int),-1⟩=d by rw [<- HDV.out];rfl);have HM3:=K1 (HMq.out.alloc (.cells #[U O d] 2))
         go_wp2_with (at_builtin;refine AQ (n:=i) rfl _ _ 26 rfl HM3.out 7 DQ rfl rfl _ 1 _ [U O d] rfl (HM3.out.box 9 rfl) rfl (by intro u hu;simp at hu;subst hu;rfl) (by have:=HMN.out;have:=HEQ.out;omega) ?_;intro AZ' cZ' W4 hM4;have HM4:=K1 (hM4.front 8);clear hM4 HM3)
         have HE:=K1 (show zC ((pl.take (i+1)).map (rgval F G q))=zC ((pl.take i).map (rgval F G q))++[U O d] by rw [HTK.out,HV.out];simp);go_roundw
         case rel=>exact ⟨i+1,AZ',cZ',by omega,rfl,by go_num,K1 (by unfold vOwn;rw [HE.out];exact HM4.out)⟩
         case measure=>simp [intOf];omega
       . subst hcc;obtain ⟨x,hx⟩:=Au lv cc (by have:=HLL.out.1;omega);have hxi:=HLL.out.2 x (Ae7 hx);have HV:=K1 (show rgval F G q ⟨(kk:Int),(rr:Int),(cc:Int)⟩=mulF d x q by unfold rgval;dsimp only;rw [if_neg (by have:=HMN.out;have:=HEQ.out;omega),Aez,Aez,Aez,HDV.out,HLX.out,hx];rfl);obtain ⟨bl,ol,hbl,_,_⟩:=HLR.out _ _ HMq.out rfl (by simp;have:=HLL.out.1;omega);subst hbl;have QX:=K1 (fun W (M:List Ch) (h:Mem W M) (hM:M[3]?=some (AD (AO ls)))=>(HLR.out W M h hM).at_cell (Bk hx));have CMd:=K1 (fun W=>CM.out W d x HDI.out hxi);generalize mulF d x q=dv at *
         have gcc:(0:Int)<=(cc:Int)/\(cc:Int)<(a:Int):=by have:=HMN.out;have:=HEQ.out;omega
         clear hx hxi;go_wp2_with fail;clear c8;refine A9 fun W1 hW=>?_;replace HMq:=K1 (hW.out.symm ▸ HMq.out);clear hW;refine AC (.reads [0,1,2,3,4,5,6,7,8,9,10,11] (.eff 12 (.reads [13] (.fin)))) 14 (fun W'=>W'.cell? ⟨wr.heap.size,0,none⟩=some (U O (kk:Int))/\W'.cell? ⟨wr.heap.size,1,none⟩=some (U O (rr:Int))/\W'.cell? ⟨wr.heap.size,2,none⟩=some (U O (cc:Int))/\W'.cell? ⟨bo,oo+kk,none⟩=some (Us (some ⟨bl,ol,none⟩) a lc)/\W'.cell? ⟨bl,ol+cc,none⟩=some (U O x)/\W'.cell? ⟨g0,2,none⟩=some (U O q)) ?_;replace HMq:=K1 HMq.out.drew;generalize W1.drew=V1 at *
         refine PlS.rd_ ⟨HMq.out.cell 8 0 rfl rfl,HMq.out.cell 8 1 rfl rfl,HMq.out.cell 8 2 rfl rfl,HMq.out.rdAt 2 rfl HLV.out,QX.out _ _ HMq.out rfl,HMq.out.rd0 1 rfl rfl⟩ ?_;refine PlS.ef_ ?_;go_wp2_with fail;refine (CMd.out _).mono ?_;rintro e w9 ⟨rfl,rfl⟩;clear CMd;go_wp2_with fail;refine After.go ⟨HMq.out.cell 8 0 rfl rfl,HMq.out.cell 8 1 rfl rfl,HMq.out.cell 8 2 rfl rfl,HMq.out.rdAt 2 rfl HLV.out,QX.out _ _ HMq.out rfl,HMq.out.rd0 1 rfl rfl⟩ ?_
         refine PlS.rc_ ⟨HMq.out.cell 8 0 rfl rfl,HMq.out.cell 8 1 rfl rfl,HMq.out.cell 8 2 rfl rfl,HMq.out.rdAt 2 rfl HLV.out,QX.out _ _ HMq.out rfl,HMq.out.rd0 1 rfl rfl⟩ ?_;refine PlS.fin_ ?_;have HM3:=K1 (HMq.out.alloc (.cells #[U O dv] 2))
         go_wp2_with (at_builtin;refine AQ (n:=i) rfl _ _ 26 rfl HM3.out 7 DQ rfl rfl _ 1 _ [U O dv] rfl (HM3.out.box 9 rfl) rfl (by intro u hu;simp at hu;subst hu;rfl) (by have:=HMN.out;have:=HEQ.out;omega) ?_;intro AZ' cZ' W4 hM4;have HM4:=K1 (hM4.front 8);clear hM4 HM3)
         have HE:=K1 (show zC ((pl.take (i+1)).map (rgval F G q))=zC ((pl.take i).map (rgval F G q))++[U O dv] by rw [HTK.out,HV.out];simp);go_roundw
         case rel=>exact ⟨i+1,AZ',cZ',by omega,rfl,by go_num,K1 (by unfold vOwn;rw [HE.out];exact HM4.out)⟩
         case measure=>simp [intOf];omega
     . have hin:i=P:=by have:=HMN.out;have:=HEQ.out;omega
       subst hin;go_wp2_with fail;go_ret;have ho:=HM.out.own 7 rfl;rw [Ae8 (by rw [HPL.out.1];exact Aey _)] at ho;have hbl:=HM.out.bel 0 rfl;have hsz:g0<=b2:=by rw [<- HEQ.out.1,<- HEQ.out.2];have:=HB2.out.size;have:=HEQ.out;omega
       rw [HEQ.out.1];exact ⟨Az,cz,rfl,DG hsz ho,HB2.out.trans (hbl.mono hsz)⟩
theorem MG (xs:List Int):∀ k,k<=xs.length->∀ j,(Cz xs k)[j]?.getD 0=if j<k then max (xs[j]?.getD 0) 0 else xs[j]?.getD 0
 | 0,_,j=>by rw [if_neg (by omega)];rfl
 | k+1,h,j=>by
   rw [Cz,Fw _ _ _ _ (by rw [Hv];omega),MG xs k (by omega) j]
   by_cases e:j=k
   . subst e;rw [if_pos rfl,if_pos (by omega)]
   . rw [if_neg e]
     by_cases e2:j<k
     . rw [if_pos e2,if_pos (by omega)]
     . rw [if_neg e2,if_neg (by omega)]
theorem MH (xs:List Int) (a:Int) (q:Nat):∀ k,k<=xs.length->∀ j,(Dd xs a q k)[j]?.getD 0=if j<k then mulF (xs[j]?.getD 0) a q else xs[j]?.getD 0
 | 0,_,j=>by rw [if_neg (by omega)];rfl
 | k+1,h,j=>by
   rw [Dd,Fw _ _ _ _ (by rw [Hl];omega),MH xs a q k (by omega) j]
   by_cases e:j=k
   . subst e;rw [if_pos rfl,if_pos (by omega)]
   . rw [if_neg e]
     by_cases e2:j<k
     . rw [if_pos e2,if_pos (by omega)]
     . rw [if_neg e2,if_neg (by omega)]
theorem MI (vs xs:List Int):∀ k,k<=xs.length->∀ j,(De vs xs k)[j]?.getD 0=if j<k then Dr (vs[j]?.getD 0) (xs[j]?.getD 0) else xs[j]?.getD 0
 | 0,_,j=>by rw [if_neg (by omega)];rfl
 | k+1,h,j=>by
   rw [De,Fw _ _ _ _ (by rw [Gf];omega),MI vs xs k (by omega) j]
   by_cases e:j=k
   . subst e;rw [if_pos rfl,if_pos (show j<j+1 by omega)];rfl
   . rw [if_neg e]
     by_cases e2:j<k
     . rw [if_pos e2,if_pos (by omega)]
     . rw [if_neg e2,if_neg (by omega)]
theorem MJ (ys xs:List Int):∀ k,k<=xs.length->∀ j,(Ce ys xs k)[j]?.getD 0=if j<k then wrap64 (xs[j]?.getD 0-ys[j]?.getD 0) else xs[j]?.getD 0
 | 0,_,j=>by rw [if_neg (by omega)];rfl
 | k+1,h,j=>by
   rw [Ce,Fw _ _ _ _ (by rw [Gc];omega),MJ ys xs k (by omega) j]
   by_cases e:j=k
   . subst e;rw [if_pos rfl,if_pos (by omega)]
   . rw [if_neg e]
     by_cases e2:j<k
     . rw [if_pos e2,if_pos (by omega)]
     . rw [if_neg e2,if_neg (by omega)]
theorem MK {ns:List Nat} {ps:List Int} {k a b r c:Nat} (ha:ns[k]?=some a) (hb:ns[k+1]?=some b) (hr:r<b) (hc:c<a):(rowL (subL ps (offN ns k) (midN ns k)) a r)[c]?.getD 0=wAt ns ps k r c:=by
 have hin:r*a+a<=b*a:=by have:=Nat.mul_le_mul_right a (show r+1<=b by omega);rw [Nat.succ_mul] at this;exact this
 have hm:midN ns k=offN ns k+b*a:=by rw [midN,ha,hb];rfl
 unfold rowL wAt;rw [Jq _ _ _ _ (by omega),Jq _ _ _ _ (by omega),ha,Nat.add_assoc];rfl
theorem ML {ns:List Nat} {ps xs:List Int} {k a b r:Nat} (q:Nat) (hp:In64 ps) (ha:ns[k]?=some a) (hb:ns[k+1]?=some b) (hr:r<b):∀ c,c<=a->Cq ns ps q k r xs c=wrap64 (Cy (rowL (subL ps (offN ns k) (midN ns k)) a r) xs q c+bAt ns ps k r)
 | 0,_=>by rw [Cq,Cy,Int.zero_add];exact (Mb (Gx hp _)).symm
 | c+1,h=>by
   rw [Cq,Cy,ML q hp ha hb hr c (by omega),MK ha hb hr (by omega),Ma,Ma]
   congr 1
   omega
theorem MM {ns:List Nat} {ps xs:List Int} {k a b r:Nat} (q:Nat) (hp:In64 ps) (ha:ns[k]?=some a) (hb:ns[k+1]?=some b) (hr:r<b):(linL ns ps q k xs)[r]?.getD 0=Cq ns ps q k r xs a:=by
 have hm:offN ns (k+1)=midN ns k+b:=by rw [Fm,hb];rfl
 rw [ML q hp ha hb hr a (Aey _)];unfold linL;rw [ha,hb];dsimp only [Ae1];rw [Gn _ _ _ _ (by rw [Gb];omega),if_pos (by omega),Nat.sub_zero,Jq _ _ _ _ (by omega)];unfold mvL bAt;rw [Fy _ _ _ hr]
theorem MN {ns:List Nat} {ps xs:List Int} (q:Nat) (hn:NsOk ns) (hp:In64 ps) (hx:xs.length=ns[0]?.getD 0):∀ k,k<=ns.length-1->layL ns ps q xs k=rlay ns ps q xs k
 | 0,_=>rfl
 | k+1,h=>by
   obtain ⟨a,b,ha,hb,_⟩:=hn.at_ (k:=k) (by omega);have ih:=MN q hn hp hx k (by omega);refine Fv (by rw [EL ns ps q xs hx,J4 hx]) fun r hr=>?_;rw [EL ns ps q xs hx,hb] at hr;have hr:r<b:=hr;rw [rlay,hb];show _=((Ae9 b).map _)[r]?.getD 0;rw [Fy _ _ _ hr,layL,ih];unfold rz;rw [ha];dsimp only [Ae1]
   by_cases e:k+1<ns.length-1
   . rw [if_pos e,if_pos e,hb];show (Cz _ b)[r]?.getD 0=_;rw [MG _ _ (by rw [Jj,hb];exact Aey _),if_pos hr,MM q hp ha hb hr];unfold Dr
     split <;> omega
   . rw [if_neg e,if_neg e];exact MM q hp ha hb hr
theorem MO {ns:List Nat} {ps ys:List Int} {k a b c:Nat} (q:Nat) (ha:ns[k]?=some a) (hb:ns[k+1]?=some b) (hc:c<a) (hps:midN ns k<=ps.length):∀ r,r<=b->(Cp (subL ps (offN ns k) (midN ns k)) ys a q r)[c]?.getD 0=rcol ns ps q k c ys r
 | 0,_=>by rw [Cp,Md];rfl
 | r+1,h=>by
   have hm:midN ns k=offN ns k+b*a:=by rw [midN,ha,hb];rfl
   have hl:(rowL (subL ps (offN ns k) (midN ns k)) a r).length=a:=Hp (r:=b) (by rw [Dc (by omega) hps];omega) (by omega);rw [Cp,rcol,Gn _ _ _ _ (by rw [EK];omega),if_pos (by omega),Nat.sub_zero,MH _ _ _ _ (by rw [hl];exact Aey _),if_pos hc,MO q ha hb hc hps r (by omega),MK ha hb (by omega) hc]
theorem MP (ys xs:List Int) (q c k:Nat) (l:List Int):∀ j,k*c+j<=l.length->∀ i,(Do ys xs q c k l j)[i]?.getD 0=if k*c<=i/\i<k*c+j then mulF (ys[k]?.getD 0) (xs[i-k*c]?.getD 0) q else l[i]?.getD 0
 | 0,_,i=>by rw [if_neg (by omega)];rfl
 | j+1,h,i=>by
   rw [Do,Fw _ _ _ _ (by rw [Hr];omega),MP ys xs q c k l j (by omega) i]
   by_cases e:i=k*c+j
   . subst e;rw [if_pos rfl,if_pos (by omega),Afd]
   . rw [if_neg e]
     by_cases e2:k*c<=i/\i<k*c+j
     . rw [if_pos e2,if_pos (by omega)]
     . rw [if_neg e2,if_neg (by omega)]
theorem MQ (ys xs:List Int) (q c n:Nat):∀ k,k*c<=n->(BA ys xs q c n k).take (k*c)=(Ae9 k).flatMap fun r=>(Ae9 c).map fun j=>mulF (ys[r]?.getD 0) (xs[j]?.getD 0) q
 | 0,_=>by simp
 | k+1,h=>by
   have h1:(k+1)*c=k*c+c:=Nat.succ_mul k c;have ih:=MQ ys xs q c n k (by omega);rw [List.range_succ,List.flatMap_append,<- ih];have hl:((BA ys xs q c n k).take (k*c)).length=k*c:=by rw [Ae0,D5];omega
   refine Fv (by rw [Ae2,hl,Ae0,D5];simp;omega) fun i hi=>?_;rw [Ae0,D5] at hi;rw [Afe (by omega),BA,MP _ _ _ _ _ _ _ (by rw [D5];omega)]
   rcases Nat.lt_or_ge i (k*c) with h2 | h2
   . rw [if_neg (by omega),List.getElem?_append_left (by rw [hl];exact h2),Afe h2]
   . rw [if_pos (by omega),Afc (by rw [hl];exact h2),hl];simp only [List.flatMap_cons,List.flatMap_nil,Aff];rw [Fy _ _ _ (by omega)]
theorem Tb {ns:List Nat} {k a b:Nat} (q:Nat) (f g:Nat->List Int) (ha:ns[k]?=some a) (hb:ns[k+1]?=some b) (hg:(g (k+1)).length=b) :
  BA (g (k+1)) (f k) q a (midN ns k-offN ns k) b++g (k+1)=(BB k a b++Cr k b).map (rgval f g q):=by
 have hm:midN ns k-offN ns k=b*a:=by rw [midN,ha,hb];exact Afd _ _
 rw [hm,Afg]
 congr 1
 . have h:=MQ (g (k+1)) (f k) q a (b*a) b (Aey _);rw [Ae8 (by rw [D5];exact Aey _)] at h;rw [h];unfold BB;rw [List.map_flatMap]
   congr 1
   funext r
   rw [List.map_map];refine Afh fun c _=>?_;show _=rgval f g q ⟨(k:Int),(r:Int),(c:Int)⟩;unfold rgval;dsimp only;rw [if_neg (by omega),Aez,Aez,Aez]
 . unfold Cr;rw [List.map_map];refine Fv (by simp [hg]) fun i hi=>?_;rw [Fy _ _ _ (by omega)];show _=rgval f g q ⟨(k:Int),(i:Int),-1⟩;unfold rgval;dsimp only;rw [if_pos (by omega),Aez,Aez]
theorem Tc {ns:List Nat} {q k a b:Nat} {lay:Nat->List Int} {d out:List Int} (ha:ns[k]?=some a) (hb:ns[k+1]?=some b) (hd:d.length=b) (ho:offN ns (k+1)<=out.length) :
  gOut ns q lay k d out=out.take (offN ns k)++((BA d (lay k) q a (midN ns k-offN ns k) b++d)++out.drop (offN ns (k+1))):=by
 have hm:midN ns k=offN ns k+b*a:=by rw [midN,ha,hb];rfl
 have hm2:offN ns (k+1)=midN ns k+b:=by rw [Fm,hb];rfl
 have hl1:(BA d (lay k) q a (midN ns k-offN ns k) b).length=midN ns k-offN ns k:=D5 _ _ _ _ _ _;have hl2:(out.take (offN ns k)).length=offN ns k:=by rw [Ae0];omega
 unfold gOut splice;rw [ha,hb];dsimp only [Ae1];generalize BA d (lay k) q a (midN ns k-offN ns k) b=Oo at *
 have e1:(out.take (offN ns k)++(Oo++out.drop (offN ns k+Oo.length))).take (midN ns k)=out.take (offN ns k)++Oo:=by
  rw [<- Ae3,List.take_append_of_le_length (by rw [Ae2];omega),Ae8 (by rw [Ae2];omega)]
 have e2:(out.take (offN ns k)++(Oo++out.drop (offN ns k+Oo.length))).drop (midN ns k+d.length)=out.drop (offN ns (k+1)):=by
  rw [<- Ae3,Afi,Afa (by rw [Ae2];omega),Afj,List.drop_drop,Ae2]
  congr 1
  omega
 rw [e1,e2];simp only [Ae3]
theorem MR {ns:List Nat} {ps ys:List Int} {q:Nat} (hn:NsOk ns) (hl:ps.length=offN ns (ns.length-1)) (f:Nat->List Int) (hf:∀ k,k<=ns.length-1->(f k).length=ns[k]?.getD 0) (hys:ys.length=ns[ns.length-1]?.getD 0) (n1:Nat) (hn1:n1=ns.length-1) :
  ∀ k,k<=n1->0<k->∀ out,offN ns k<=out.length->EM ns ps q f k (errG ns ps q n1 f ys k) out=(plcN ns k).map (rgval f (errG ns ps q n1 f ys) q)++out.drop (offN ns k)
 | 0,_,h,_,_=>absurd h (Nat.lt_irrefl _)
 | k+1,hk,_,out,ho=>by
   obtain ⟨a,b,ha,hb,_,_,e1,e2,_⟩:=hn.at_ (k:=k) (by omega)
   have hel:(errG ns ps q n1 f ys (k+1)).length=b:=by
    unfold errG;rw [if_neg (by omega),J5 (by rw [hys,hn1]),show n1-(n1-(k+1))=k+1 by omega,hb];rfl
   have hO:=Tb q f (errG ns ps q n1 f ys) ha hb hel;have hG:=Tc (q:=q) (lay:=f) ha hb hel ho;rw [hO] at hG;have hP:plcN ns (k+1)=plcN ns k++(BB k a b++Cr k b):=by rw [plcN,ha,hb,Ae3];rfl
   rw [EM,hP,Afg,Ae3]
   by_cases h0:k=0
   . subst h0;rw [if_pos rfl,hG];rfl
   . rw [if_neg h0]
     have hD:gD ns ps q f k (errG ns ps q n1 f ys (k+1))=errG ns ps q n1 f ys k:=by
      obtain ⟨d,hd⟩:∃ d,n1-k=d+1:=⟨n1-k-1,by omega⟩
      have hd2:n1-(k+1)=d:=by omega
      have hd3:n1-(d+1)=k:=by omega
      have hd4:n1-d=k+1:=by omega
      unfold errG;rw [if_neg (by omega),if_neg h0,hd,hd2,rerr,hd3,hd4,ha,hb];unfold gD;rw [ha,hb];dsimp only [Ae1];have hmo:=Hs ns (show k+1<=ns.length-1 by omega);refine Fv (by rw [Gf,EK];simp) fun c hc=>?_;rw [Gf,EK] at hc;rw [MI _ _ _ (by rw [EK];exact Aey _),if_pos hc,Fy _ _ _ hc,MO q ha hb hc (by omega) b (Aey _)]
     rw [hD];have hlen:(gOut ns q f k (errG ns ps q n1 f ys (k+1)) out).length=out.length:=QJ rfl (by rw [hel];omega) (by omega);rw [MR hn hl f hf hys n1 hn1 k (by omega) (by omega) _ (by omega)]
     congr 1
     rw [hG,Afi,Afa (by rw [Ae0];omega),Afj,Ae0,Nat.min_eq_left (by omega),Ae5,List.drop_zero]
theorem Td {ns:List Nat} {f f' g:Nat->List Int} {q n1:Nat} (h:∀ k,k<n1->f k=f' k):(plcN ns n1).map (rgval f g q)=(plcN ns n1).map (rgval f' g q) :=
 Afh fun p hp=>by
  obtain ⟨k,r,hk,e1,_⟩:=J8 ns n1 p hp;unfold rgval;rw [e1,Aez,h k hk]
theorem MS {ns:List Nat} {ps ys:List Int} {q n1:Nat} {f f':Nat->List Int} (h:∀ k,k<=n1->f k=f' k):∀ d,rerr ns ps q n1 f ys d=rerr ns ps q n1 f' ys d
 | 0=>by rw [rerr,rerr,h n1 (Aey _)]
 | d+1=>by rw [rerr,rerr,h _ (by omega),MS h d]
theorem Te {ns:List Nat} {ps xs ys:List Int} (q:Nat) (hn:NsOk ns) (hp:In64 ps) (hl:ps.length=offN ns (ns.length-1)) (hx:xs.length=ns[0]?.getD 0) (hy:ys.length=ns[ns.length-1]?.getD 0):DX ns ps q xs ys=DZ ns ps q xs ys:=by
 have h2:=hn.len.1;have hf:=MN (xs:=xs) q hn hp hx;unfold DX DZ
 obtain ⟨n1,hn1⟩:∃ n1,n1=ns.length-1:=⟨_,rfl⟩
 have hlay:=EL ns ps q xs hx;rw [<- hn1] at hf hy hl ⊢
 have h0:Ce ys (layL ns ps q xs n1) (ns[n1]?.getD 0)=errG ns ps q n1 (layL ns ps q xs) ys n1:=by
  unfold errG;rw [if_neg (by omega),Ae5,rerr,hy];refine Fv (by rw [Gc,hlay];simp) fun i hi=>?_;rw [Gc,hlay] at hi;rw [MJ _ _ _ (by rw [hlay];exact Aey _),if_pos hi,Fy _ _ _ hi]
 rw [h0,MR hn (by rw [hl,hn1]) (layL ns ps q xs) (fun k _=>hlay k) (by rw [hy,hn1]) n1 hn1 n1 (Aey _) (by omega) _ (by simp [AE])];rw [Afa (by simp [AE]),Aff]
 have e:errG ns ps q n1 (layL ns ps q xs) ys=errG ns ps q n1 (rlay ns ps q xs) ys:=by
  funext j
  unfold errG;rw [MS hf]
 rw [e];exact Td fun k hk=>hf k (by omega)
end
end Go.Proofs.YtdpojpcoghcieaaGreat
