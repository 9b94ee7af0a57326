/- A part of the proof of TopSerial: RefGrad, ConfNeedPlain, ConfNeed. Conditions: none. -/
import Derived.Test.YtdpojpcoghcieaaGreatSdBC
set_option maxHeartbeats 8000000
namespace Go.Proofs.YtdpojpcoghcieaaGreat
open Lib renaming hid → K1
open List renaming filterMap_cons → p1, filterMap_nil → p2, getElem?_cons_zero → p3, getElem?_cons_succ → p4
open Go.RowKit
def errG (ns:List Nat) (ps:List Int) (q n1:Nat) (f:Nat→List Int) (ys:List Int) (j:Nat):List Int:=if j=0 then [] else rerr ns ps q n1 f ys (n1-j)
def rgval (f g:Nat→List Int) (q:Nat) (p:Plc):Int :=
 if p.c<0 then (g (p.k.toNat+1))[p.r.toNat]?.getD 0 else mulF ((g (p.k.toNat+1))[p.r.toNat]?.getD 0) ((f p.k.toNat)[p.c.toNat]?.getD 0) q
def rgradL (ns:List Nat) (ps:List Int) (q:Nat) (xs ys:List Int):List Int :=
 (plcN ns (ns.length-1)).map (rgval (rlay ns ps q xs) (errG ns ps q (ns.length-1) (rlay ns ps q xs) ys) q)
theorem rgradL_len (ns:List Nat) (ps:List Int) (q:Nat) (xs ys:List Int):(rgradL ns ps q xs ys).length=offN ns (ns.length-1):=by simp [rgradL,plcN_len]
theorem Mem.rd0 {W:World} {L:List Ch} (h:Mem W L) (i:Nat) {b j:Nat} {vs:List Value} {v:Value} (hi:L[i]?=some (.rd (some ⟨b,0,none⟩) vs)) (hv:vs[j]?=some v):W.cell? ⟨b,j,none⟩=some v:=by
 have:=h.rdAt i hi hv
 rwa [Nat.zero_add] at this
theorem ly_nil (la:List Ly):lyVals (la++[⟨none,0,[]⟩])=lyVals la++[.slice none 0 0]:=by simp [lyVals]
theorem ly_set {la:List Ly} {k:Nat} (hk:la.length=k) (A:Option Addr) (c n:Nat) (v:List Int) (hv:v.length=n) (u:Value):(lyVals la++[u]).set k (.slice A n c)=lyVals (la++[⟨A,c,v⟩]):=by
 have h1:(lyVals la).length=k:=by simp [lyVals,hk]
 rw [List.set_append_right _ _ (by omega),h1,Nat.sub_self]
 simp [lyVals,hv]
theorem ly_fam (la:List Ly) (l:Ly):lyFam (la++[l])=lyFam la++[(l.A,zC l.v)]:=by simp [lyFam]
set_option maxRecDepth 100000 in
theorem rgrad09_any (w:World) (m P cs cp q nx cx ny cy:Nat) (As Ap X Y:Option Addr) (ns:List Nat) (ps xs ys:List Int) (h:RNet w ns ps m P cs cp q As Ap) (hX:Rd w w.heap.size X (zC xs)) (hxl:xs.length=nx) (hnx:ns[0]?=some nx) (hxi:In64 xs) (hxc:nx≤cx) (hY:Rd w w.heap.size Y (zC ys)) (hyl:ys.length=ny) (hny:ns[m-1]?=some ny) :
  Calls Tryz.prog 72 #[.agg #[.slice As m cs,.slice Ap P cp,.int .i64 q],.slice X nx cx,.slice Y ny cy] w fun e w'=>∃ A c,e=.returned (.slice A P c)∧w'.ownsRow w.heap.size 2 1 (.slice A P c) P (zC (rgradL ns ps q xs ys))∧Below w.heap.size w w':=by
 have h16:=h.few
 have hm0:=(Mem.start w).alloc (.cells #[.slice As m cs,.slice Ap P cp,.int .i64 q] 178)
 have HM:=K1 hm0
 have HRN:=K1 (fun W (hb:Below w.heap.size w W)=>h.below hb)
 have HYR:=K1 (fun W (hb:Below w.heap.size w W)=>(hY.below hb).more hb.size)
 have CT:=K1 (fun W (hb:Below w.heap.size w W)=>rtrace_any W m P cs cp q As Ap ns ps (h.below hb) nx cx X xs ((hX.below hb).more hb.size) hxl hnx hxi hxc)
 have CP:=K1 (fun W (hb:Below w.heap.size w W)=>rplaces_any W As m cs ns (h.below hb).sz h.ok h.len)
 have CL:=K1 (fun W=>rlast_any W m P cs cp q As Ap (by omega))
 have CM:=K1 (fun W x y hx hy=>rmul_any W x y q h.sh hx hy)
 have hq:(q:Int)≤62:=by have:=h.sh;omega
 have HLN:=K1 (rlay_len (ns:=ns) (ps:=ps) (q:=q) (xs:=xs) (by rw [hxl,hnx];rfl))
 have HLI:=K1 (rlay_in (ns:=ns) h.bd q hxi)
 have HFIT:=K1 (And.intro h.fit h.len)
 have hnsl:=h.len
 obtain ⟨n1,hn1⟩:∃ n1,n1=m-1:=⟨_,rfl⟩
 have hm1:m=n1+1:=by omega
 have HNS:=K1 (show ∀ k,k≤n1→∃ a,ns[k]?=some a by intro k hk;exact get_some ns k (by omega))
 have hgr:rgradL ns ps q xs ys=(plcN ns n1).map (rgval (rlay ns ps q xs) (errG ns ps q n1 (rlay ns ps q xs) ys) q):=by unfold rgradL;rw [hnsl,← hn1]
 rw [hgr]
 have hpl:(plcN ns n1).length=P:=by rw [plcN_len,hn1];exact h.fit
 have hpo:=plcN_ok ns n1
 rw [← hn1] at CP CL hny
 rw [← hn1] at HFIT
 rw [HFIT.out.1] at CP
 have HEL:=K1 (show ∀ f k a,ns[k]?=some a→0<k→k≤n1→(errG ns ps q n1 f ys k).length=a by intro f k a ha h0 hk;rw [errG,if_neg (by omega),rerr_len (by rw [hyl,hny];rfl),show n1-(n1-k)=k by omega,ha];rfl)
 have HEI:=K1 (show ∀ f k,In64 (errG ns ps q n1 f ys k) by intro f k;unfold errG;split;exact (fun z hz=>by cases hz);exact rerr_in _ _ _ _ _ _ _)
 have CE:=K1 (fun f ls Ao co d k W hk h1 h2 h3 a ha=>rerrors_any m P cs cp q n1 ny cy co As Ap Ao Y ns ps ys f ls hm1 hny hyl d k W hk h1 h2 h3 a ha)
 obtain ⟨pl,hpe⟩:∃ pl,plcN ns n1=pl:=⟨_,rfl⟩
 rw [hpe] at hpl hpo CP ⊢
 have HPL:=K1 (And.intro hpl hpo)
 obtain ⟨F,hF⟩:∃ F:Nat→List Int,F=rlay ns ps q xs:=⟨_,rfl⟩
 rw [← hF] at HLN HLI CT ⊢
 obtain ⟨G,hG⟩:∃ G:Nat→List Int,G=errG ns ps q n1 F ys:=⟨_,rfl⟩
 have HGE:=K1 (show ∀ k,0<k→rerr ns ps q n1 F ys (n1-k)=G k by intro k hk;rw [hG,errG,if_neg (by omega)])
 have HG0:=K1 (show G 0=[] by rw [hG];rfl)
 have HGL:=K1 (show ∀ k a,ns[k]?=some a→0<k→k≤n1→(G k).length=a by rw [hG];exact HEL.out F)
 have HGI:=K1 (show ∀ k,In64 (G k) by rw [hG];exact HEI.out F)
 rw [← hG]
 clear h hm0 hX hY hxl hnx hxi hxc hyl hny hnsl hn1 hgr hpl hpo hpe hF hG HEL HEI
 have gm:n1≤15∧1≤n1:=by omega
 have gP:P≤1000:=h16.2.2
 have HMN:=K1 hm1
 clear h16 hm1
 go_enter Tryz.func72,Tryz.ntmps72
 have c1:=HM.out.cells 1 rfl
 go_wp2_with fail
 refine (CT.out _ (HM.out.bel 0 rfl)).mono ?_
 rintro e w2 ⟨Ao,co,ls,rfl,hok,hmt⟩
 have HB2:=K1 ((HM.out.bel 0 rfl).trans ((hmt.bel 0 rfl).mono (HM.out.bel 0 rfl).size))
 replace HM:=K1 (HM.out.below (hmt.bel 0 rfl))
 have hva:=rd_of_own (hmt.own 1 rfl)
 have hfa:=hmt.st 2 rfl
 clear CT c1
 have hrv:RVals w2 ns F m Ao ls:=⟨hok,hva,hfa,HLN.out,HLI.out⟩
 have HRV:=K1 hrv
 have HRN2:=K1 (HRN.out w2 HB2.out)
 have HY2:=K1 (HYR.out w2 HB2.out)
 have hbx:=HM.out.box 1 rfl
 have hm2:=(((Mem.start w2).add_rd (i:=0) rfl hbx).add_rd (i:=0) rfl hva).fam_add rfl hfa
 clear hmt hva hfa hrv hbx HRN HYR HM
 have HM:=K1 hm2
 clear hm2
 have c0:w2.cell? ⟨w.heap.size,0,none⟩=some (.slice As m cs):=HM.out.rd0 1 rfl rfl
 go_wp2_with fail
 refine (CP.out _ HB2.out).mono ?_
 rintro e w3 ⟨Al,cl,rfl,ho,hb3⟩
 replace HM:=K1 (HM.out.push_rd hb3 (rd_of_own ho) (own_from_base ho))
 clear ho hb3 CP c0
 go_wp2_with fail
 generalize hg0:w.heap.size=g0 at *
 generalize hb2:w2.heap.size=b2 at *
 have HEQ:=K1 (And.intro hg0 hb2)
 clear hg0 hb2
 have hm5:=(HM.out.add (c:=llOwn b2 0 0 none (lyVals [])) ⟨own_nil _ _ _ _,by have:=(HM.out.bel 0 rfl).size;have:=HEQ.out;omega⟩ (fun _ _ _ _ g hg=>by cases hg)).add (c:=famCh (lyFam [])) (fam_local (fun a ha=>by cases ha)) (fun _ _ _ _ g hg=>by obtain ⟨a,ha,_⟩:=hg;cases ha)
 have HM5:=K1 hm5
 clear hm5 HM
 have HOK0:=K1 (show FOk G 0 [] from ⟨rfl,fun l hl=>by cases hl⟩)
 go_loopw [9,10] (fun s9 s10 wr=>∃ (k:Nat) (Aa:Option Addr) (ca:Nat) (la:List Ly),k≤m∧s9=.slice Aa k ca∧s10=.int .i64 k∧Hid (FOk G k la)∧Hid (Mem wr [.bel b2 w2,.rd (some ⟨g0,0,none⟩) [.slice As m cs,.slice Ap P cp,.int .i64 q],.rd Ao (lyVals ls),famCh (lyFam ls),.rd Al (plFlat pl),llOwn b2 k ca Aa (lyVals la),famCh (lyFam la)])) (fun _ s10 _=>m-(intOf s10).toNat)
 case atStart=>exact ⟨0,none,0,[],Nat.zero_le _,rfl,rfl,HOK0,HM5⟩
 case round =>
  clear HM5 HOK0
  obtain ⟨k,Aa,ca,la,hk,rfl,rfl,HOK,HM⟩:=hrel
  have c0:wr.cell? ⟨g0,0,none⟩=some (.slice As m cs):=HM.out.rd0 1 rfl rfl
  have c1:wr.cell? ⟨g0,1,none⟩=some (.slice Ap P cp):=HM.out.rd0 1 rfl rfl
  have c2:wr.cell? ⟨g0,2,none⟩=some (.int .i64 q):=HM.out.rd0 1 rfl rfl
  go_wp2_with fail
  refine (CL.out _).mono ?_
  rintro e w5 ⟨rfl,hb5⟩
  replace HM:=K1 (HM.out.below hb5)
  clear hb5 c0 c1 c2
  by_cases hlt:k<m
  · have HM3:=K1 (HM.out.alloc (.cells #[.slice none 0 0] 26))
    have hkn:(k:Int)≤(n1:Int):=by have:=HMN.out;have:=HEQ.out;omega
    by_cases hk0:0<k
    · obtain ⟨a,ha⟩:=HNS.out k (by have:=HMN.out;omega)
      have gk0:(0:Int)<(k:Int):=by omega
      obtain ⟨k1,hk1⟩:∃ k1,k1=k+1:=⟨_,rfl⟩
      have gk1:(0:Int)≤(k:Int)∧(k:Int)<(k1:Int):=by omega
      have wk1:IntKind.i64.wrap ((k:Int)+1)=(k1:Int):=by rw [show (k:Int)+1=(k1:Int) by omega];exact IntWalk.i64_in _ (by have:=HMN.out;omega)
      have HK1:=K1 hk1
      have HKK:=K1 hk0
      clear hk1 hk0
      go_wp2_with (at_builtin;refine wpList_append_mem (n:=k) rfl _ _ 180 rfl HM3.out 5 rowLL rfl rfl _ 1 _ [.slice none 0 0] rfl (HM3.out.box 7 rfl) rfl (by intro u hu;simp at hu;subst hu;rfl) (by have:=HMN.out;omega) ?_;intro AA cA W6 hM6;have HM6:=K1 (show Mem W6 [.bel b2 w2,.rd (some ⟨g0,0,none⟩) [.slice As m cs,.slice Ap P cp,.int .i64 q],.rd Ao (lyVals ls),famCh (lyFam ls),.rd Al (plFlat pl),.own b2 26 1 (.slice AA (k+1) cA) (k+1) (lyVals la++[.slice none 0 0]),famCh (lyFam la)] from hM6.front 7);clear hM6 HM3 HM;rw [← HK1.out] at HM6 ⊢;obtain ⟨ga,hga⟩:=HM6.out.ownA 5 rfl (by have:=HK1.out;omega);subst hga;have c0:W6.cell? ⟨g0,0,none⟩=some (.slice As m cs):=HM6.out.rd0 1 rfl rfl;have c1:W6.cell? ⟨g0,1,none⟩=some (.slice Ap P cp):=HM6.out.rd0 1 rfl rfl;have c2:W6.cell? ⟨g0,2,none⟩=some (.int .i64 q):=HM6.out.rd0 1 rfl rfl)
      have HBW:=K1 (show Below w2.heap.size w2 W6 by rw [HEQ.out.2];exact HM6.out.bel 0 rfl)
      have CEk:=K1 (CE.out F ls Ao co (n1-k) k W6 (by have:=HMN.out;omega) (HRN2.out.below HBW.out) (HRV.out.below HBW.out) ((HY2.out.below (HM6.out.bel 0 rfl)).more (by have:=HBW.out.size;have:=HEQ.out;omega)) a ha)
      rw [HGE.out k HKK.out] at CEk
      have HGk:=K1 (HGL.out k a ha HKK.out (by have:=HMN.out;omega))
      clear HBW ha
      refine (CEk.out).mono ?_
      rintro e w7 ⟨Ae,ce,rfl,hme⟩
      have hce:=own_cap (hme.own 1 rfl)
      have HM7:=K1 (HM6.out.push_rd (hme.bel 0 rfl) (rd_of_own (hme.own 1 rfl)) (own_from_base (hme.own 1 rfl)))
      clear hme CEk HM6 c0 c1 c2
      have kf:=HM7.out.ownF 5 rfl
      have HLA:=K1 HOK.out.len
      obtain ⟨kv,hkv⟩:∃ v,w7.cell? ⟨ga,k,none⟩=some v:=⟨.slice none 0 0,((HM7.out.own 5 rfl).cellAt k (by have:=HK1.out;omega)).trans (by rw [List.getElem?_append_right (by simp [lyVals,HLA.out])];simp [lyVals,HLA.out])⟩
      have hm8:=HM7.out.setOwn (i:=5) (j:=k) rfl (.slice Ae a ce)
      rw [ly_set HLA.out Ae ce a (G k) HGk.out] at hm8
      have HM8:=K1 ((hm8.famSnoc (i:=6) (j:=7) rfl rfl).front 7)
      clear hm8 HM7
      go_wp2_with fail
      go_roundw
      case rel=>exact ⟨k1,_,cA,la++[⟨Ae,ce,G k⟩],by have:=HK1.out;omega,rfl,by go_num,K1 (by rw [HK1.out];exact HOK.out.snoc rfl (by dsimp only;rw [HGk.out];exact hce)),K1 (by rw [ly_fam];exact HM8.out)⟩
      case measure=>simp [intOf];omega
    · have hk00:k=0:=by omega
      have HK0:=K1 hk00
      have gk0:¬ (0:Int)<(k:Int):=by omega
      clear hk00 hk0
      go_wp2_with (at_builtin;refine wpList_append_mem (n:=k) rfl _ _ 180 rfl HM3.out 5 rowLL rfl rfl _ 1 _ [.slice none 0 0] rfl (HM3.out.box 7 rfl) rfl (by intro u hu;simp at hu;subst hu;rfl) (by have:=HMN.out;omega) ?_;intro AA cA W6 hM6;have HM6:=K1 (show Mem W6 [.bel b2 w2,.rd (some ⟨g0,0,none⟩) [.slice As m cs,.slice Ap P cp,.int .i64 q],.rd Ao (lyVals ls),famCh (lyFam ls),.rd Al (plFlat pl),.own b2 26 1 (.slice AA (k+1) cA) (k+1) (lyVals la++[.slice none 0 0]),famCh (lyFam la)] from hM6.front 7);clear hM6 HM3 HM)
      have hm8:=(HM6.out.add_rd (i:=0) rfl (Rd.nil_ _ _ none)).famSnoc (i:=6) (j:=7) (A:=none) (vs:=zC []) rfl rfl
      have HM8:=K1 (hm8.front 7)
      clear hm8 HM6
      go_roundw
      case rel=>exact ⟨k+1,AA,cA,la++[⟨none,0,[]⟩],by have:=HMN.out;have:=HEQ.out;omega,rfl,by go_num,K1 (HOK.out.snoc (by rw [HK0.out];exact HG0.out.symm) (by simp)),K1 (by rw [ly_fam,ly_nil];exact HM8.out)⟩
      case measure=>simp [intOf];omega
  · have hkm:k=m:=by have:=HMN.out;have:=HEQ.out;omega
    subst hkm
    have hkn:¬ (k:Int)≤(n1:Int):=by have:=HMN.out;have:=HEQ.out;omega
    have hkd:decide (k≤n1)=false:=decide_eq_false (by omega)
    have hm6:=((HM.out.freeze (i:=5) rfl).add (c:=.own b2 2 1 (.slice none 0 0) 0 (zC ((pl.take 0).map (rgval F G q)))) ⟨own_nil _ _ _ _,by have:=(HM.out.bel 0 rfl).size;have:=HEQ.out;omega⟩ (fun _ _ _ _ g hg=>by cases hg))
    have HM6:=K1 hm6
    clear hm6 HM
    go_wp2_with fail
    go_loopw [11,12] (fun s11 s12 wr=>∃ (i:Nat) (Az:Option Addr) (cz:Nat),i≤P∧s11=.slice Az i cz∧s12=.int .i64 i∧Hid (Mem wr [.bel b2 w2,.rd (some ⟨g0,0,none⟩) [.slice As k cs,.slice Ap P cp,.int .i64 q],.rd Ao (lyVals ls),famCh (lyFam ls),.rd Al (plFlat pl),.rd Aa (lyVals la),famCh (lyFam la),vOwn b2 i cz Az ((pl.take i).map (rgval F G q))])) (fun _ s12 _=>P-(intOf s12).toNat)
    case atStart=>exact ⟨0,none,0,Nat.zero_le _,rfl,rfl,HM6⟩
    case round =>
     clear HM6
     obtain ⟨i,Az,cz,hi,rfl,rfl,HM⟩:=hrel
     by_cases hiP:i<P
     · obtain ⟨p,hp⟩:=get_some pl i (by rw [HPL.out.1];exact hiP)
       obtain ⟨kk,rr,hkk,e1,e2,hrr,hcc⟩:=HPL.out.2 p (List.mem_of_getElem? hp)
       have HTK:=K1 (show (pl.take (i+1)).map (rgval F G q)=(pl.take i).map (rgval F G q)++[rgval F G q p] by rw [List.take_add_one,hp];simp)
       have hfl:=flat_at plCells 3 (fun _=>rfl) pl i p hp
       obtain ⟨bp,op,rfl⟩:=HM.out.rdA 4 rfl (by have:=(List.getElem?_eq_some_iff.1 (hfl 0 _ rfl)).1;exact Nat.lt_of_le_of_lt (Nat.zero_le _) this)
       have d0:=HM.out.rdAt 4 rfl (hfl 0 _ rfl)
       have d1:=HM.out.rdAt 4 rfl (hfl 1 _ rfl)
       have d2:=HM.out.rdAt 4 rfl (hfl 2 _ rfl)
       rw [Nat.add_zero] at d0
       rw [← Nat.add_assoc] at d1 d2
       obtain ⟨pk,pr,pc⟩:=p
       dsimp only at e1 e2 hcc
       subst e1
       subst e2
       obtain ⟨a,ha⟩:=HNS.out kk (by have:=HMN.out;have:=HEQ.out;omega)
       obtain ⟨b,hb⟩:=HNS.out (kk+1) (by have:=HMN.out;have:=HEQ.out;omega)
       rw [hb] at hrr
       rw [ha] at hcc
       dsimp only [Option.getD_some] at hrr hcc
       obtain ⟨le,hle,hlev,_⟩:=HOK.out.at_ (show kk+1<k by have:=HMN.out;have:=HEQ.out;omega)
       have hlel:le.v.length=b:=by rw [hlev];exact HGL.out _ b hb (by have:=HMN.out;have:=HEQ.out;omega) (by have:=HMN.out;have:=HEQ.out;omega)
       have HEV:=K1 (show (lyVals la)[kk+1]?=some (.slice le.A b le.c) by simp [lyVals,hle,hlel])
       have HER:=K1 (show ∀ (W:World) (M:List Ch),Mem W M→M[6]?=some (famCh (lyFam la))→Rd W W.heap.size le.A (zC le.v) from fun W M h hM=>h.famRd (j:=kk+1) hM (by simp [lyFam,hle]))
       obtain ⟨d,hd⟩:=get_some le.v rr (by have:=HMN.out;have:=HEQ.out;omega)
       have hdv:(G (kk+1))[rr]?.getD 0=d:=by rw [← hlev,hd];rfl
       have hdi:-9223372036854775808≤d∧d≤9223372036854775807:=by have:=HGI.out (kk+1);rw [← hlev] at this;exact this d (List.mem_of_getElem? hd)
       obtain ⟨ll,hl,hlv,_⟩:=HRV.out.ok.at_ (show kk<k by have:=HMN.out;have:=HEQ.out;omega)
       have hll:ll.v.length=a:=by rw [hlv,HLN.out kk,ha];rfl
       have HLV:=K1 (show (lyVals ls)[kk]?=some (.slice ll.A a ll.c) by simp [lyVals,hl,hll])
       have HLR:=K1 (show ∀ (W:World) (M:List Ch),Mem W M→M[3]?=some (famCh (lyFam ls))→Rd W W.heap.size ll.A (zC ll.v) from fun W M h hM=>h.famRd (j:=kk) hM (by simp [lyFam,hl]))
       have hlli:In64 ll.v:=by rw [hlv];exact HLI.out kk
       have HLX:=K1 (show ∀ c:Nat,(F kk)[c]?=ll.v[c]? by intro c;rw [hlv])
       generalize ll.A=lA at *
       generalize ll.c=lc at *
       generalize ll.v=lv at *
       generalize le.A=eA at *
       generalize le.c=ec at *
       generalize le.v=ev at *
       obtain ⟨be,oe,hbe,_,_⟩:=HER.out _ _ HM.out rfl (by simp;omega)
       subst hbe
       have QE:=K1 (fun W (M:List Ch) (h:Mem W M) (hM:M[6]?=some (famCh (lyFam la)))=>(HER.out W M h hM).at_cell (zC_at hd))
       obtain ⟨ba,oa,hba⟩:=HM.out.rdA 5 rfl (by simp [lyVals];have:=HOK.out.len;omega)
       subst hba
       obtain ⟨bo,oo,hbo⟩:=HM.out.rdA 2 rfl (by simp [lyVals];have:=HRV.out.ok.len;omega)
       subst hbo
       obtain ⟨k1,hk1⟩:∃ k1,k1=kk+1:=⟨_,rfl⟩
       rw [← hk1] at HEV
       have wk1:IntKind.i64.wrap ((kk:Int)+1)=(k1:Int):=by rw [show (kk:Int)+1=(k1:Int) by have:=HMN.out;have:=HEQ.out;omega];exact IntWalk.i64_in _ (by have:=HMN.out;have:=HEQ.out;omega)
       have gk1:(0:Int)≤(k1:Int)∧(k1:Int)<(k:Int):=by have:=HMN.out;have:=HEQ.out;omega
       have gr:(0:Int)≤(rr:Int)∧(rr:Int)<(b:Int):=by have:=HMN.out;have:=HEQ.out;omega
       have gkk:(0:Int)≤(kk:Int)∧(kk:Int)<(k:Int):=by have:=HMN.out;have:=HEQ.out;omega
       have gi:(0:Int)≤(i:Int)∧(i:Int)<(P:Int):=by have:=HMN.out;have:=HEQ.out;omega
       have gi2:i≤1000:=by have:=HMN.out;have:=HEQ.out;omega
       have HLL:=K1 (And.intro hll hlli)
       have HDV:=K1 hdv
       have HDI:=K1 hdi
       clear hle hlev hlel hl hlv hll hlli hd hdv hdi hp hfl hk1 ha hb hrr hkk
       have HMp:=K1 (HM.out.alloc (.cells #[.int .i64 (kk:Int),.int .i64 (rr:Int),.int .i64 pc] 230))
       have c8:=HMp.out.cells 8 rfl
       have HMq:=HMp
       clear HMp HM c8
       have c8:=HMq.out.cells 8 rfl
       go_wp2_with fail
       clear c8 d0 d1 d2
       refine name_wp fun W0 hW=>?_
       replace HMq:=K1 (hW.out.symm ▸ HMq.out)
       clear hW
       refine wp_region_stage (.reads [0,1,2,3,4,5,6,7,8,9,10] (.fin)) 11 (fun W'=>W'.cell? ⟨wr.heap.size,0,none⟩=some (.int .i64 (kk:Int))∧W'.cell? ⟨wr.heap.size,1,none⟩=some (.int .i64 (rr:Int))∧W'.cell? ⟨wr.heap.size,2,none⟩=some (.int .i64 pc)∧W'.cell? ⟨ba,oa+k1,none⟩=some (.slice (some ⟨be,oe,none⟩) b ec)∧W'.cell? ⟨be,oe+rr,none⟩=some (.int .i64 d))
        (by kernel_rfl) (by kernel_rfl) (by intro d v c a w h;cases d <;> exact h) ?_
       replace HMq:=K1 HMq.out.drew
       generalize W0.drew=V at *
       refine PlS.reads_ ⟨HMq.out.cell 8 0 rfl rfl,HMq.out.cell 8 1 rfl rfl,HMq.out.cell 8 2 rfl rfl,HMq.out.rdAt 5 rfl HEV.out,QE.out _ _ HMq.out rfl⟩ (by kernel_rfl) ?_
       simp only [pickO,p1,p2,p3,p4]
       apply Exists.intro
       apply And.intro
       · intro W' hS
         obtain ⟨s0,s1,s2,s3,s4⟩:=hS
         repeat still_step
         exact wpStill_nil rfl
       refine PlS.fin_ ?_
       have c8:=HMq.out.cells 8 rfl
       rcases hcc with hcc | ⟨cc,hcc,hca⟩
       · subst hcc
         have HV:=K1 (show rgval F G q ⟨(kk:Int),(rr:Int),-1⟩=d by rw [← HDV.out];rfl)
         have HM3:=K1 (HMq.out.alloc (.cells #[.int .i64 d] 2))
         go_wp2_with (at_builtin;refine wpList_append_mem (n:=i) rfl _ _ 26 rfl HM3.out 7 rowCL rfl rfl _ 1 _ [.int .i64 d] rfl (HM3.out.box 9 rfl) rfl (by intro u hu;simp at hu;subst hu;rfl) (by have:=HMN.out;have:=HEQ.out;omega) ?_;intro AZ' cZ' W4 hM4;have HM4:=K1 (hM4.front 8);clear hM4 HM3)
         have HE:=K1 (show zC ((pl.take (i+1)).map (rgval F G q))=zC ((pl.take i).map (rgval F G q))++[.int .i64 d] by rw [HTK.out,HV.out];simp)
         go_roundw
         case rel=>exact ⟨i+1,AZ',cZ',by omega,rfl,by go_num,K1 (by unfold vOwn;rw [HE.out];exact HM4.out)⟩
         case measure=>simp [intOf];omega
       · subst hcc
         obtain ⟨x,hx⟩:=get_some lv cc (by have:=HLL.out.1;omega)
         have hxi:=HLL.out.2 x (List.mem_of_getElem? hx)
         have HV:=K1 (show rgval F G q ⟨(kk:Int),(rr:Int),(cc:Int)⟩=mulF d x q by unfold rgval;dsimp only;rw [if_neg (by have:=HMN.out;have:=HEQ.out;omega),Int.toNat_natCast,Int.toNat_natCast,Int.toNat_natCast,HDV.out,HLX.out,hx];rfl)
         obtain ⟨bl,ol,hbl,_,_⟩:=HLR.out _ _ HMq.out rfl (by simp;have:=HLL.out.1;omega)
         subst hbl
         have QX:=K1 (fun W (M:List Ch) (h:Mem W M) (hM:M[3]?=some (famCh (lyFam ls)))=>(HLR.out W M h hM).at_cell (zC_at hx))
         have CMd:=K1 (fun W=>CM.out W d x HDI.out hxi)
         generalize mulF d x q=dv at *
         have gcc:(0:Int)≤(cc:Int)∧(cc:Int)<(a:Int):=by have:=HMN.out;have:=HEQ.out;omega
         clear hx hxi
         go_wp2_with fail
         clear c8
         refine name_wp fun W1 hW=>?_
         replace HMq:=K1 (hW.out.symm ▸ HMq.out)
         clear hW
         refine wp_region_stage (.reads [0,1,2,3,4,5,6,7,8,9,10,11] (.eff 12 (.reads [13] (.fin)))) 14 (fun W'=>W'.cell? ⟨wr.heap.size,0,none⟩=some (.int .i64 (kk:Int))∧W'.cell? ⟨wr.heap.size,1,none⟩=some (.int .i64 (rr:Int))∧W'.cell? ⟨wr.heap.size,2,none⟩=some (.int .i64 (cc:Int))∧W'.cell? ⟨bo,oo+kk,none⟩=some (.slice (some ⟨bl,ol,none⟩) a lc)∧W'.cell? ⟨bl,ol+cc,none⟩=some (.int .i64 x)∧W'.cell? ⟨g0,2,none⟩=some (.int .i64 q))
          (by kernel_rfl) (by kernel_rfl) (by intro d v c a w h;cases d <;> exact h) ?_
         replace HMq:=K1 HMq.out.drew
         generalize W1.drew=V1 at *
         refine PlS.reads_ ⟨HMq.out.cell 8 0 rfl rfl,HMq.out.cell 8 1 rfl rfl,HMq.out.cell 8 2 rfl rfl,HMq.out.rdAt 2 rfl HLV.out,QX.out _ _ HMq.out rfl,HMq.out.rd0 1 rfl rfl⟩ (by kernel_rfl) ?_
         simp only [pickO,p1,p2,p3,p4]
         apply Exists.intro
         apply And.intro
         · intro W' hS
           obtain ⟨s0,s1,s2,s3,s4,s5⟩:=hS
           repeat still_step
           exact wpStill_nil rfl
         refine PlS.eff_ ?_
         simp only [pickO,p1,p2,p3,p4]
         go_wp2_with fail
         refine (CMd.out _).mono ?_
         rintro e w9 ⟨rfl,rfl⟩
         clear CMd
         go_wp2_with fail
         refine After.go ⟨HMq.out.cell 8 0 rfl rfl,HMq.out.cell 8 1 rfl rfl,HMq.out.cell 8 2 rfl rfl,HMq.out.rdAt 2 rfl HLV.out,QX.out _ _ HMq.out rfl,HMq.out.rd0 1 rfl rfl⟩ ?_
         refine PlS.reads_ ⟨HMq.out.cell 8 0 rfl rfl,HMq.out.cell 8 1 rfl rfl,HMq.out.cell 8 2 rfl rfl,HMq.out.rdAt 2 rfl HLV.out,QX.out _ _ HMq.out rfl,HMq.out.rd0 1 rfl rfl⟩ (by kernel_rfl) ?_
         simp only [pickO,p1,p2,p3,p4]
         apply Exists.intro
         apply And.intro
         · intro W' hS
           clear hS
           repeat still_step
           exact wpStill_nil rfl
         refine PlS.fin_ ?_
         have HM3:=K1 (HMq.out.alloc (.cells #[.int .i64 dv] 2))
         go_wp2_with (at_builtin;refine wpList_append_mem (n:=i) rfl _ _ 26 rfl HM3.out 7 rowCL rfl rfl _ 1 _ [.int .i64 dv] rfl (HM3.out.box 9 rfl) rfl (by intro u hu;simp at hu;subst hu;rfl) (by have:=HMN.out;have:=HEQ.out;omega) ?_;intro AZ' cZ' W4 hM4;have HM4:=K1 (hM4.front 8);clear hM4 HM3)
         have HE:=K1 (show zC ((pl.take (i+1)).map (rgval F G q))=zC ((pl.take i).map (rgval F G q))++[.int .i64 dv] by rw [HTK.out,HV.out];simp)
         go_roundw
         case rel=>exact ⟨i+1,AZ',cZ',by omega,rfl,by go_num,K1 (by unfold vOwn;rw [HE.out];exact HM4.out)⟩
         case measure=>simp [intOf];omega
     · have hin:i=P:=by have:=HMN.out;have:=HEQ.out;omega
       subst hin
       go_wp2_with fail
       go_ret
       have ho:=HM.out.own 7 rfl
       rw [List.take_of_length_le (by rw [HPL.out.1];exact Nat.le_refl _)] at ho
       have hbl:=HM.out.bel 0 rfl
       have hsz:g0≤b2:=by rw [← HEQ.out.1,← HEQ.out.2];have:=HB2.out.size;have:=HEQ.out;omega
       rw [HEQ.out.1]
       exact ⟨Az,cz,rfl,own_from hsz ho,HB2.out.trans (hbl.mono hsz)⟩
end Go.Proofs.YtdpojpcoghcieaaGreat
namespace Go.Proofs.YtdpojpcoghcieaaGreat
def epo (k st ba n:Int):Int:=if k≠0∨n<ba∨1048576<n then 0 else (st+n / ba-1) / (n / ba)
theorem epo_no {k st ba n:Int} (h:k≠0∨n<ba∨1048576<n):epo k st ba n=0:=if_pos h
theorem epo_yes {k st ba n:Int} (h:¬ (k≠0∨n<ba∨1048576<n)):epo k st ba n=(st+n / ba-1) / (n / ba):=if_neg h
theorem ceil_of {s d e:Int} (hd:1≤d) (h1:s≤e*d) (h2:e=0∨(e-1)*d<s) (hs:0≤s):(s+d-1) / d=e:=by
 have hd0:(0:Int)<d:=by omega
 rcases h2 with rfl | h2
 · have:s=0:=by rw [Int.zero_mul] at h1;omega
   subst this
   rw [Int.ediv_eq_zero_of_lt (by omega) (by omega)]
 · have e1:(e-1)*d=e*d-d:=by rw [Int.sub_mul,Int.one_mul]
   have e2:(e+1)*d=e*d+d:=by rw [Int.add_mul,Int.one_mul]
   have a:e≤(s+d-1) / d:=(Int.le_ediv_iff_mul_le hd0).2 (by omega)
   have b:(s+d-1) / d<e+1:=(Int.ediv_lt_iff_lt_mul hd0).2 (by omega)
   omega
theorem quo_bd {n ba:Int} (h1:1≤ba) (h2:ba≤n) (h3:n≤1048576):1≤n / ba∧n / ba≤1048576:=by
 have a:1≤n / ba:=(Int.le_ediv_iff_mul_le (by omega)).2 (by omega)
 have b:=Int.ediv_le_self (a:=n) ba (by omega)
 omega
theorem epo_bd {k st ba n:Int} (h1:k=0→1≤ba) (hs:0≤st) (hs':st≤1048576):0≤epo k st ba n∧epo k st ba n≤2097152:=by
 by_cases h:k≠0∨n<ba∨1048576<n
 · rw [epo_no h];omega
 · rw [epo_yes h]
   have hq:=quo_bd (h1 (by omega)) (by omega:ba≤n) (by omega)
   have a:0≤(st+n / ba-1) / (n / ba):=Int.ediv_nonneg (by omega) (by omega)
   have b:=Int.ediv_le_self (a:=st+n / ba-1) (n / ba) (by omega)
   omega
theorem conf_zero {zs:List Int} {c:Cf} (h:confCode zs c=0):(0≤c.st∧c.st≤1048576)∧1≤c.ba∧c.ba≤1048576∧shCode zs=0:=by
 unfold confCode at h
 split at h
 · cases h
 split at h
 · cases h
 split at h
 · omega
 split at h
 · cases h
 split at h
 · cases h
 rename_i h1 h2 h3 h4 h5
 have hn:numsOk c=true:=by simpa using h4
 simp only [numsOk,Bool.and_eq_true,Bool.or_eq_true,decide_eq_true_eq] at hn
 have hst:=hn.2
 have:c.st=0∨(1≤c.st∧c.st≤1048576):=by
  rcases hst with e | e
  · exact .inl e
  · exact .inr (okSz_iff.1 e)
 have h3':shCode zs=0:=by
  by_cases e:shCode zs=0
  · exact e
  · exact absurd e h3
 exact ⟨by omega,by omega,by omega,h3'⟩
end Go.Proofs.YtdpojpcoghcieaaGreat
namespace Go.Proofs.YtdpojpcoghcieaaGreat
open Lib renaming hid → K1
open Go.RowKit
theorem epochs_any (A:Option Addr) (cap:Nat) (zs:List Int) (sh ra mo wo ba mi st bu ch wi ca n:Int) (w:World) (hr:RdI w w.heap.size A zs) (hcap:zs.length≤cap) (hm:zs.length≤9223372036854775807) :
  Calls Tryz.prog 102 #[.agg #[.slice A zs.length cap,.int .i64 sh,.int .i64 ra,.int .i64 mo,.int .i64 wo,.int .i64 ba,.int .i64 mi,.int .i64 st,.int .i64 bu,.int .i64 ch,.int .i64 wi,.int .i64 ca],.int .i64 n] w (Coded w (epo (confCode zs ⟨sh,0,0,wo,ba,mi,st,bu,ch,wi,ca⟩) st ba n)):=by
 have hb0:Below w.heap.size w (w.alloc (.cells #[.slice A zs.length cap,.int .i64 sh,.int .i64 ra,.int .i64 mo,.int .i64 wo,.int .i64 ba,.int .i64 mi,.int .i64 st,.int .i64 bu,.int .i64 ch,.int .i64 wi,.int .i64 ca] 24)):=(Below.refl _ _).alloc (Nat.le_refl _) _
 have hX:=heap_alloc_new w (.cells #[.slice A zs.length cap,.int .i64 sh,.int .i64 ra,.int .i64 mo,.int .i64 wo,.int .i64 ba,.int .i64 mi,.int .i64 st,.int .i64 bu,.int .i64 ch,.int .i64 wi,.int .i64 ca] 24)
 have C:=confCheck_flat A cap zs sh ra mo wo ba mi st bu ch wi ca _ ((hr.below hb0).more hb0.size) hcap hm
 have Z:=conf_zero (zs:=zs) (c:=⟨sh,0,0,wo,ba,mi,st,bu,ch,wi,ca⟩)
 dsimp only at Z
 generalize confCode zs ⟨sh,0,0,wo,ba,mi,st,bu,ch,wi,ca⟩=k at *
 have HC:=K1 C
 have HX:=K1 hX
 have HZ:=K1 Z
 clear C hX Z
 by_cases hk:k=0
 · subst hk
   obtain ⟨hst,hba,hba',_⟩:=HZ.out rfl
   by_cases h1:n<ba
   · have hfin:=K1 (epo_no (k:=0) (st:=st) (ba:=ba) (n:=n) (.inr (.inl h1)))
     go_enter Tryz.func102,Tryz.ntmps102
     go_wp2_with fail
     refine HC.out.mono ?_
     rintro e w1 ⟨rfl,hb1⟩
     have HX1:=K1 (blk_below HX.out hb1 (by simp))
     obtain ⟨c0,c1,c2,c3,c4,c5,c6,c7,c8,c9,c10,c11⟩:=cf_all HX1.out
     go_wp2
     go_ret
     exact ⟨ret_int hfin.out.symm,hb0.trans (hb1.mono hb0.size)⟩
   by_cases h2:1048576<n
   · have hfin:=K1 (epo_no (k:=0) (st:=st) (ba:=ba) (n:=n) (.inr (.inr h2)))
     go_enter Tryz.func102,Tryz.ntmps102
     go_wp2_with fail
     refine HC.out.mono ?_
     rintro e w1 ⟨rfl,hb1⟩
     have HX1:=K1 (blk_below HX.out hb1 (by simp))
     obtain ⟨c0,c1,c2,c3,c4,c5,c6,c7,c8,c9,c10,c11⟩:=cf_all HX1.out
     go_wp2
     go_ret
     exact ⟨ret_int hfin.out.symm,hb0.trans (hb1.mono hb0.size)⟩
   · have hfin:=K1 (epo_yes (k:=0) (st:=st) (ba:=ba) (n:=n) (by omega))
     have hq:=quo_bd (n:=n) hba (by omega) (by omega)
     go_enter Tryz.func102,Tryz.ntmps102
     go_wp2_with fail
     refine HC.out.mono ?_
     rintro e w1 ⟨rfl,hb1⟩
     have HX1:=K1 (blk_below HX.out hb1 (by simp))
     obtain ⟨c0,c1,c2,c3,c4,c5,c6,c7,c8,c9,c10,c11⟩:=cf_all HX1.out
     go_wp2
     go_ret
     exact ⟨ret_int hfin.out.symm,hb0.trans (hb1.mono hb0.size)⟩
 · have hfin:=K1 (epo_no (k:=k) (st:=st) (ba:=ba) (n:=n) (.inl hk))
   have hk':(k != 0)=true:=by simpa using hk
   go_enter Tryz.func102,Tryz.ntmps102
   go_wp2_with fail
   refine HC.out.mono ?_
   rintro e w1 ⟨rfl,hb1⟩
   have HX1:=K1 (blk_below HX.out hb1 (by simp))
   obtain ⟨c0,c1,c2,c3,c4,c5,c6,c7,c8,c9,c10,c11⟩:=cf_all HX1.out
   go_wp2
   go_ret
   exact ⟨ret_int hfin.out.symm,hb0.trans (hb1.mono hb0.size)⟩
theorem refEpochs_any (A:Option Addr) (cap:Nat) (zs:List Int) (sh ra mo wo ba mi st bu ch wi ca n:Int) (w:World) (hr:RdI w w.heap.size A zs) (hm:zs.length≤9223372036854775807) :
  Calls Tryz.prog 90 #[.agg #[.slice A zs.length cap,.int .i64 sh,.int .i64 ra,.int .i64 mo,.int .i64 wo,.int .i64 ba,.int .i64 mi,.int .i64 st,.int .i64 bu,.int .i64 ch,.int .i64 wi,.int .i64 ca],.int .i64 n] w (Coded w (epo (confCode zs ⟨sh,0,0,wo,ba,mi,st,bu,ch,wi,ca⟩) st ba n)):=by
 have hb0:Below w.heap.size w (w.alloc (.cells #[.slice A zs.length cap,.int .i64 sh,.int .i64 ra,.int .i64 mo,.int .i64 wo,.int .i64 ba,.int .i64 mi,.int .i64 st,.int .i64 bu,.int .i64 ch,.int .i64 wi,.int .i64 ca] 24)):=(Below.refl _ _).alloc (Nat.le_refl _) _
 have hX:=heap_alloc_new w (.cells #[.slice A zs.length cap,.int .i64 sh,.int .i64 ra,.int .i64 mo,.int .i64 wo,.int .i64 ba,.int .i64 mi,.int .i64 st,.int .i64 bu,.int .i64 ch,.int .i64 wi,.int .i64 ca] 24)
 have C:=refConf_flat A cap zs sh ra mo wo ba mi st bu ch wi ca _ ((hr.below hb0).more hb0.size) hm
 have Z:=conf_zero (zs:=zs) (c:=⟨sh,0,0,wo,ba,mi,st,bu,ch,wi,ca⟩)
 dsimp only at Z
 generalize confCode zs ⟨sh,0,0,wo,ba,mi,st,bu,ch,wi,ca⟩=k at *
 have HC:=K1 C
 have HX:=K1 hX
 have HZ:=K1 Z
 clear C hX Z
 by_cases hk:k=0
 · subst hk
   obtain ⟨hst,hba,hba',_⟩:=HZ.out rfl
   cases h1:betw n ba 1048576
   · have hfin:=K1 (epo_no (k:=0) (st:=st) (ba:=ba) (n:=n) (by have:=betw_no h1;omega))
     go_enter Tryz.func90,Tryz.ntmps90
     go_wp2_with fail
     refine HC.out.mono ?_
     rintro e w1 ⟨rfl,hb1⟩
     have HX1:=K1 (blk_below HX.out hb1 (by simp))
     obtain ⟨c0,c1,c2,c3,c4,c5,c6,c7,c8,c9,c10,c11⟩:=cf_all HX1.out
     go_wp2_with (go_at_call 53;refine (between_any _ _ _ _).mono ?_;rintro e w' ⟨rfl,rfl⟩)
     go_ret
     exact ⟨ret_int hfin.out.symm,hb0.trans (hb1.mono hb0.size)⟩
   · have hy:=betw_yes h1
     have hfin:=K1 (epo_yes (k:=0) (st:=st) (ba:=ba) (n:=n) (by omega))
     have hq:=quo_bd (n:=n) hba hy.1 hy.2
     go_enter Tryz.func90,Tryz.ntmps90
     go_wp2_with fail
     refine HC.out.mono ?_
     rintro e w1 ⟨rfl,hb1⟩
     have HX1:=K1 (blk_below HX.out hb1 (by simp))
     obtain ⟨c0,c1,c2,c3,c4,c5,c6,c7,c8,c9,c10,c11⟩:=cf_all HX1.out
     go_wp2_with (go_at_call 53;refine (between_any _ _ _ _).mono ?_;rintro e w' ⟨rfl,rfl⟩)
     go_loop [5,6] (fun e s=>∃ x y:Int,e=.int .i64 x∧s=.int .i64 y∧0≤x∧x≤y∧y≤2097152∧Hid (y=x*(n / ba))∧Hid (x=0∨(x-1)*(n / ba)<st)) (fun _ s=>(st-intOf s).toNat)
     case atStart=>exact ⟨0,0,rfl,rfl,by omega,by omega,by omega,K1 (by simp),K1 (.inl rfl)⟩
     case round =>
      obtain ⟨x,y,rfl,rfl,hx0,hxy,hy2,hm1,hm2⟩:=hrel
      by_cases hlt:y<st
      · go_wp2
        go_round
        case rel=>exact ⟨x+1,y+n / ba,rfl,rfl,by omega,by omega,by omega,K1 (by rw [hm1.out,Int.add_mul,Int.one_mul]),K1 (.inr (by rw [Int.add_sub_cancel,← hm1.out];exact hlt))⟩
        case measure=>simp only [intOf];omega
      · have hce:Hid ((st+n / ba-1) / (n / ba)=x):=K1 (ceil_of hq.1 (by rw [← hm1.out];omega) hm2.out hst.1)
        go_wp2
        go_ret
        exact ⟨ret_int (by rw [hfin.out,hce.out]),hb0.trans (hb1.mono hb0.size)⟩
 · have hfin:=K1 (epo_no (k:=k) (st:=st) (ba:=ba) (n:=n) (.inl hk))
   have hk':(k != 0)=true:=by simpa using hk
   go_enter Tryz.func90,Tryz.ntmps90
   go_wp2_with fail
   refine HC.out.mono ?_
   rintro e w1 ⟨rfl,hb1⟩
   have HX1:=K1 (blk_below HX.out hb1 (by simp))
   obtain ⟨c0,c1,c2,c3,c4,c5,c6,c7,c8,c9,c10,c11⟩:=cf_all HX1.out
   go_wp2_with (go_at_call 53;refine (between_any _ _ _ _).mono ?_;rintro e w' ⟨rfl,rfl⟩)
   go_ret
   exact ⟨ret_int hfin.out.symm,hb0.trans (hb1.mono hb0.size)⟩
end Go.Proofs.YtdpojpcoghcieaaGreat
