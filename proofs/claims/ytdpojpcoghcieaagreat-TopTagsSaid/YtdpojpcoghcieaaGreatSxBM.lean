/- A part of the proof of TopTags: RefGr14, RefTrain, Same13, Traj, TrajAll, Gi. Conditions: none. -/
import Derived.Test.YtdpojpcoghcieaaGreatSxBJ
import Derived.Test.YtdpojpcoghcieaaGreatSxBH
set_option maxHeartbeats 8000000
set_option linter.all false
namespace Go.Proofs.YtdpojpcoghcieaaGreat
open Lib renaming hid → K1
open Go.RowKit
set_option maxRecDepth 100000
open Value renaming int → U, slice → Us
open IntKind renaming i64 → O
open Int renaming eq_ofNat_of_zero_le → Ahv, natCast_ediv → Ah6
open And renaming intro → Ahw
open List renaming mem_of_getElem? → Ahx, getElem?_eq_getElem → Ahz, mem_cons → Ah2, not_mem_nil → Ah3, take_add_one → Ah4, take_of_length_le → Ah5, length_map → Ah8, getD_eq_getElem?_getD → Ah9
open Nat renaming le_refl → Ahy
open PlS renaming ef_ → Ah0
open After renaming go → Ah1
open Bool renaming and_eq_true → Ah7
section
theorem TM {l:List Int} {p:Nat} (h:l.length=p) (hi:In64 l):Bn 0 l (AE p) p=l:=by
 refine Fv (by rw [D4];simp [AE,h]) fun j hj=>?_;rw [D4] at hj;have hj:j<p:=by simpa [AE] using hj
 rw [Gn _ _ _ _ (by simp [AE]),if_pos (by omega),Md,Nat.sub_zero,Int.zero_add];exact Mb (Gx hi j)
theorem Inp.ex_at {i:Inp} (hi:i.Ok) {w:World} (ha:i.At w) {bd od:Nat} (hD:i.DA=some ⟨bd,od,none⟩) {j:Nat} (hj:j<i.r.n):∃ (e:Ex) (a b:Nat),i.r.dat[j]?=some (e.xs,e.ys)/\i.r.ns[0]?=some a/\i.r.ns[i.r.ns.length-1]?=some b/\e.xs.length=a/\e.ys.length=b/\In64 e.xs/\In64 e.ys/\a<=e.cx/\b<=e.cy /\
  ∀ W,Below w.heap.size w W->W.cell? ⟨bd,od+j*2,none⟩=some (Us e.ax a e.cx)/\W.cell? ⟨bd,od+j*2+1,none⟩=some (Us e.ay b e.cy)/\Rd W W.heap.size e.ax (zC e.xs)/\Rd W W.heap.size e.ay (zC e.ys):=by
 obtain ⟨a,b,h1,h2,h3⟩:=hi.ex;obtain ⟨e,he⟩:=Au i.l j (by rw [hi.l.1];exact hj);have hm:=Ahx he;obtain ⟨e1,e2,e3,e4⟩:=h3 e hm;have hx:=ha.l.2 e hm;refine ⟨e,a,b,?_,h1,h2,e1,e2,e3,e4,by rw [<- e1];exact hx.2.2.1,by rw [<- e2];exact hx.2.2.2.1,fun W hb=>?_⟩
 . rw [<- hi.l.2,List.getElem?_map,he];rfl
 . have ha':=ha.below hb;obtain ⟨bd',od',hD',_,hc⟩:=ha'.l.at_ (by rw [hi.l.1];omega);rw [hD] at hD';injection hD' with hD'
   injection hD' with hD1 hD2
   subst hD1;subst hD2
   have:=hc j e he;rw [e1,e2] at this;have hx':=ha'.l.2 e hm;exact ⟨this.1,this.2,hx'.1,hx'.2.1⟩
theorem Inp.rnet {i:Inp} (hi:i.Ok) {w:World} (ha:i.At w) {A:Option Addr} {cp:Nat} {ps:List Int} (hA:Rd w w.heap.size A (zC ps)) (hp:ps.length=i.r.p/\In64 ps):RNet w i.r.ns ps i.r.ns.length i.r.p i.cap cp i.r.c.sh i.A A :=
 ⟨hi.ns,rfl,hi.cap,ha.ns,hA,hp.1,hi.pn.symm,hi.c.sh.2,hp.2⟩
theorem TN (w:World) (i:Inp) (hi:i.Ok) (ha:i.At w) (A:Option Addr) (cp:Nat) (ps:List Int) (hA:Rd w w.heap.size A (zC ps)) (hp:ps.length=i.r.p/\In64 ps) (B:Option Addr) (nb cb:Nat) (js:List Nat) (hB:Rd w w.heap.size B (Ah js)) (hjl:js.length=nb) (hj:∀ j∈js,j<i.r.n) (hnb:nb<=1000) :
  Calls Tryz.prog 33 #[.agg i.cells.toArray,Us A i.r.p cp,Us B nb cb] w fun e w'=>∃ g c,e=.returned (.tuple #[Us g i.r.p c,.bool true])/\i.r.p<=c/\(∀ q,g=some q->w.heap.size<=q.block)/\Rd w' w'.heap.size g (zC (BH i.r.ns i.r.c.sh ps i.r.p (exD i.r.dat js) (AE i.r.p)))/\Below w.heap.size w w':=by
 have hp60:=hi.p;have hn:=hi.n;have hmk:=Gw i.r.p (by omega);have hm:=((((Mem.start w).add_rd (i:=0) rfl hA).add_rd (i:=0) rfl hB).alloc (.cells i.cells.toArray 29)).zero i.r.p (by omega);simp only [World.size_alloc] at hm;have hm2:=hm.freeze (i:=4) rfl;have HM:=K1 hm2;have CN:=K1 (fun W=>Tx W i A i.r.p cp);have CG:=K1 (fun W (hb:Below w.heap.size w W)=>(Inp.rnet hi (ha.below hb) (A:=A) (cp:=cp) (ps:=ps) ((hA.below hb).more hb.size) hp));obtain ⟨bd,od,hD,_,_⟩:=ha.l.at_ (by have:=hi.c.ba;have:=hi.c.k;rw [hi.l.1];omega);have HX:=K1 (fun j (hj:j<i.r.n)=>Inp.ex_at hi ha hD hj);have HI:=K1 hi
 have HP:=K1 hp;have HJ:=K1 hj;have HJL:=K1 hjl;have hBn:0<nb->∃ b o,B=some ⟨b,o,none⟩:=fun h0=>by obtain ⟨b,o,e,_⟩:=hB (by rw [DV,hjl];exact h0);exact ⟨b,o,e⟩
 dsimp only [Inp.cells] at *;rw [hD] at HM CN ⊢;clear hD hm hm2 hA hB hi ha hp hj hjl
 obtain ⟨p,hpe⟩:∃ p,p=i.r.p:=⟨_,rfl⟩
 have HG:=K1 (show ∀ (l:List (List Int × List Int)),(BH i.r.ns i.r.c.sh ps i.r.p l (AE i.r.p)).length=i.r.p/\In64 (BH i.r.ns i.r.c.sh ps i.r.p l (AE i.r.p)) from fun l=>⟨(Gu _ _ _ _ _ _).trans (by simp [AE]),Ih _ _ _ _ _ _ (Fl _)⟩);go_enter Tryz.func33,Tryz.ntmps33;go_wp2_with fail;clear hmk
 have HM0:=K1 (show Mem _ [.bel w.heap.size w,.rd A (zC ps),.rd B (Ah js),.obj w.heap.size (.cells #[Us i.A i.r.ns.length i.cap,U O i.r.c.sh,U O i.r.c.ra,U O i.r.c.mo,U O i.r.c.k,U O i.r.c.ba,U O i.r.c.mi,U O i.r.c.st,U O i.r.c.bu,U O i.r.c.s,U O i.r.c.wi,U O i.r.c.ca,Us (some ⟨bd,od,none⟩) i.r.n i.dcap,Us i.SA i.r.p i.scap,Us i.RA i.r.ds.length i.rcap] 29 (0,0)),.rd (some ⟨w.heap.size+1,0,none⟩) (zC (BH i.r.ns i.r.c.sh ps i.r.p (exD i.r.dat (js.take 0)) (AE i.r.p)))] from HM.out)
 have HFR:=K1 (show ∀ q:Addr,(some ⟨w.heap.size+1,0,none⟩:Option Addr)=some q->w.heap.size<=q.block from fun q hq=>by cases hq;exact Nat.le_succ _);clear HM
 go_loopw [8,9,10] (fun s8 s9 _ wr=>∃ (k c:Nat) (G:Option Addr),k<=nb/\i.r.p<=c/\s8=Us G i.r.p c/\s9=U O k/\Hid (∀ q:Addr,G=some q->w.heap.size<=q.block)/\Hid (Mem wr [.bel w.heap.size w,.rd A (zC ps),.rd B (Ah js),.obj w.heap.size (.cells #[Us i.A i.r.ns.length i.cap,U O i.r.c.sh,U O i.r.c.ra,U O i.r.c.mo,U O i.r.c.k,U O i.r.c.ba,U O i.r.c.mi,U O i.r.c.st,U O i.r.c.bu,U O i.r.c.s,U O i.r.c.wi,U O i.r.c.ca,Us (some ⟨bd,od,none⟩) i.r.n i.dcap,Us i.SA i.r.p i.scap,Us i.RA i.r.ds.length i.rcap] 29 (0,0)),.rd G (zC (BH i.r.ns i.r.c.sh ps i.r.p (exD i.r.dat (js.take k)) (AE i.r.p)))])) (fun _ s9 _ _=>nb-(intOf s9).toNat)
 case atStart=>exact ⟨0,_,_,Nat.zero_le _,Ahy _,rfl,rfl,HFR,HM0⟩
 case round =>
  clear HM0 HFR;obtain ⟨k,c,G,hk,hc,rfl,rfl,HF,HM⟩:=hrel
  by_cases hlt:k<nb
  . obtain ⟨bB,oB,hBe⟩:=hBn (by omega);subst hBe;obtain ⟨j,hjs⟩:=Au js k (by rw [HJL.out];exact hlt);have hjn:=HJ.out j (Ahx hjs);have e1:=HM.out.rdAt 2 rfl (show (Ah js)[k]?=some (U O j) by simp [Ah,hjs]);have HT:=K1 (show exD i.r.dat (js.take (k+1))=exD i.r.dat (js.take k)++[(i.r.dat[j]?).getD ([],[])] by rw [Ah4,hjs];simp [exD]);obtain ⟨⟨ax,xs,cx,ay,ys,cy⟩,a,b,hdat,ha,hb,hxl,hyl,hxi,hyi,hcx,hcy,hW⟩:=HX.out j hjn;dsimp only at hxl hyl hxi hyi hcx hcy hW hdat;rw [hdat] at HT;have HW:=K1 hW;have HE:=K1 (Ahw ha (Ahw hb (Ahw hxl (Ahw hyl (Ahw hxi hyi)))));have gj1:¬ ((j:Int)<0):=by omega
    have gj2:decide ((j:Int)<0)=false:=decide_eq_false (by omega);have gj3:(j:Int)<(i.r.n:Int):=by omega
    have gj4:j<i.r.n:=hjn;have hnb2:=hn.1;clear hjs hW ha hb hxl hyl hxi hyi hdat hjn hcy;have c3:=HM.out.cells 3 rfl;go_wp2_with fail;clear e1 c3;refine A9 fun W0 hW=>?_;replace HM:=K1 (hW.out.symm ▸ HM.out);clear hW
    refine AC (.reads [0,1,2,4,5,6,7,8,9,10,11,12,13,14,15] (.eff 3 (.eff 16 (.eff 17 (.eff 18 (.reads [19,20,21,22] .fin)))))) 23 (fun W'=>(∀ x,W'.cell? ⟨w.heap.size,x,none⟩=([Us i.A i.r.ns.length i.cap,U O i.r.c.sh,U O i.r.c.ra,U O i.r.c.mo,U O i.r.c.k,U O i.r.c.ba,U O i.r.c.mi,U O i.r.c.st,U O i.r.c.bu,U O i.r.c.s,U O i.r.c.wi,U O i.r.c.ca,Us (some ⟨bd,od,none⟩) i.r.n i.dcap,Us i.SA i.r.p i.scap,Us i.RA i.r.ds.length i.rcap]:List Value)[x]?)/\W'.cell? ⟨bd,od+j*2,none⟩=some (Us ax a cx)/\W'.cell? ⟨bd,od+j*2+1,none⟩=some (Us ay b cy)) ?_;replace HM:=K1 HM.out.drew;generalize W0.drew=V at *
    refine PlS.rd_ ⟨HM.out.cells 3 rfl,(HW.out _ (HM.out.bel 0 rfl)).1,(HW.out _ (HM.out.bel 0 rfl)).2.1⟩ ?_;refine Ah0 ?_;go_wp2_with fail;refine (CN.out _).mono ?_;rintro e w5 ⟨rfl,hb5⟩;replace HM:=K1 (HM.out.below hb5);clear hb5;go_wp2_with fail;refine Ah1 ⟨HM.out.cells 3 rfl,(HW.out _ (HM.out.bel 0 rfl)).1,(HW.out _ (HM.out.bel 0 rfl)).2.1⟩ ?_;refine Ah0 ?_;have CGk:=K1 (Ta _ _ _ _ _ _ _ _ _ _ _ _ _ _ _ _ _ (CG.out _ (HM.out.bel 0 rfl)) (HW.out _ (HM.out.bel 0 rfl)).2.2.1 HE.out.2.2.1 HE.out.1 HE.out.2.2.2.2.1 hcx (HW.out _ (HM.out.bel 0 rfl)).2.2.2 HE.out.2.2.2.1 HE.out.2.1 (cy:=cy))
    go_wp2_with fail;refine CGk.out.mono ?_;rintro e w6 ⟨A6,c6,rfl,ho6,hb6⟩;replace HM:=K1 (HM.out.push_rd hb6 (AJ ho6) (AF ho6));have hc6:=Be ho6;clear ho6 hb6 CGk;go_wp2_with fail;refine Ah1 ⟨HM.out.cells 3 rfl,(HW.out _ (HM.out.bel 0 rfl)).1,(HW.out _ (HM.out.bel 0 rfl)).2.1⟩ ?_;refine Ah0 ?_;go_wp2_with fail;refine AH fun W7 hW=>?_;replace HM:=K1 (HM.out.alloc_ hW.out);clear hW;refine Ah1 ⟨HM.out.cells 3 rfl,(HW.out _ (HM.out.bel 0 rfl)).1,(HW.out _ (HM.out.bel 0 rfl)).2.1⟩ ?_;refine Ah0 ?_;have hrl:(DZ i.r.ns ps i.r.c.sh xs ys).length=i.r.p:=by rw [SX];exact HI.out.pn.symm
    have CS:=K1 (Sh W7 _ 2 2 i.r.p [⟨G,c,BH i.r.ns i.r.c.sh ps i.r.p (exD i.r.dat (js.take k)) (AE i.r.p)⟩,⟨A6,c6,DZ i.r.ns ps i.r.c.sh xs ys⟩] (by have:=HM.out.box 6 rfl;simpa [AK,hrl,(HG.out (exD i.r.dat (js.take k))).1] using this) (by intro x hx;simp only [AO,List.map_cons,List.map_nil,Ah2,Ah3,or_false] at hx;rcases hx with rfl | rfl;exact HM.out.rd 4 rfl;exact HM.out.rd 5 rfl) rfl (by omega) (by intro x hx;simp only [Ah2,Ah3,or_false] at hx;rcases hx with rfl | rfl;exact (HG.out _).1;exact hrl) (by omega))
    have HS:=K1 (show D6 [⟨G,c,BH i.r.ns i.r.c.sh ps i.r.p (exD i.r.dat (js.take k)) (AE i.r.p)⟩,⟨A6,c6,DZ i.r.ns ps i.r.c.sh xs ys⟩] i.r.p 2=BH i.r.ns i.r.c.sh ps i.r.p (exD i.r.dat (js.take (k+1))) (AE i.r.p) by rw [HT.out,Jw];show Bn 0 _ (Bn 0 _ (AE i.r.p) i.r.p) i.r.p=_;rw [Te i.r.c.sh HI.out.ns HP.out.2 (by rw [HP.out.1];exact HI.out.pn) (by rw [HE.out.1];exact HE.out.2.2.1) (by rw [HE.out.2.1];exact HE.out.2.2.2.1)];congr 1;exact TM (HG.out _).1 (HG.out _).2);rw [HS.out] at CS;clear hrl HS;go_wp2_with fail;refine CS.out.mono ?_;rintro e w8 ⟨g8,rfl,hm8⟩;have hb8:=hm8.bel 0 rfl
    have ho8:=hm8.own 1 rfl;have HF8:=K1 (show ∀ q:Addr,(some ⟨g8,0,none⟩:Option Addr)=some q->w.heap.size<=q.block from fun q hq=>Nat.le_trans (HM.out.bel 0 rfl).size (AF ho8 q hq));replace HM:=K1 (HM.out.push_rd hb8 (AJ ho8) (AF ho8));clear hm8 hb8 ho8 CS;go_wp2_with fail;refine Ah1 ⟨HM.out.cells 3 rfl,(HW.out _ (HM.out.bel 0 rfl)).1,(HW.out _ (HM.out.bel 0 rfl)).2.1⟩ ?_;refine PlS.rc_ ⟨HM.out.cells 3 rfl,(HW.out _ (HM.out.bel 0 rfl)).1,(HW.out _ (HM.out.bel 0 rfl)).2.1⟩ ?_;refine PlS.fin_ ?_
    replace HM:=K1 (HM.out.pick [0,1,2,3,7] [.bel w.heap.size w,.rd A (zC ps),.rd (some ⟨bB,oB,none⟩) (Ah js),.obj w.heap.size (.cells #[Us i.A i.r.ns.length i.cap,U O i.r.c.sh,U O i.r.c.ra,U O i.r.c.mo,U O i.r.c.k,U O i.r.c.ba,U O i.r.c.mi,U O i.r.c.st,U O i.r.c.bu,U O i.r.c.s,U O i.r.c.wi,U O i.r.c.ca,Us (some ⟨bd,od,none⟩) i.r.n i.dcap,Us i.SA i.r.p i.scap,Us i.RA i.r.ds.length i.rcap] 29 (0,0)),.rd (some ⟨g8,0,none⟩) (zC (BH i.r.ns i.r.c.sh ps i.r.p (exD i.r.dat (js.take (k+1))) (AE i.r.p)))] rfl (by decide));go_wp2_with fail;go_roundw
    case rel=>exact ⟨k+1,_,_,by omega,Ahy _,rfl,by go_num,HF8,HM⟩
    case measure=>simp [intOf];omega
  . have hkn:k=nb:=by omega
    subst hkn;go_wp2_with fail
    go_ret2
    have hr:=HM.out.rd 4 rfl;rw [Ah5 (by rw [HJL.out];exact Ahy _)] at hr;exact ⟨_,_,rfl,hc,HF.out,hr,HM.out.bel 0 rfl⟩
theorem TO:(Tryz.prog.info? 66).map (fun i=>(i.zero,i.size,i.bytes))=some (some (.agg #[Us none 0 0,Us none 0 0]),2,48):=by kernel_rfl
theorem Nm:RowT Tryz.prog 40 66 2 48:=by
 obtain ⟨i0,hi,hz0,hz1,hz2⟩:=info_parts TO;exact ⟨i0,_,Tryz.underlying40,hi,hz0,hz1,hz2,rfl,by decide,by decide⟩
structure RSt (W:World) (A:Option Addr) (l:List Ex):Prop where
 row:Rd W W.heap.size A (Bi l)
 fam:∀ a∈Bf l,Rd W W.heap.size a.1 a.2
theorem RSt.below {W W':World} {A:Option Addr} {l:List Ex} (h:RSt W A l) (hb:Below W.heap.size W W'):RSt W' A l:=⟨(h.row.below hb).more hb.size,fun a ha=>((h.fam a ha).below hb).more hb.size⟩
theorem RSt.at_ {W:World} {b off k:Nat} {l:List Ex} {e:Ex} (h:RSt W (some ⟨b,off,none⟩) l) (he:l[k]?=some e):W.cell? ⟨b,off+k*2,none⟩=some (Us e.ax e.xs.length e.cx)/\W.cell? ⟨b,off+k*2+1,none⟩=some (Us e.ay e.ys.length e.cy):=by
 have ha:=FL l k e he;have h0:0<(Bi l).length:=by have:=(List.getElem?_eq_some_iff.1 ha.1).1;omega
 obtain ⟨b',o',e',_,hc⟩:=h.row h0;injection e' with e'
 injection e' with e1 e2
 subst e1;subst e2
 have h1:=hc _ _ ha.1;have h2:=hc _ _ ha.2;rw [Nat.mul_comm] at h1;rw [Nat.mul_comm 2 k] at h2;exact ⟨h1,by rw [Nat.add_assoc];exact h2⟩
theorem RSt.addr {W:World} {A:Option Addr} {l:List Ex} (h:RSt W A l) (h0:0<l.length):∃ b off,A=some ⟨b,off,none⟩:=by
 obtain ⟨b,o,e,_⟩:=h.row (by rw [Er];omega);exact ⟨b,o,e⟩
theorem TP (w:World) (m:Mc) (R:List Ch) (h:Mem w (m.ps++R)) (ho:m.Ok) (hb:m.cnt<=1000000) :
  Calls Tryz.prog 197 #[.pointer (some ⟨m.f.g,0,none⟩)] w fun e w'=>∃ A c l,e=.returned (Us A m.rcd.length c)/\RSt w' A l/\l.map Ex.nums=m.rcd.map Ex.nums/\Below w.heap.size w w':=by
 have hp:=ho.f.p.2;have hrl:=ho.recs;have CC:=K1 (fun W A B ca cb ps ms hA hB hx hy=>Jl W A B m.f.p ca cb ps ms hA hB hx hy (by omega))
 have HC:=K1 (show ∀ W:World,Below w.heap.size w W->∀ k e,m.rcd[k]?=some e->∃ b o,m.Ar=some ⟨b,o,none⟩/\W.cell? ⟨b,o+k*2,none⟩=some (Us e.ax m.f.p e.cx)/\W.cell? ⟨b,o+k*2+1,none⟩=some (Us e.ay m.f.p e.cy)/\Rd W W.heap.size e.ax (zC e.xs)/\Rd W W.heap.size e.ay (zC e.ys) from fun W hb k e he=>by
  have hW:=h.below hb
  have hr:RSt W m.Ar m.rcd:=⟨AJ (hW.own 4 rfl),hW.st 5 rfl⟩
  obtain ⟨b,o,e1⟩:=hr.addr (by have:=(List.getElem?_eq_some_iff.1 he).1;omega);have hr2:=hr;rw [e1] at hr2;have hc:=hr2.at_ he;have hl:=ho.rcds e (Ahx he);rw [hl.1,hl.2] at hc
  exact ⟨b,o,e1,hc.1,hc.2,hr.fam _ (Gh (Ahx he)),hr.fam _ (Ia (Ahx he))⟩)
 have HL:=K1 (show ∀ e∈m.rcd,e.xs.length=m.f.p/\e.ys.length=m.f.p from ho.rcds);have c14:w.cell? ⟨m.f.g,14,none⟩=some (Us m.Ar m.rcd.length m.cr):=Af (h.obj 0 rfl) 14;have hm:=((Mem.start w).add (c:=.own w.heap.size 89 2 (Us none 0 0) 0 (Bi [])) ⟨Bh _ _ _ _,Ahy _⟩ (fun _ _ _ _ g hg=>by cases hg)).add (c:=AD (Bf [])) (Da (fun a ha=>by cases ha)) (fun _ _ _ _ g hg=>by obtain ⟨a,ha,_⟩:=hg;cases ha);have HM:=K1 hm;have gA:0<m.rcd.length->∃ b o,m.Ar=some ⟨b,o,none⟩:=fun h0=>RSt.addr (W:=w) (l:=m.rcd) ⟨AJ (h.own 4 rfl),h.st 5 rfl⟩ h0
 obtain ⟨n,hn⟩:∃ n,n=m.rcd.length:=⟨_,rfl⟩
 obtain ⟨Ar,hAr⟩:∃ Ar,Ar=m.Ar:=⟨_,rfl⟩
 rw [<- hn] at c14 hrl gA ⊢;rw [<- hAr] at c14 gA HC;have HN:=K1 hn;clear hm h ho hn hAr;dsimp only [stV] at CC;go_enter Tryz.func197,Tryz.ntmps197;go_wp2_with fail;clear c14
 go_loopw [3,5,13] (fun s3 _ s13 wr=>∃ (k:Nat) (B:Option Addr) (cb:Nat) (l:List Ex),k<=n/\s3=Us B k cb/\s13=U O k/\Hid (l.map Ex.nums=(m.rcd.take k).map Ex.nums)/\Hid (Mem wr [.bel w.heap.size w,.own w.heap.size 89 2 (Us B k cb) k (Bi l),AD (Bf l)])) (fun _ _ s13 _=>n-(intOf s13).toNat)
 case atStart=>exact ⟨0,none,0,[],Nat.zero_le _,rfl,rfl,K1 rfl,HM⟩
 case round =>
  clear HM;obtain ⟨k,B,cb,l,hk,rfl,rfl,HE,HM⟩:=hrel
  by_cases h1:k<n
  . obtain ⟨e,he⟩:=Au m.rcd k (by rw [<- HN.out];exact h1);obtain ⟨b,o,hA,e1,e2,r1,r2⟩:=HC.out wr (HM.out.bel 0 rfl) k e he;obtain ⟨hl1,hl2⟩:=HL.out e (Ahx he);have HT:=K1 (show (m.rcd.take (k+1)).map Ex.nums=(m.rcd.take k).map Ex.nums++[(e.xs,e.ys)] by rw [Ah4,he];simp [Ex.nums]);obtain ⟨b2,o2,hg⟩:=gA (by omega);rw [hg] at hA;injection hA with hA
    injection hA with hA1 hA2
    subst hA1;subst hA2;subst hg
    have HM1:=K1 (HM.out.alloc (.cells #[Us e.ax m.f.p e.cx,Us e.ay m.f.p e.cy] 89));have c3:=HM1.out.cells 3 rfl;have hbw:=(Below.refl wr.heap.size wr).alloc (Ahy _) (.cells #[Us e.ax m.f.p e.cx,Us e.ay m.f.p e.cy] 89);have CCk:=K1 (CC.out _ e.ax e.ay e.cx e.cy e.xs e.ys ((r1.below hbw).more hbw.size) ((r2.below hbw).more hbw.size) hl1 hl2);have HLL:=K1 (Ahw hl1 hl2);clear he r1 r2 hl1 hl2 hbw;go_wp2_with fail;refine CCk.out.mono ?_;rintro x w1 ⟨Ap,cp,Am,cm,rfl,hm3⟩
    have hm4:=HM1.out.join hm3 (fun c hc hmu g hg=>by simp only [Ah2,Ah3,or_false] at hc;rcases hc with rfl | rfl <;> exact absurd trivial hmu);have hm5:=((hm4.freeze (i:=4) rfl).freeze (i:=5) rfl).alloc (.cells #[Us Ap m.f.p cp,Us Am m.f.p cm] 89);have HM5:=K1 hm5;clear hm3 hm4 hm5 HM1 HM CCk c3 e1 e2
    go_wp2_with (at_builtin;refine AQ (n:=k) rfl _ _ 85 rfl HM5.out 1 Mn rfl rfl _ 1 _ [Us Ap m.f.p cp,Us Am m.f.p cm] rfl (HM5.out.box 6 rfl) rfl (by intro u hu;simp at hu;rcases hu with rfl | rfl <;> rfl) (by omega) ?_;intro B' c' W4 hM4;have HM6:=K1 ((((hM4.famSnoc (i:=2) (j:=4) rfl rfl).famSnoc (i:=2) (j:=5) rfl rfl)).front 3);clear hM4 HM5)
    go_roundw
    case rel =>
     refine ⟨k+1,B',c',l++[⟨Ap,e.xs,cp,Am,e.ys,cm⟩],by omega,rfl,by go_num,K1 ?_,K1 ?_⟩
     . rw [HT.out,List.map_append,HE.out];rfl
     . rw [H9,Ft];dsimp only;rw [HLL.out.1,HLL.out.2];exact HM6.out
    case measure=>simp [intOf];omega
  . have hkn:k=n:=by omega
    subst hkn;go_wp2_with fail;go_ret
    have hm:=(HM.out.freeze (i:=1) rfl)
    have he:=HE.out;rw [Ah5 (by rw [<- HN.out];exact Ahy _)] at he;exact ⟨B,cb,l,rfl,⟨hm.rd 1 rfl,hm.st 2 rfl⟩,he,hm.bel 0 rfl⟩
theorem TQ (w:World) (x:Wv) (r:Rn) (R:List Ch) (h:Mem w (x.ps++R)) (ho:x.Ok r) (hb:x.count<=1000000) (u:Nat) (m:Mc) (h1:x.ms[u]?=some m) :
  Calls Tryz.prog 26 #[.pointer (some ⟨x.g,0,none⟩),U O u] w fun e w'=>∃ A c l,e=.returned (Us A m.rcd.length c)/\RSt w' A l/\l.map Ex.nums=m.rcd.map Ex.nums/\Below w.heap.size w w':=by
 have hk:=ho.c.k;have hu:u<r.c.k:=by rw [<- ho.lm];exact (List.getElem?_eq_some_iff.1 h1).1
 obtain ⟨li,h2⟩:=Au x.ls ((u+r.c.k-1) % r.c.k) (by rw [ho.ll];exact Nat.mod_lt _ (by omega));obtain ⟨lo,h3⟩:=Au x.ls u (by rw [ho.ll];exact hu);have CA:=K1 (Jv w x _ (by have:=h;unfold Wv.ps at this;rw [List.append_assoc] at this;exact this) r.c.k ho.lm ho.ll hk u hu m li lo h1 h2 h3);obtain ⟨k1,k2,k3,k4⟩:=ho.m u m h1;have CT:=K1 (fun W M hM=>TP W m M hM k1 (by omega));have HM:=K1 (h.perm (x.perm1 R h1));dsimp only [ifV,ptV] at CA;clear h ho hu h1 h2 h3 k1 k2 k3 k4 hk hb;go_enter Tryz.func26,Tryz.ntmps26;go_wp2_with fail;refine CA.out.mono ?_;rintro e w1 ⟨rfl,q,rfl⟩
 replace HM:=K1 (HM.out.drewN q);clear CA;go_wp2_with fail;refine (CT.out _ _ HM.out).mono ?_;rintro e w2 ⟨A,c,l,rfl,hr,he,hb⟩;have HF:=K1 (Ahw hr (Ahw he (B6 (Below.refl w.heap.size w) q |>.trans hb)));clear hr he hb CT HM;go_wp2_with fail;go_ret;exact ⟨A,c,l,rfl,HF.out.1,HF.out.2.1,HF.out.2.2⟩
theorem Nn:∀ {zs:List Int},(∀ z∈zs,1<=z)->∃ ns:List Nat,zs=AX ns/\∀ n∈ns,1<=n
 | [],_=>⟨[],rfl,by simp⟩
 | z::r,h=>by
   obtain ⟨ns,rfl,hn⟩:=Nn (zs:=r) fun y hy=>h y (List.mem_cons_of_mem _ hy)
   have:=h z (List.mem_cons_self ..);exact ⟨z.toNat::ns,by simp [AX];omega,fun n hm=>(List.mem_cons.1 hm).elim (fun e=>by omega) (hn n)⟩
theorem TR {st ba n:Nat} (hb:1<=ba) (hn:ba<=n) (hm:n<=1048576):epo 0 st ba n=(pcnt st (n / ba):Nat):=by
 rw [GO (by omega)];have hq:1<=n / ba:=(Nat.le_div_iff_mul_le hb).2 (by omega);rw [<- Ah6];generalize n / ba=q at *;have e:(st:Int)+q-1=((st+q-1:Nat):Int):=by omega
 rw [e,<- Ah6]
 congr 1
 unfold pcnt
 split
 . rename_i h0
   subst h0;exact Nat.div_eq_of_lt (by omega)
 . rw [show st+q-1=st-1+q by omega,Nat.add_div_right _ hq]
theorem Gi.inp {g:Gi} {w:World} (h:g.Small) (ha:g.At w):∃ i:Inp,i.cells=g.cells/\i.Ok/\i.At w/\(i.r.c.k<=6/\i.r.p<=i.scap/\i.r.c.st<=5)/\g.pl=rpC i.r.c i.r.p (Us i.A i.r.ns.length i.cap):=by
 obtain ⟨A,cap,zs,DA,dcap,l,SA,scap,ss,RA,rcap,ds,sh,ra,mo,wo,ba,mi,st,bu,ch,wi,ca⟩:=g;obtain ⟨a1,a2,a3,a4,a5,a6,a7,a8,a9,a10,a11,a12,a13,a14⟩:=ha;obtain ⟨h1,h2,h3,h4,h5,h6,h7⟩:=h;dsimp only [Gi.code,Gi.cc,Gi.cells] at *
 have hcc:AT zs ⟨sh,0,0,wo,ba,mi,st,bu,ch,wi,ca⟩=0:=by
  by_cases hk:AT zs ⟨sh,0,0,wo,ba,mi,st,bu,ch,wi,ca⟩=0
  . exact hk
  . unfold BY at h1;rw [if_pos hk] at h1;exact absurd h1 hk
 rw [hcc] at h1;have hin:=h1;have hz:=(DT hcc).2.2.2;have hconf:=hcc;unfold AT at hcc;dsimp only at hcc
 split at hcc
 . cases hcc
 split at hcc
 . cases hcc
 split at hcc
 . omega
 split at hcc
 . cases hcc
 split at hcc
 . cases hcc
 rename_i b1 b2 b3 b4 b5
 have hn:BL ⟨sh,0,0,wo,ba,mi,st,bu,ch,wi,ca⟩=true:=by simpa using b4
 unfold BL at hn;simp only [Ah7,Bool.or_eq_true,Di,decide_eq_true_eq] at hn
 have hall:zs.all okSz=true:=by
  unfold AV at hz
  split at hz
  . cases hz
  split at hz
  . cases hz
  . next hq2 hq3 =>
    cases hb:zs.all okSz
    . first | exact absurd hb hq2 | exact absurd hb hq3 | exact absurd hb (by assumption)
    . rfl
 have htwo:=FZ hz;obtain ⟨ns,rfl,hpos⟩:=Nn (zs:=zs) fun z hm=>(Di.1 (List.all_eq_true.1 hall z hm)).1
 rw [Ah8] at htwo;unfold BY at h1;rw [if_neg (by omega)] at h1
 split at h1
 . cases h1
 split at h1
 . cases h1
 split at h1
 . cases h1
 rename_i n1 n2 n3
 have hfit:B3 (zAt (AX ns) 0) (zAt (AX ns) ((AX ns).length-1)) l=true:=by
  cases hf:B3 (zAt (AX ns) 0) (zAt (AX ns) ((AX ns).length-1)) l
  . exact absurd (.inl hf) n2
  . rfl
 have hcn:(ss.length:Int)=cnt (AX ns):=Decidable.byContradiction fun hc=>n2 (.inr hc)
 have hoff:=Lv ns (by omega);have hpn:ss.length=offN ns (ns.length-1):=by omega
 obtain ⟨sh,rfl⟩:=Ahv (show 0<=sh by omega);obtain ⟨wo,rfl⟩:=Ahv (show 0<=wo by omega);obtain ⟨ba,rfl⟩:=Ahv (show 0<=ba by omega);obtain ⟨mi,rfl⟩:=Ahv (show 0<=mi by omega);obtain ⟨st,rfl⟩:=Ahv (show 0<=st by omega);obtain ⟨bu,rfl⟩:=Ahv (show 0<=bu by omega);obtain ⟨ch,rfl⟩:=Ahv (show 0<=ch by omega);obtain ⟨wi,rfl⟩:=Ahv (show 0<=wi by omega);obtain ⟨ca,rfl⟩:=Ahv (show 0<=ca by omega);refine ⟨⟨⟨⟨sh,ra,mo,wo,ba,mi,st,bu,ch,wi,ca⟩,ss.length,ns,l.length,ds,l.map Ex.nums⟩,A,cap,DA,dcap,l,SA,scap,ss,RA,rcap⟩,?_,?_,?_,⟨by dsimp only;omega,a14,by dsimp only;omega⟩,by simp [Gi.pl,rpC]⟩
 . simp [Inp.cells]
 . have hp1:1<=ss.length:=by
    obtain ⟨d,hd⟩:∃ d,ns.length-1=d+1:=⟨ns.length-2,by omega⟩
    have hm:=hpos _ (List.getElem_mem (l:=ns) (n:=d+1) (by omega));rw [hpn,hd,Fm,Ahz (by omega)];simp only [Option.getD_some];omega
   refine ⟨⟨by dsimp only;omega,by dsimp only;omega,by dsimp only;omega,by dsimp only;omega,by dsimp only;omega,by dsimp only;omega,by dsimp only;omega,by dsimp only;omega,by dsimp only;omega⟩,by dsimp only;omega,⟨htwo,hpos,by rw [<- hpn];omega⟩,hpn,by dsimp only;omega,⟨rfl,rfl⟩,?_,⟨rfl,a9⟩,?_,by simpa using a2,⟨a12,a13,by dsimp only;omega⟩,hconf,hz,hin⟩
   . refine ⟨ns[0],ns[ns.length-1],Ahz (l:=ns) (i:=0) (by omega),Ahz (l:=ns) (i:=ns.length-1) (by omega),fun e he=>?_⟩;have hb:=List.all_eq_true.1 hfit e he
     have q0:zAt (AX ns) 0=(ns[0]'(by omega):Nat):=by
      unfold zAt;rw [Ah9,Dp (Ahz (by omega))];rfl
     have q1:zAt (AX ns) ((AX ns).length-1)=(ns[ns.length-1]'(by omega):Nat):=by
      unfold zAt;rw [Ah8,Ah9,Dp (Ahz (by omega))];rfl
     rw [q0,q1] at hb;unfold Cu at hb;simp only [Bool.not_not,Ah7,decide_eq_true_eq] at hb;exact ⟨by omega,by omega,(a6 e he).1,(a6 e he).2⟩
   . refine ⟨?_,by dsimp only;omega⟩;dsimp only;unfold nee at n3;rw [TR (by omega) (by omega) (by omega)] at n3;have e:((l.length:Int)-1)=((l.length-1:Nat):Int):=by omega
     rw [e,<- Int.natCast_mul] at n3;omega
 . exact ⟨a1,a4,fun a hm=>by
    obtain ⟨e,he,hx⟩:=List.mem_flatMap.1 hm
    rcases List.mem_cons.1 hx with rfl | hx
    . exact (a4.2 e he).1
    . rw [List.mem_singleton.1 hx]
      exact (a4.2 e he).2.1,a7,a10⟩
end
end Go.Proofs.YtdpojpcoghcieaaGreat
