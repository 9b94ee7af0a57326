/- A part of the proof of TopTags: RefErr, RefPlc. Conditions: none. -/
import Derived.Test.YtdpojpcoghcieaaGreatSxBC
set_option maxHeartbeats 8000000
set_option linter.all false
namespace Go.Proofs.YtdpojpcoghcieaaGreat
open Lib renaming hid → K1
open Go.RowKit
set_option maxRecDepth 100000
open Value renaming int → U, slice → Us
open IntKind renaming i64 → O
open List renaming range → Adn, append_assoc → Ado, length_append → Adp, range_succ → Adr, mem_of_getElem? → Adw
open Nat renaming zero_le → Adq, le_refl → Adv
open And renaming intro → Ads
open PlS renaming ef_ → Adt
open After renaming go → Adu
open Option renaming getD_some → Adx
section
def rcol (ns:List Nat) (ps:List Int) (q k c:Nat) (nx:List Int):Nat->Int
 | 0=>0
 | r+1=>wrap64 (rcol ns ps q k c nx r+mulF (wAt ns ps k r c) (nx[r]?.getD 0) q)
def rerr (ns:List Nat) (ps:List Int) (q n1:Nat) (f:Nat->List Int) (ys:List Int):Nat->List Int
 | 0=>(Adn ys.length).map fun i=>wrap64 ((f n1)[i]?.getD 0-ys[i]?.getD 0)
 | d+1=>(Adn (ns[n1-(d+1)]?.getD 0)).map fun c=>Dr ((f (n1-(d+1)))[c]?.getD 0) (rcol ns ps q (n1-(d+1)) c (rerr ns ps q n1 f ys d) (ns[n1-d]?.getD 0))
theorem Sw (ns:List Nat) (ps:List Int) (q k c:Nat) (nx:List Int):∀ r,-9223372036854775808<=rcol ns ps q k c nx r/\rcol ns ps q k c nx r<=9223372036854775807
 | 0=>by simp [rcol]
 | _+1=>DJ _
theorem J5 {ns:List Nat} {ps:List Int} {q n1:Nat} {f:Nat->List Int} {ys:List Int} (hy:ys.length=ns[n1]?.getD 0):∀ d,(rerr ns ps q n1 f ys d).length=ns[n1-d]?.getD 0
 | 0=>by simp [rerr,hy]
 | d+1=>by simp [rerr]
theorem M1 (ns:List Nat) (ps:List Int) (q n1:Nat) (f:Nat->List Int) (ys:List Int):∀ d,In64 (rerr ns ps q n1 f ys d)
 | 0=>fun z hz=>by
   obtain ⟨i,_,rfl⟩:=List.mem_map.1 hz;exact DJ _
 | d+1=>fun z hz=>by
   obtain ⟨i,_,rfl⟩:=List.mem_map.1 hz;exact Mz (Sw _ _ _ _ _ _ _)
structure RVals (W:World) (ns:List Nat) (f:Nat->List Int) (m:Nat) (Ao:Option Addr) (ls:List Ly):Prop where
 ok:FOk f m ls
 vals:Rd W W.heap.size Ao (AK ls)
 fam:∀ a∈AO ls,Rd W W.heap.size a.1 a.2
 len:∀ k,(f k).length=ns[k]?.getD 0
 bd:∀ k,In64 (f k)
theorem RVals.below {W W':World} {ns:List Nat} {f:Nat->List Int} {m:Nat} {Ao:Option Addr} {ls:List Ly} (h:RVals W ns f m Ao ls) (hb:Below W.heap.size W W'):RVals W' ns f m Ao ls :=
 ⟨h.ok,(h.vals.below hb).more hb.size,fun a ha=>((h.fam a ha).below hb).more hb.size,h.len,h.bd⟩
theorem Sx (m P cs cp q n1 ny cy co:Nat) (As Ap Ao Y:Option Addr) (ns:List Nat) (ps ys:List Int) (f:Nat->List Int) (ls:List Ly) (hn1:m=n1+1) (hny:ns[n1]?=some ny) (hyl:ys.length=ny):∀ (d k:Nat) (w:World),k+d=n1->RNet w ns ps m P cs cp q As Ap->RVals w ns f m Ao ls->Rd w w.heap.size Y (zC ys)->∀ a,ns[k]?=some a ->
  Calls Tryz.prog 120 #[.agg #[Us As m cs,Us Ap P cp,U O q],U O k,Us Ao m co,Us Y ny cy] w fun e w'=>∃ A c,e=.returned (Us A a c)/\Mem w' [.bel w.heap.size w,vOwn w.heap.size a c A (rerr ns ps q n1 f ys d)]:=by
 intro d
 induction d with
 | zero =>
   intro k w hk h hv hY a ha;have h16:=h.few;have hoa:=hv.ok.len;have HM:=K1 (((((((Mem.start w).add_rd (i:=0) rfl h.sz).add_rd (i:=0) rfl h.pr).add_rd (i:=0) rfl hv.vals).add_rd (i:=0) rfl hY).fam_add rfl hv.fam).alloc (.cells #[Us As m cs,Us Ap P cp,U O q] 178));obtain ⟨l,hl,hlv,hlc⟩:=hv.ok.at_ (show k<m by omega);have hll:l.v.length=a:=by rw [hlv,hv.len k,ha];rfl
   have hwl:=hv.bd k;rw [<- hlv] at hwl;have HLV:=K1 (show (AK ls)[k]?=some (Us l.A a l.c) by simp [AK,hl,hll]);have HLR:=K1 (show ∀ (W:World) (M:List Ch),Mem W M->M[5]?=some (AD (AO ls))->Rd W W.heap.size l.A (zC l.v) from fun W M h hM=>h.famRd (j:=k) hM (by simp [AO,hl]));obtain ⟨bo,oo,rfl⟩:=HM.out.rdA 3 rfl (by simp [AK];omega);have hpos:=h.ok.pos a (Adw ha);have hkn:k=n1:=by omega
   subst hkn;rw [hny] at ha;injection ha with ha
   subst ha;obtain ⟨by_,oy,rfl⟩:=HM.out.rdA 4 rfl (by simp;omega);have CL:=K1 (fun W=>Il W m P cs cp q As Ap (by omega))
   obtain ⟨E,hE⟩:∃ E:Nat->Int,E=fun i=>wrap64 ((f k)[i]?.getD 0-ys[i]?.getD 0):=⟨_,rfl⟩
   have hR:rerr ns ps q k f ys 0=(Adn ny).map E:=by rw [hE,rerr,hyl]
   rw [hR];have HE:=K1 (show ∀ i x y,l.v[i]?=some x->ys[i]?=some y->E i=wrap64 (x-y) by intro i x y hx hy;rw [hE];show wrap64 ((f k)[i]?.getD 0-ys[i]?.getD 0)=_;rw [<- hlv,hx,hy];rfl);have HL:=K1 (Ads hll hyl);have h1k:m-1=k:=by omega
   rw [h1k] at CL;have hb1:ny<=1000:=by obtain ⟨_,_,_,h1,_,_,_,_,_,h2,_⟩:=h.ok.at_ (k:=k-1) (by rw [h.len];omega);rw [show k-1+1=k by omega,hny] at h1;injection h1 with h1;omega
   have gk:(0:Int)<=(k:Int)/\(k:Int)<(m:Int):=by omega
   generalize l.A=lA at *;generalize l.c=lc at *;generalize l.v=lv at *;clear h hv hY hR hE hlv hl hny hyl hll hoa hwl hlc hk h1k hn1;have hm8:=HM.out.add (c:=.own w.heap.size 2 1 (Us none 0 0) 0 (zC ((Adn 0).map E))) ⟨Bh _ _ _ _,(HM.out.bel 0 rfl).size⟩ (fun _ _ _ _ g hg=>by cases hg);have HM8:=K1 hm8;clear hm8 HM;go_enter Tryz.func120,Tryz.ntmps120;have c6:=HM8.out.cells 6 rfl;go_wp2_with fail;refine (CL.out _).mono ?_;rintro e w3 ⟨rfl,hb3⟩;replace HM8:=K1 (HM8.out.below hb3);clear hb3 c6 CL;go_wp2_with fail;generalize hg0:w.heap.size=g0 at *;have HG0:=K1 hg0;clear hg0
   go_loopw [9,10] (fun s9 s10 wr=>∃ (i:Nat) (Az:Option Addr) (cz:Nat),i<=ny/\s9=Us Az i cz/\s10=U O i/\Hid (Mem wr [.bel g0 w,.rd As (zC (AX ns)),.rd Ap (zC ps),.rd (some ⟨bo,oo,none⟩) (AK ls),.rd (some ⟨by_,oy,none⟩) (zC ys),AD (AO ls),.obj g0 (.cells #[Us As m cs,Us Ap P cp,U O q] 178 (0,0)),vOwn g0 i cz Az ((Adn i).map E)])) (fun _ s10 _=>ny-(intOf s10).toNat)
   case atStart=>exact ⟨0,none,0,Adq _,rfl,rfl,HM8⟩
   case round =>
    clear HM8;obtain ⟨i,Az,cz,hi,rfl,rfl,HM⟩:=hrel
    by_cases hlt:i<ny
    . obtain ⟨x,hx⟩:=Au lv i (by have:=HL.out;omega);obtain ⟨y,hy⟩:=Au ys i (by have:=HL.out;omega);have he:=HE.out i x y hx hy;have GY:=K1 (Bk hy);obtain ⟨bl,ol,hlA,_,_⟩:=HLR.out _ _ HM.out rfl (by simp;have:=HL.out;omega);subst hlA;have QX:=K1 (fun W (M:List Ch) (h:Mem W M) (hM:M[5]?=some (AD (AO ls)))=>(HLR.out W M h hM).at_cell (Bk hx))
      obtain ⟨z,hz⟩:∃ z,z=wrap64 (x-y):=⟨_,rfl⟩
      have hw1:wrap64 (x-y)=z:=hz.symm;have hw2:IntKind.i64.wrap (x-y)=z:=by rw [hz,IntKind.wrap_i64];unfold wrap64;omega
      rw [hw1] at he;have HZ:=K1 (show zC ((Adn (i+1)).map E)=zC ((Adn i).map E)++[U O z] by rw [Adr];simp [he]);have gi:(0:Int)<=(i:Int)/\(i:Int)<(ny:Int):=by omega
      clear hx hy he hz;go_wp2_with fail;refine A9 fun W0 hW=>?_;replace HM:=K1 (hW.out.symm ▸ HM.out);clear hW;refine AC (.reads [0,1,2,3,4,5,6,7,8,9,10,11,12] (.eff 13 (.eff 14 (.reads [15] (.fin))))) 16 (fun W'=>W'.cell? ⟨bo,oo+k,none⟩=some (Us (some ⟨bl,ol,none⟩) ny lc)/\W'.cell? ⟨bl,ol+i,none⟩=some (U O x)/\W'.cell? ⟨by_,oy+i,none⟩=some (U O y)) ?_;replace HM:=K1 HM.out.drew;generalize W0.drew=V at *;refine PlS.rd_ ⟨HM.out.rdAt 3 rfl HLV.out,QX.out _ _ HM.out rfl,HM.out.rdAt 4 rfl GY.out⟩ ?_;refine Adt ?_;go_wp2_with fail;refine AH fun W7 hW=>?_;replace HM:=K1 (HM.out.alloc_ hW.out)
      clear hW;refine Adu ⟨HM.out.rdAt 3 rfl HLV.out,QX.out _ _ HM.out rfl,HM.out.rdAt 4 rfl GY.out⟩ ?_;refine Adt ?_;refine AQ (n:=i) rfl _ _ 26 rfl HM.out 7 DQ rfl rfl _ 1 _ [U O z] rfl (HM.out.box 8 rfl) rfl (by intro u hu;simp at hu;subst hu;rfl) (by omega) ?_;intro AP' cP' W8 hM8;replace HM:=K1 (show Mem W8 [.bel g0 w,.rd As (zC (AX ns)),.rd Ap (zC ps),.rd (some ⟨bo,oo,none⟩) (AK ls),.rd (some ⟨by_,oy,none⟩) (zC ys),AD (AO ls),.obj g0 (.cells #[Us As m cs,Us Ap P cp,U O q] 178 (0,0)),.own g0 2 1 (Us AP' (i+1) cP') (i+1) (zC ((Adn i).map E)++[U O z])] from hM8.front 8);clear hM8
      go_wp2_with fail;refine Adu ⟨HM.out.rdAt 3 rfl HLV.out,QX.out _ _ HM.out rfl,HM.out.rdAt 4 rfl GY.out⟩ ?_;refine PlS.rc_ ⟨HM.out.rdAt 3 rfl HLV.out,QX.out _ _ HM.out rfl,HM.out.rdAt 4 rfl GY.out⟩ ?_;refine PlS.fin_ ?_;go_wp2_with fail;go_roundw
      case rel=>exact ⟨i+1,AP',cP',by omega,rfl,by go_num,K1 (by unfold vOwn;rw [HZ.out];exact HM.out)⟩
      case measure=>simp [intOf];omega
    . have hin:i=ny:=by omega
      subst hin;go_wp2_with fail;go_ret;rw [HG0.out];exact ⟨Az,cz,rfl,HM.out.pick [0,7] _ rfl (by decide)⟩
 | succ d ih =>
   intro k w hk h hv hY a ha;have h16:=h.few;have hoa:=hv.ok.len;have HM:=K1 (((((((Mem.start w).add_rd (i:=0) rfl h.sz).add_rd (i:=0) rfl h.pr).add_rd (i:=0) rfl hv.vals).add_rd (i:=0) rfl hY).fam_add rfl hv.fam).alloc (.cells #[Us As m cs,Us Ap P cp,U O q] 178));obtain ⟨l,hl,hlv,hlc⟩:=hv.ok.at_ (show k<m by omega);have hll:l.v.length=a:=by rw [hlv,hv.len k,ha];rfl
   have hwl:=hv.bd k;rw [<- hlv] at hwl;have HLV:=K1 (show (AK ls)[k]?=some (Us l.A a l.c) by simp [AK,hl,hll]);have HLR:=K1 (show ∀ (W:World) (M:List Ch),Mem W M->M[5]?=some (AD (AO ls))->Rd W W.heap.size l.A (zC l.v) from fun W M h hM=>h.famRd (j:=k) hM (by simp [AO,hl]));obtain ⟨bo,oo,rfl⟩:=HM.out.rdA 3 rfl (by simp [AK];omega);have hpos:=h.ok.pos a (Adw ha);obtain ⟨a0,b,ha0,hb,h1a,h1b,_,_,h3a,h3b,_⟩:=h.ok.at_ (k:=k) (by rw [h.len];omega);rw [ha] at ha0;injection ha0 with ha0
   subst ha0;have HI:=K1 (fun W (hw:Below w.heap.size w W)=>ih (k+1) W (by omega) (h.below hw) (hv.below hw) ((hY.below hw).more hw.size) b hb);have CW:=K1 (fun W r c (hw:Below w.heap.size w W) (hr:r<b) (hc:c<a)=>Mv W m P cs cp q As Ap ns ps (h.below hw) k r c a b (by omega) ha hb hr hc);have HWI:=K1 (fun r c=>show -9223372036854775808<=wAt ns ps k r c/\wAt ns ps k r c<=9223372036854775807 from Gx h.bd _);have CM:=K1 (fun W x y hx hy=>Ge W x y q h.sh hx hy);have hq:(q:Int)<=62:=by have:=h.sh;omega
   have CL:=K1 (fun W=>Il W m P cs cp q As Ap (by omega));have h1k:m-1=n1:=by omega
   rw [h1k] at CL;have hkd:n1-(d+1)=k:=by omega
   have hkd1:n1-d=k+1:=by omega
   have hnxl:=J5 (ns:=ns) (ps:=ps) (q:=q) (n1:=n1) (f:=f) (ys:=ys) (by rw [hyl,hny];rfl) d;rw [hkd1,hb] at hnxl;dsimp only [Adx] at hnxl;have hnxi:=M1 ns ps q n1 f ys d;have hrs:rerr ns ps q n1 f ys (d+1)=(Adn a).map fun c=>Dr (l.v[c]?.getD 0) (rcol ns ps q k c (rerr ns ps q n1 f ys d) b):=by rw [rerr,hkd,hkd1,ha,hb,hlv];rfl
   rw [hrs];generalize rerr ns ps q n1 f ys d=nx at *;have HX:=K1 (Ads hnxl hnxi)
   obtain ⟨G,hG⟩:∃ G:Nat->Nat->Int,G=fun c r=>rcol ns ps q k c nx r:=⟨_,rfl⟩
   have HG1:=K1 (show ∀ c,G c 0=0 by intro c;rw [hG];rfl);have HG2:=K1 (show ∀ c r x,nx[r]?=some x->G c (r+1)=wrap64 (G c r+mulF (wAt ns ps k r c) x q) by intro c r x hx;rw [hG];simp only [rcol,hx,Adx])
   obtain ⟨E,hE⟩:∃ E:Nat->Int,E=fun c=>Dr (l.v[c]?.getD 0) (rcol ns ps q k c nx b):=⟨_,rfl⟩
   rw [<- hE];have HE:=K1 (show ∀ c x,l.v[c]?=some x->Dr x (G c b)=E c by intro c x hx;rw [hE,hG];simp only [hx,Adx]);have HL:=K1 hll;have gk:((k:Int) == (n1:Int))=false:=beq_eq_false_iff_ne.2 (by omega)
   obtain ⟨k1,hk1⟩:∃ k1,k1=k+1:=⟨_,rfl⟩
   have gk1:(k:Int)+1=(k1:Int):=by omega
   have gk2:(0:Int)<=(k:Int)/\(k:Int)<(m:Int):=by omega
   rw [<- hk1] at HI;have wk:IntKind.i64.wrap (k1:Int)=(k1:Int):=IntWalk.i64_in _ (by omega);have GA:=K1 (Bk (Dp ha));obtain ⟨bs,os,rfl⟩:=HM.out.rdA 1 rfl (by simp;have:=h.len;omega);have HWf:=K1 (rfl:True=True)
   obtain ⟨wf,hwf⟩:∃ g:Nat->Nat->Int,g=fun r c=>wAt ns ps k r c:=⟨_,rfl⟩
   have HWW:=K1 (show ∀ r c,wAt ns ps k r c=wf r c by intro r c;rw [hwf]);generalize l.A=lA at *;generalize l.c=lc at *;generalize l.v=lv at *;clear hk1 hn1 h1k;clear h hv hY hE hG hlv hl hny hyl hll hoa hwl hlc hk hkd hkd1 hnxl hnxi hrs ha hb ih hwf HWf;go_enter Tryz.func120,Tryz.ntmps120;have c6:=HM.out.cells 6 rfl;go_wp2_with fail;refine (CL.out _).mono ?_;rintro e w3 ⟨rfl,hb3⟩;replace HM:=K1 (HM.out.below hb3);clear hb3 c6 CL;have c6:=HM.out.cells 6 rfl;go_wp2_with fail;refine (HI.out _ (HM.out.bel 0 rfl)).mono ?_;rintro e w4 ⟨An,cn,rfl,hMn⟩
   replace HM:=K1 (HM.out.push_rd (hMn.bel 0 rfl) (AJ (hMn.own 1 rfl)) (AF (hMn.own 1 rfl)));clear hMn HI c6;obtain ⟨bn,on,rfl⟩:=HM.out.rdA 7 rfl (by simp;have:=HX.out.1;omega);have hm8:=HM.out.add (c:=.own w.heap.size 2 1 (Us none 0 0) 0 (zC ((Adn 0).map E))) ⟨Bh _ _ _ _,(HM.out.bel 0 rfl).size⟩ (fun _ _ _ _ g hg=>by cases hg);have HM8:=K1 hm8;clear hm8 HM;go_wp2_with fail;generalize hg0:w.heap.size=g0 at *;have HG0:=K1 hg0;clear hg0
   go_loopw [9,12] (fun s9 s12 wr=>∃ (c:Nat) (Az:Option Addr) (cz:Nat),c<=a/\s9=Us Az c cz/\s12=U O c/\Hid (Mem wr [.bel g0 w,.rd (some ⟨bs,os,none⟩) (zC (AX ns)),.rd Ap (zC ps),.rd (some ⟨bo,oo,none⟩) (AK ls),.rd Y (zC ys),AD (AO ls),.obj g0 (.cells #[Us (some ⟨bs,os,none⟩) m cs,Us Ap P cp,U O q] 178 (0,0)),.rd (some ⟨bn,on,none⟩) (zC nx),vOwn g0 c cz Az ((Adn c).map E)])) (fun _ s12 _=>a-(intOf s12).toNat)
   case atStart=>exact ⟨0,none,0,Adq _,rfl,rfl,HM8⟩
   case round =>
    clear HM8;obtain ⟨c,Az,cz,hc,rfl,rfl,HM⟩:=hrel;have c6:=HM.out.cells 6 rfl;have c1:=HM.out.rdAt 1 rfl GA.out
    by_cases hlt:c<a
    . go_wp2_with fail;clear c6 c1;have hG0:=HG1.out c
      go_loopw [13,14] (fun s13 s14 wr=>∃ (r:Nat),r<=b/\s13=U O (G c r)/\s14=U O r/\Hid (Mem wr [.bel g0 w,.rd (some ⟨bs,os,none⟩) (zC (AX ns)),.rd Ap (zC ps),.rd (some ⟨bo,oo,none⟩) (AK ls),.rd Y (zC ys),AD (AO ls),.obj g0 (.cells #[Us (some ⟨bs,os,none⟩) m cs,Us Ap P cp,U O q] 178 (0,0)),.rd (some ⟨bn,on,none⟩) (zC nx),vOwn g0 c cz Az ((Adn c).map E)])) (fun _ s14 _=>b-(intOf s14).toNat)
      case atStart=>exact ⟨0,Adq _,by rw [hG0],rfl,HM⟩
      case round =>
       clear HM hG0;obtain ⟨r,hr,rfl,rfl,HM⟩:=hrel
       by_cases hrb:r<b
       . obtain ⟨x,hx⟩:=Au nx r (by have:=HX.out.1;omega);have hxi:=HX.out.2 x (Adw hx);have GV:=K1 (Bk hx);have E2:=K1 (HG2.out c r x hx);have hwi:=HWI.out r c;have CWc:=K1 (fun W hw=>CW.out W r c hw hrb hlt);rw [HWW.out r c] at E2 hwi CWc;have CMc:=K1 (fun W=>CM.out W (wf r c) x hwi hxi)
         obtain ⟨p,hp⟩:∃ p,p=mulF (wf r c) x q:=⟨_,rfl⟩
         rw [<- hp] at E2 CMc;clear hp hwi hxi hx
         obtain ⟨z,hz⟩:∃ z,z=wrap64 (G c r+p):=⟨_,rfl⟩
         have hz1:wrap64 (G c r+p)=z:=hz.symm;have hz2:IntKind.i64.wrap (G c r+p)=z:=by rw [hz,IntKind.wrap_i64];unfold wrap64;omega
         rw [hz1] at E2;clear hz;have b1:(0:Int)<=(r:Int)/\(r:Int)<(b:Int):=by omega
         generalize wf r c=wc at *;go_wp2_with fail;refine A9 fun W0 hW=>?_;replace HM:=K1 (hW.out.symm ▸ HM.out);clear hW;refine AC (.reads [0,1,2,3,4,6,7,8,9,10,11] (.eff 5 (.eff 12 (.reads [13,14] (.fin))))) 15 (fun W'=>(∀ j,W'.cell? ⟨g0,j,none⟩=([Us (some ⟨bs,os,none⟩) m cs,Us Ap P cp,U O q]:List Value)[j]?)/\W'.cell? ⟨bn,on+r,none⟩=some (U O x)) ?_;replace HM:=K1 HM.out.drew;generalize W0.drew=V at *;refine PlS.rd_ ⟨HM.out.cells 6 rfl,HM.out.rdAt 7 rfl GV.out⟩ ?_;refine Adt ?_;go_wp2_with fail;refine (CWc.out _ (HM.out.bel 0 rfl)).mono ?_;rintro e w2 ⟨rfl,hb2⟩
         replace HM:=K1 (HM.out.below hb2);clear hb2 CWc;go_wp2_with fail;refine Adu ⟨HM.out.cells 6 rfl,HM.out.rdAt 7 rfl GV.out⟩ ?_;refine Adt ?_;go_wp2_with fail;refine (CMc.out _).mono ?_;rintro e w3 ⟨rfl,rfl⟩;clear CMc;go_wp2_with fail;refine Adu ⟨HM.out.cells 6 rfl,HM.out.rdAt 7 rfl GV.out⟩ ?_;refine PlS.rc_ ⟨HM.out.cells 6 rfl,HM.out.rdAt 7 rfl GV.out⟩ ?_;refine PlS.fin_ ?_;go_wp2_with fail;go_roundw
         case rel=>exact ⟨r+1,by omega,by rw [E2.out],by go_num,HM⟩
         case measure=>simp [intOf];omega
       . have hrb2:r=b:=by omega
         subst hrb2;obtain ⟨x,hx⟩:=Au lv c (by have:=HL.out;omega);obtain ⟨bl,ol,hlA,_,_⟩:=HLR.out _ _ HM.out rfl (by simp;have:=HL.out;omega);subst hlA;have qx:=(HLR.out _ _ HM.out rfl).at_cell (Bk hx);have qv:=HM.out.rdAt 3 rfl HLV.out;have HEc:=K1 (HE.out c x hx);have gc:(0:Int)<=(c:Int)/\(c:Int)<(a:Int):=by omega
         clear hx;go_wp2_with fail;refine (LI _ _ _).mono ?_;rintro e w4 ⟨rfl,rfl⟩;rw [show (if x<=0 then 0 else G c r)=Dr x (G c r) from rfl,HEc.out];clear qx qv;have HM3:=K1 (HM.out.alloc (.cells #[U O (E c)] 2))
         go_wp2_with (at_builtin;refine AQ (n:=c) rfl _ _ 26 rfl HM3.out 8 DQ rfl rfl _ 1 _ [U O (E c)] rfl (HM3.out.box 9 rfl) rfl (by intro u hu;simp at hu;subst hu;rfl) (by omega) ?_;intro AZ' cZ' W4 hM4;have HM4:=K1 (hM4.front 9);clear hM4 HM3)
         have HZ:=K1 (show zC ((Adn (c+1)).map E)=zC ((Adn c).map E)++[U O (E c)] by rw [Adr];simp);go_roundw
         case rel=>exact ⟨c+1,AZ',cZ',by omega,rfl,by go_num,K1 (by unfold vOwn;rw [HZ.out];exact HM4.out)⟩
         case measure=>simp [intOf];omega
    . have hin:c=a:=by omega
      subst hin;go_wp2_with fail;go_ret;rw [HG0.out];exact ⟨Az,cz,rfl,HM.out.pick [0,8] _ rfl (by decide)⟩
structure Plc where
 k:Int
 r:Int
 c:Int
theorem M4 {α:Type} (f:Nat->Nat->α) (a:Nat):∀ b:Nat,((Adn b).flatMap fun r=>(Adn a).map (f r)).length=b*a
 | 0=>by simp
 | b+1=>by
   rw [Adr,List.flatMap_append,Adp,M4 f a b];simp [Nat.succ_mul]
def J6 (p:Plc):List Value:=[U O p.k,U O p.r,U O p.c]
def Ds (l:List Plc):List Value:=l.flatMap J6
theorem M7 (l:List Plc) (p:Plc):Ds (l++[p])=Ds l++J6 p:=by simp [Ds]
def BB (k a r:Nat):List Plc:=(Adn r).flatMap fun (r:Nat)=>(Adn a).map fun (c:Nat)=>(⟨(k:Int),(r:Int),(c:Int)⟩:Plc)
def colP (k r c:Nat):List Plc:=(Adn c).map fun (c:Nat)=>(⟨(k:Int),(r:Int),(c:Int)⟩:Plc)
def Cr (k r:Nat):List Plc:=(Adn r).map fun (r:Nat)=>(⟨(k:Int),(r:Int),-1⟩:Plc)
theorem Sy (k a r:Nat):BB k a (r+1)=BB k a r++colP k r a:=by simp [BB,colP,Adr]
theorem M8 (k r c:Nat):colP k r (c+1)=colP k r c++[⟨(k:Int),(r:Int),(c:Int)⟩]:=by simp [colP,Adr]
theorem M9 (k r:Nat):Cr k (r+1)=Cr k r++[⟨(k:Int),(r:Int),-1⟩]:=by simp [Cr,Adr]
theorem J7 (k a r:Nat):(BB k a r).length=r*a:=M4 (fun (r c:Nat)=>(⟨(k:Int),(r:Int),(c:Int)⟩:Plc)) a r
theorem Sz (k r c:Nat):(colP k r c).length=c:=by simp [colP]
theorem MA (k r:Nat):(Cr k r).length=r:=by simp [Cr]
def plcN (ns:List Nat):Nat->List Plc
 | 0=>[]
 | m+1=>plcN ns m++BB m (ns[m]?.getD 0) (ns[m+1]?.getD 0)++Cr m (ns[m+1]?.getD 0)
theorem G0 (ns:List Nat):∀ m,(plcN ns m).length=offN ns m
 | 0=>rfl
 | m+1=>by rw [plcN,Adp,Adp,J7,MA,G0 ns m,Fm,midN]
def PlOk (ns:List Nat) (m:Nat) (p:Plc):Prop:=∃ k r:Nat,k<m/\p.k=k/\p.r=r/\r<ns[k+1]?.getD 0/\(p.c=-1\/∃ c:Nat,p.c=c/\c<ns[k]?.getD 0)
theorem J8 (ns:List Nat):∀ m,∀ p∈plcN ns m,PlOk ns m p
 | 0,p,h=>by cases h
 | m+1,p,h=>by
   rw [plcN,Ado] at h
   rcases List.mem_append.1 h with h | h
   . obtain ⟨k,r,hk,h1⟩:=J8 ns m p h;exact ⟨k,r,by omega,h1⟩
   . rcases List.mem_append.1 h with h | h
     . simp only [BB,List.mem_flatMap,List.mem_map,List.mem_range] at h;obtain ⟨r,hr,c,hc,rfl⟩:=h;exact ⟨m,r,by omega,rfl,rfl,hr,.inr ⟨c,rfl,hc⟩⟩
     . simp only [Cr,List.mem_map,List.mem_range] at h;obtain ⟨r,hr,rfl⟩:=h;exact ⟨m,r,by omega,rfl,rfl,hr,.inl rfl⟩
theorem S4 {w:World} {base e size n:Nat} {v:Value} {xs:List Value} (h:w.ownsRow base e size v n xs):∃ A c,v=Us A n c:=by
 rcases h.2 with ⟨hv,hn⟩ | ⟨g,cap,cur,hv,_⟩
 . exact ⟨none,0,by rw [hv,hn]⟩
 . exact ⟨_,cap,hv⟩
def OwnP (w:World) (B:Nat) (v:Value) (l:List Plc):Prop:=w.ownsRow B 230 3 v l.length (Ds l)
theorem S5:(Tryz.prog.info? 230).map (fun i=>(i.zero,i.size,i.bytes))=some (some (.agg #[U O 0,U O 0,U O 0]),3,24):=by kernel_rfl
theorem S6 (w:World) (A:Option Addr) (m cap:Nat) (ns:List Nat) (hr:Rd w w.heap.size A (zC (AX ns))) (hn:NsOk ns) (hm:ns.length=m) :
  Calls Tryz.prog 118 #[Us A m cap] w fun e w'=>∃ A c,e=.returned (Us A (offN ns (m-1)) c)/\w'.ownsRow w.heap.size 230 3 (Us A (offN ns (m-1)) c) (offN ns (m-1)) (Ds (plcN ns (m-1)))/\Below w.heap.size w w':=by
 obtain ⟨i0,hi,hz0,hz1,hz2⟩:=info_parts S5;have HI:=K1 (Ads hi (Ads hz0 (Ads hz1 hz2)));have h2:=hn.len;obtain ⟨b,off,rfl,hb,hcs⟩:=RdI.at_ (zs:=AX ns) hr (by simp;omega)
 have HZ:=K1 (show ∀ (k:Nat),k+1<m->∃ x y:Nat,ns[k]?=some x/\ns[k+1]?=some y/\(plcN ns k).length+(y*x+y)<=1048576/\x<=1048576/\y<=1048576/\(∀ W,Below w.heap.size w W->W.cell? ⟨b,off+k,none⟩=some (U O (x:Int))/\W.cell? ⟨b,off+(k+1),none⟩=some (U O (y:Int))) from fun k hk=>by
  obtain ⟨x,y,hx,hy,_,_,e1,e2,h3,h4,h5⟩:=hn.at_ (k:=k) (by omega);have h6:=hn.few;refine ⟨x,y,hx,hy,by rw [G0];omega,by omega,by omega,fun W hW=>⟨?_,?_⟩⟩
  . exact (hW.cell (p:=⟨b,off+k,none⟩) hb).trans (hcs k _ (Dp hx))
  . exact (hW.cell (p:=⟨b,off+(k+1),none⟩) hb).trans (hcs (k+1) _ (Dp hy)))
 have h16:(m:Int)<=16:=by omega
 have h2':(2:Int)<=(m:Int):=by omega
 have gm:2<=m/\m<=16:=by omega
 clear hn hm hr hcs hi hz0 hz1 hz2 h2;go_enter Tryz.func118,Tryz.ntmps118;go_wp2_with fail
 go_loopw [3,4] (fun v i wr=>∃ k:Nat,k+1<=m/\i=U O k/\Hid (OwnP wr w.heap.size v (plcN ns k))/\Hid (Below w.heap.size w wr)) (fun _ i _=>m-(intOf i).toNat)
 case atStart=>exact ⟨0,by omega,rfl,K1 (Bh w _ _ 3),K1 (Below.refl _ _)⟩
 case round =>
  obtain ⟨k,hk,rfl,HOk,HBk⟩:=hrel
  by_cases hlt:k+1<m
  . obtain ⟨x,y,hx,hy,hbd,hx2,hy2,hcell⟩:=HZ.out k hlt;have HCE:=K1 hcell;have HPK:=K1 (show plcN ns (k+1)=plcN ns k++BB k x y++Cr k y by rw [plcN,hx,hy];rfl);have hk1:(k:Int)+1<(m:Int):=by omega
    clear hcell hx hy;have HBD:=K1 hbd;clear hbd;have hx3:(x:Int)<=1048576:=by omega
    have hy3:(y:Int)<=1048576:=by omega
    go_wp2_with fail
    go_loopw [3,5] (fun v i wr=>∃ r:Nat,r<=y/\i=U O r/\Hid (OwnP wr w.heap.size v (plcN ns k++BB k x r))/\Hid (Below w.heap.size w wr)) (fun _ i _=>y-(intOf i).toNat)
    case atStart=>exact ⟨0,Adq _,rfl,K1 (by simpa [BB] using HOk.out),HBk⟩
    case round =>
     obtain ⟨r,hr,rfl,HOr,HBr⟩:=hrel;clear HOk HBk;obtain ⟨c1,c2⟩:=HCE.out _ HBr.out
     by_cases hry:r<y
     . go_wp2_with fail;clear c1 c2
       go_loopw [3,6] (fun v i wr=>∃ c:Nat,c<=x/\i=U O c/\Hid (OwnP wr w.heap.size v (plcN ns k++BB k x r++colP k r c))/\Hid (Below w.heap.size w wr)) (fun _ i _=>x-(intOf i).toNat)
       case atStart=>exact ⟨0,Adq _,rfl,K1 (by simpa [colP] using HOr.out),HBr⟩
       case round =>
        obtain ⟨c,hc,rfl,HOc,HBc⟩:=hrel;clear HOr HBr;obtain ⟨c1,c2⟩:=HCE.out _ HBc.out
        by_cases hcx:c<x
        . have HLN:=K1 (show (plcN ns k++BB k x r++colP k r c).length+1<=1048576 by
           have h1:=HBD.out;have h2:(r+1)*x<=y*x:=Nat.mul_le_mul_right _ hry;rw [Nat.succ_mul] at h2;simp only [Adp,J7,Sz]
           omega)
          have HNX:=K1 (show Ds (plcN ns k++BB k x r++colP k r (c+1))=Ds (plcN ns k++BB k x r++colP k r c)++[U O (k:Int),U O (r:Int),U O (c:Int)] by
           rw [M8,<- Ado,M7];rfl)
          have HNL:=K1 (show (plcN ns k++BB k x r++colP k r (c+1)).length=(plcN ns k++BB k x r++colP k r c).length+1 by rw [M8,<- Ado,Adp];rfl);have HN:=K1 (heap_alloc_new wr (.cells #[U O (k:Int),U O (r:Int),U O (c:Int)] 230));have HO1:=K1 (HOc.out.alloc (.cells #[U O (k:Int),U O (r:Int),U O (c:Int)] 230));have HB1:=K1 (HBc.out.alloc HBc.out.size (.cells #[U O (k:Int),U O (r:Int),U O (c:Int)] 230))
          go_wp2_with (at_builtin;refine wpList_append_own _ rfl _ _ 225 rfl w.heap.size 230 i0 (.agg #[U O 0,U O 0,U O 0]) 3 24 Tryz.underlying225 HI.out.1 HI.out.2.1 HI.out.2.2.1 HI.out.2.2.2 rfl (by decide) _ _ _ rfl HO1.out ⟨wr.heap.size,0,none⟩ 1 1 [U O (k:Int),U O (r:Int),U O (c:Int)] rfl rfl ?c1 ?c2 ?c3 ?c4 ?c5 ?_)
          case c1 =>
           intro j u hj;rw [Cg,Nat.zero_add,Ay HN.out]
           simpa using hj
          case c2=>intro u hu;simp at hu;rcases hu with rfl | rfl | rfl <;> rfl
          case c3=>have h:=HLN.out;unfold maxLen;omega
          case c4=>have h:=HLN.out;omega
          case c5=>have:=HBc.out.size;simp;omega
          intro v' w2 hown' hgrow _;have HB2:=K1 (F9 HB1.out (Adv _) (Adv _) HO1.out hgrow);have HO2:=K1 hown';clear hown' hgrow HB1 HO1 HN HOc HBc;go_wp2_with fail;go_roundw
          case rel=>exact ⟨c+1,by omega,by go_num,K1 (by unfold OwnP;rw [HNX.out,HNL.out];simpa [Ado,Nat.add_assoc] using HO2.out),HB2⟩
          case measure=>simp [intOf];omega
        . have hcx':c=x:=by omega
          subst hcx'
          have HOn:=K1 (show OwnP wr w.heap.size u3 (plcN ns k++BB k c (r+1)) by
           rw [Sy,<- Ado];exact HOc.out)
          have hcl:(c:Int)<=(c:Int):=Int.le_refl _;clear HOc;go_wp2_with fail;go_roundw
          case rel=>exact ⟨r+1,by omega,by go_num,HOn,HBc⟩
          case measure=>simp [intOf];omega
     . have hry':r=y:=by omega
       subst hry';go_wp2_with fail;clear c1 c2
       go_loopw [3,7] (fun v i wr=>∃ q:Nat,q<=r/\i=U O q/\Hid (OwnP wr w.heap.size v (plcN ns k++BB k x r++Cr k q))/\Hid (Below w.heap.size w wr)) (fun _ i _=>r-(intOf i).toNat)
       case atStart=>exact ⟨0,Adq _,rfl,K1 (by simpa [Cr] using HOr.out),HBr⟩
       case round =>
        obtain ⟨q,hq,rfl,HOc,HBc⟩:=hrel;clear HOr HBr;obtain ⟨c1,c2⟩:=HCE.out _ HBc.out
        by_cases hqy:q<r
        . have HLN:=K1 (show (plcN ns k++BB k x r++Cr k q).length+1<=1048576 by
           have h1:=HBD.out;simp only [Adp,J7,MA]
           omega)
          have HNX:=K1 (show Ds (plcN ns k++BB k x r++Cr k (q+1))=Ds (plcN ns k++BB k x r++Cr k q)++[U O (k:Int),U O (q:Int),U O (-1)] by
           rw [M9,<- Ado,M7];rfl)
          have HNL:=K1 (show (plcN ns k++BB k x r++Cr k (q+1)).length=(plcN ns k++BB k x r++Cr k q).length+1 by rw [M9,<- Ado,Adp];rfl);have HN:=K1 (heap_alloc_new wr (.cells #[U O (k:Int),U O (q:Int),U O (-1)] 230));have HO1:=K1 (HOc.out.alloc (.cells #[U O (k:Int),U O (q:Int),U O (-1)] 230));have HB1:=K1 (HBc.out.alloc HBc.out.size (.cells #[U O (k:Int),U O (q:Int),U O (-1)] 230))
          go_wp2_with (at_builtin;refine wpList_append_own _ rfl _ _ 225 rfl w.heap.size 230 i0 (.agg #[U O 0,U O 0,U O 0]) 3 24 Tryz.underlying225 HI.out.1 HI.out.2.1 HI.out.2.2.1 HI.out.2.2.2 rfl (by decide) _ _ _ rfl HO1.out ⟨wr.heap.size,0,none⟩ 1 1 [U O (k:Int),U O (q:Int),U O (-1)] rfl rfl ?c1 ?c2 ?c3 ?c4 ?c5 ?_)
          case c1 =>
           intro j u hj;rw [Cg,Nat.zero_add,Ay HN.out]
           simpa using hj
          case c2=>intro u hu;simp at hu;rcases hu with rfl | rfl | rfl <;> rfl
          case c3=>have h:=HLN.out;unfold maxLen;omega
          case c4=>have h:=HLN.out;omega
          case c5=>have:=HBc.out.size;simp;omega
          intro v' w2 hown' hgrow _;have HB2:=K1 (F9 HB1.out (Adv _) (Adv _) HO1.out hgrow);have HO2:=K1 hown';clear hown' hgrow HB1 HO1 HN HOc HBc;go_wp2_with fail;go_roundw
          case rel=>exact ⟨q+1,by omega,by go_num,K1 (by unfold OwnP;rw [HNX.out,HNL.out];simpa [Ado,Nat.add_assoc] using HO2.out),HB2⟩
          case measure=>simp [intOf];omega
        . have hqr:q=r:=by omega
          subst hqr;have HOn:=K1 (show OwnP wr w.heap.size u3 (plcN ns (k+1)) by rw [HPK.out];exact HOc.out);have hql:(q:Int)<=(q:Int):=Int.le_refl _;clear HOc;go_wp2_with fail;go_roundw
          case rel=>exact ⟨k+1,by omega,by go_num,HOn,HBc⟩
          case measure=>simp [intOf];omega
  . have hge:(m:Int)<=(k:Int)+1:=by omega
    have hkn:k=m-1:=by omega
    have HOn:=K1 (show OwnP wr w.heap.size u3 (plcN ns (m-1)) by rw [<- hkn];exact HOk.out);clear HOk hkn;go_wp2_with fail;go_ret;have ho:=HOn.out;unfold OwnP at ho;rw [G0] at ho;obtain ⟨A,c,hv⟩:=S4 ho;subst hv;exact ⟨A,c,rfl,ho,HBk.out⟩
end
end Go.Proofs.YtdpojpcoghcieaaGreat
