/- A part of the proof of TopSerial: Gradient. Conditions: none. -/
import Derived.Test.YtdpojpcoghcieaaGreatSdAV
set_option maxHeartbeats 8000000
namespace Go.Proofs.YtdpojpcoghcieaaGreat
open Lib renaming hid → K1
open List renaming filterMap_cons → p1, filterMap_nil → p2, getElem?_cons_zero → p3, getElem?_cons_succ → p4
open Go.RowKit
def gateTo (vs xs:List Int):Nat→List Int
 | 0=>xs
 | k+1=>(gateTo vs xs k).set k (if (vs[k]?.getD 0)≤0 then 0 else xs[k]?.getD 0)
theorem gateTo_len (vs xs:List Int):∀ k,(gateTo vs xs k).length=xs.length
 | 0=>rfl
 | k+1=>by rw [gateTo,List.length_set,gateTo_len vs xs k]
theorem gateTo_at (vs xs:List Int):∀ k j,k≤j→(gateTo vs xs k)[j]?=xs[j]?
 | 0,_,_=>rfl
 | k+1,j,h=>by rw [gateTo,List.getElem?_set_ne (by omega),gateTo_at vs xs k j (by omega)]
theorem gateTo_in {vs xs:List Int} (h:In64 xs):∀ k,In64 (gateTo vs xs k)
 | 0=>h
 | k+1=>by
   refine (gateTo_in h k).set _ ?_
   split
   · omega
   · cases hx:xs[k]? with
     | none=>simp
     | some x=>exact h.at_ hx
def gOut (ns:List Nat) (q:Nat) (lay:Nat→List Int) (k:Nat) (d out:List Int):List Int :=
 splice (splice out (offN ns k) (outTo d (lay k) q (ns[k]?.getD 0) (midN ns k-offN ns k) (ns[k+1]?.getD 0))) (midN ns k) d
def gD (ns:List Nat) (ps:List Int) (q:Nat) (lay:Nat→List Int) (k:Nat) (d:List Int):List Int :=
 gateTo (lay k) (backTo (subL ps (offN ns k) (midN ns k)) d (ns[k]?.getD 0) q (ns[k+1]?.getD 0)) (ns[k]?.getD 0)
def gradF (ns:List Nat) (ps:List Int) (q:Nat) (lay:Nat→List Int):Nat→List Int→List Int→List Int
 | 0,_,out=>out
 | k+1,d,out=>if k=0 then gOut ns q lay k d out else gradF ns ps q lay k (gD ns ps q lay k d) (gOut ns q lay k d out)
def gradL (ns:List Nat) (ps:List Int) (q:Nat) (xs ys:List Int):List Int :=
 gradF ns ps q (layL ns ps q xs) (ns.length-1) (subTo ys (layL ns ps q xs (ns.length-1)) (ns[ns.length-1]?.getD 0)) (zeroL (offN ns (ns.length-1)))
theorem gOut_len {ns:List Nat} {q:Nat} {lay:Nat→List Int} {k P:Nat} {d out:List Int} (ho:out.length=P) (h1:midN ns k+d.length≤P) (h2:offN ns k≤midN ns k):(gOut ns q lay k d out).length=P:=by
 unfold gOut
 rw [length_splice,length_splice,ho]
 · rw [outTo_len];omega
 · rw [length_splice _ _ _ (by rw [outTo_len];omega)];omega
theorem new_at {V W W':World} {o:Obj} (hW:W'=W.alloc o) (hs:V.heap.size≤W.heap.size):W'.heap[W.heap.size]?=some o∧V.heap.size≤W.heap.size:=⟨hW ▸ heap_alloc_new W o,hs⟩
theorem new_bel {W W':World} {o:Obj} (hW:W'=W.alloc o):Below W.heap.size W W':=hW ▸ (Below.refl _ _).alloc (Nat.le_refl _) o
theorem Mem.new2 {V W:World} {L:List Ch} {g1 g2:Nat} {o1 o2:Obj} (h:Mem V L) (hb:Below V.heap.size V W) (h1:W.heap[g1]?=some o1) (h2:W.heap[g2]?=some o2) (l1:V.heap.size≤g1) (l2:V.heap.size≤g2) (hne:g1≠g2):Mem W (L++[.obj g1 o1,.obj g2 o2]):=by
 have h3:=h.push (c:=.obj g1 o1) hb h1 (fun g hg=>by cases hg;exact l1)
 have h4:=h3.add (c:=.obj g2 o2) h2 (fun i d hi _ g hg hg2=>by
  cases hg
  rcases snoc_at hi with ⟨_,h3⟩ | ⟨_,rfl⟩
  · have:=Ch.lt (h.holds i d h3) hg2
    omega
  · exact hne (Eq.symm hg2))
 rw [List.append_assoc] at h4
 exact h4
def grP (w:World) (n co b gd cd P gz:Nat) (Ao:Option Addr) (ls:List Ly) (d out:List Int):List Ch :=
 [.bel w.heap.size w,vvO w.heap.size n co Ao (lyVals ls),famCh (lyFam ls),.own w.heap.size 2 1 (.slice (some ⟨gd,0,none⟩) b cd) b (zC d),.own w.heap.size 2 1 (.slice (some ⟨gz,0,none⟩) P P) P (zC out)]
theorem zC_splice (l o:List Int) (x:Nat):zC (splice l x o)=splice (zC l) x (zC o):=by simp [splice,List.map_take,List.map_drop]
theorem fld_V (r c:Int) (A:Option Addr) (n m:Nat) (W:World):(Instr.field 333 (.agg #[.int .i64 r,.int .i64 c,.slice A n m]) 2).run Tryz.prog W=.ok (.slice A n m) W:=by kernel_rfl
theorem size64:(Tryz.prog.info? 2).map (·.size)=some 1:=by kernel_rfl
set_option maxRecDepth 100000 in
theorem gradient_any (w:World) (gn gs q nx cx ny cy P:Nat) (ns:List Nat) (X Y:Option Addr) (ps xs ys:List Int) (h:NetIn w gn gs q ns ps) (hX:Rd w w.heap.size X (zC xs)) (hx:xs.length=nx) (hnx:ns[0]?=some nx) (h1:In64 xs)
  (hY:Rd w w.heap.size Y (zC ys)) (hy:ys.length=ny) (hny:ns[ns.length-1]?=some ny) (hP:P=offN ns (ns.length-1)) :
  Calls Tryz.prog 208 #[.pointer (some ⟨gn,0,none⟩),.slice X nx cx,.slice Y ny cy] w fun e w'=>∃ gz,e=.returned (.tuple #[.slice (some ⟨gz,0,none⟩) P P,.bool true])∧w'.ownsRow w.heap.size 2 1 (.slice (some ⟨gz,0,none⟩) P P) P (zC (gradL ns ps q xs ys))∧Below w.heap.size w w':=by
 have CMi:=K1 (miss_any w gn gs q nx cx ny cy ns X Y ps xs ys h hX hx hnx h1 hY hy hny)
 have HNI:=K1 (fun W (hb:Below w.heap.size w W)=>h.below hb)
 have HNO:=K1 h.ok
 have HPS:=K1 (And.intro h.ps h.q)
 obtain ⟨⟨w0,B,P0,cp,cl,Ap,As,Al,ms,hM,hMS,hp,hP0,hPc⟩,⟨flo,fhi,hF,hh⟩,hn,h2,hq⟩:=h
 rw [← hP] at hP0
 subst hP0
 have hP1000:P0≤1000:=hP ▸ hn.few
 have CF:=K1 (fun W (hb:Below w.heap.size w W)=>hF.below hh hb)
 have CN:=K1 (fun W hb=>formCount_any W flo fhi gs ns (CF.out W hb))
 have CL:=K1 (fun W hb=>formLinks_any W flo fhi gs ns (CF.out W hb))
 have CW:=K1 (fun W (hb:Below w.heap.size w W) k hk=>formWeights_any W flo fhi gs k ns (CF.out W hb) (Nat.le_trans hh hb.size) (by have:=hn.len;omega) hk)
 have CB:=K1 (fun W (hb:Below w.heap.size w W) k hk=>formBiases_any W flo fhi gs k ns (CF.out W hb) (Nat.le_trans hh hb.size) (by have:=hn.len;omega) hk)
 have HNT:=K1 (fun W (hb:Below w.heap.size w W)=>hM.below hb)
 have HGN:=K1 (fun W (hb:Below w.heap.size w W)=>(hM.below hb).cells 3 rfl)
 have HMS:=K1 hMS
 have HP:=K1 (And.intro hp (And.intro hP (And.intro hPc (And.intro h1 (And.intro hx hnx)))))
 have hmk:=run_make_vec P0 (by omega)
 have HG:=K1 (show gradL ns ps q xs ys=gradF ns ps q (layL ns ps q xs) (ns.length-1) (subTo ys (layL ns ps q xs (ns.length-1)) ny) (zeroL P0) by rw [gradL,hny,← hP];rfl)
 have hll:(layL ns ps q xs (ns.length-1)).length=ny:=by rw [layL_len ns ps q xs (by rw [hnx];exact hx),hny];rfl
 have HLI:=K1 (fun k=>layL_in ns ps q h1 k)
 have HLL:=K1 (fun k=>layL_len ns ps q xs (by rw [hnx];exact hx) k)
 have hl2:=hn.len
 have hmks:=hM.cells 3 rfl
 rw [← hP] at CN
 obtain ⟨n1,hn1⟩:∃ n1,n1=ns.length-1:=⟨_,rfl⟩
 have hnl:ns.length=n1+1:=by omega
 have HN1:=K1 (And.intro hn1 (And.intro hnl (show ns[n1]?=some ny by rw [hn1];exact hny)))
 rw [← hn1] at CL CW CB HG hll CMi
 rw [hnl] at CMi
 generalize gradL ns ps q xs ys=G at *
 obtain ⟨m0,hm0⟩:∃ m0,m0=n1-1:=⟨_,rfl⟩
 have hm0i:(n1:Int)-1=(m0:Int):=by omega
 have hm0b:m0≤15:=by omega
 have HM0E:=K1 (show m0+1=n1 by omega)
 have HDL:=K1 hll
 clear hM hMS hp hP hPc hF hn h2 hq h1 hX hx hnx hY hy hny hll hl2 hn1 hnl hm0 hmks
 go_enter Tryz.func208,Tryz.ntmps208
 go_wp2_with fail
 refine wp_scope_straight ?_
 go_wp2_with fail
 refine CMi.out.mono ?_
 rintro e w1 ⟨Ao,co,ls,gd,cd,rfl,hok,hm⟩
 have HOK:=K1 hok
 have HM:=K1 hm
 clear hok hm CMi
 have c0:=HGN.out _ (HM.out.bel 0 rfl)
 go_wp2_with fail
 refine (CN.out _ (HM.out.bel 0 rfl)).mono ?_
 rintro e w2 ⟨rfl,rfl⟩
 clear CN c0
 have hgz:=(HM.out.bel 0 rfl).size
 have hm2:=((HM.out.zero P0 (by omega)).lower (i:=4) rfl hgz).pick [0,1,2,3,4] (grP w (n1+1) co ny gd cd P0 w1.heap.size Ao ls (subTo ys (layL ns ps q xs n1) ny) (zeroL P0)) rfl (by decide)
 have c0:=HGN.out _ (hm2.bel 0 rfl)
 replace HM:=K1 hm2
 clear hm2 hgz
 go_wp2_with fail
 refine wp_label ?_
 apply_assumption
 go_wp2_with fail
 refine (CL.out _ (HM.out.bel 0 rfl)).mono ?_
 rintro e w2 ⟨rfl,rfl⟩
 clear CL c0
 generalize w1.heap.size=gz at *
 go_wp2_with fail
 have HG0:=K1 (show ∃ ny',ns[m0+1]?=some ny∧ny'=ny from ⟨ny,by rw [HM0E.out];exact HN1.out.2.2,rfl⟩)
 go_loopw [9,12] (fun s9 i wr=>∃ (k b gd cd:Nat) (d out:List Int),i=.int .i64 k∧s9=.slice (some ⟨gd,0,none⟩) b cd∧k≤15∧Hid (k<n1∧ns[k+1]?=some b∧d.length=b∧In64 d∧out.length=P0∧G=gradF ns ps q (layL ns ps q xs) (k+1) d out)∧Hid (Mem wr (grP w (n1+1) co b gd cd P0 gz Ao ls d out))) (fun _ i _=>(intOf i).toNat)
 case atStart=>exact ⟨m0,ny,gd,cd,_,_,rfl,rfl,hm0b,K1 ⟨by have:=HM0E.out;omega,by rw [HM0E.out];exact HN1.out.2.2,by rw [subTo_len];exact HDL.out,subTo_in (HLI.out n1) _,by simp,by rw [HM0E.out];exact HG.out⟩,HM⟩
 case round =>
  clear HM HG HG0 hm0i hm0b HM0E HDL
  obtain ⟨k,b,gd,cd,d,out,rfl,rfl,hk15,HK,HM⟩:=hrel
  have hlt:=HK.out.1
  obtain ⟨a,b',ha,hb',h1,h2,e1,e2,h3,h4,h5⟩:=HNO.out.at_ (by have:=HN1.out.1;omega:k<ns.length-1)
  obtain rfl:b'=b:=by have:=HK.out.2.1;rw [hb'] at this;injection this
  obtain ⟨m,hm,hmk⟩:=lk_at (ms:=ms) (n:=n1) (k:=k) (by rw [HN1.out.1];exact HMS.out.1) hlt
  have hmc:=HMS.out.2 m (List.mem_of_getElem? hm)
  obtain ⟨bl,ol,hAl,hlk⟩:=(HNT.out w (Below.refl _ _)).link hm
  have hlk2:=fun W hb=>((HNT.out W hb).link hm)
  have hfam:=fun W hb=>(HNT.out W hb).famRd (i:=5) (j:=k) (A:=m.A) (vs:=zC (subL ps (offN ns m.k) (midN ns m.k))) rfl (by simp [lkFam,hm])
  have hcells:lkC ns Ap cp m=[.int .i64 b',.int .i64 a,.slice m.A (midN ns k-offN ns k) m.c,.slice (Ap.map fun p=>p.add (midN ns k)) (offN ns (k+1)-midN ns k) (cp-midN ns k)]:=by
   unfold lkC;rw [hmk,ha,hb'];rfl
  rw [hmk] at hmc hfam
  obtain ⟨⟨lA,lc,lv⟩,hl,hlv,hlc⟩:=HOK.out.at_ (show k<n1+1 by omega)
  dsimp only at hlv hlc
  have hll:lv.length=a:=by rw [hlv,HLL.out k,ha];rfl
  have hli:In64 lv:=by rw [hlv];exact HLI.out k
  have hba:=Nat.mul_le_mul h2 h1
  rw [← HP.out.2.1] at h5
  have hGK:G=if k=0 then gOut ns q (layL ns ps q xs) k d out else gradF ns ps q (layL ns ps q xs) k (gD ns ps q (layL ns ps q xs) k d) (gOut ns q (layL ns ps q xs) k d out):=HK.out.2.2.2.2.2
  have hgO:gOut ns q (layL ns ps q xs) k d out=splice (splice out (offN ns k) (outTo d lv q a (midN ns k-offN ns k) b')) (midN ns k) d:=by unfold gOut;rw [ha,hb',← hlv];rfl
  have hgD:gD ns ps q (layL ns ps q xs) k d=gateTo lv (backTo (subL ps (offN ns k) (midN ns k)) d a q b') a:=by unfold gD;rw [ha,hb',← hlv];rfl
  have CWk:=K1 (fun W hb=>CW.out W hb k hlt)
  have CBk:=K1 (fun W hb=>CB.out W hb k hlt)
  rw [hgO] at hGK
  rw [hgD] at hGK
  generalize hx:offN ns k=x at *
  generalize hy:midN ns k=y at *
  generalize hz:offN ns (k+1)=z at *
  have hxy:x<y:=by omega
  have hyz:y<z:=by omega
  have hyps:y≤ps.length:=by have:=HP.out.1;omega
  have hnn:y-x=b'*a:=by omega
  have CO:=K1 (fun (W:World) (hD:Rd W W.heap.size (some ⟨gd,0,none⟩) (zC d)) (hL:Rd W W.heap.size lA (zC lv))=>outer_any W b' a (y-x) q cd lc (some ⟨gd,0,none⟩) lA d lv ⟨h2,by omega⟩ ⟨h1,by omega⟩ hnn (by omega) hD hL HK.out.2.2.1 hll HK.out.2.2.2.1 hli HPS.out.2)
  have CBa:=K1 (fun (W:World) (hb:Below w.heap.size w W) (hD:Rd W W.heap.size (some ⟨gd,0,none⟩) (zC d))=>matBack_any W b' a (y-x) m.c q cd m.A (some ⟨gd,0,none⟩) (subL ps x y) d ⟨h2,by omega⟩ ⟨h1,by omega⟩ hnn (by omega) hmc (hfam W hb) hD (subL_len (by omega) hyps) HK.out.2.2.1 (HPS.out.1.sub _ _) HK.out.2.2.2.1 HPS.out.2)
  have HL:=K1 (And.intro hlv (And.intro hll (And.intro hlc (And.intro hl hli))))
  have HGK:=K1 hGK
  have HOL:=K1 (And.intro HK.out.2.2.2.2.1 (And.intro HK.out.2.2.1 (And.intro hb' ha)))
  have HLC:Hid (∀ W,Below w.heap.size w W→∀ i v,([.int .i64 b',.int .i64 a,.slice m.A (y-x) m.c,.slice (Ap.map fun p=>p.add y) (z-y) (cp-y)]:List Value)[i]?=some v→W.cell? ⟨bl,ol+k*4+i,none⟩=some v):=K1 (fun W hb i v hv=>by
   obtain ⟨bl',ol',e,h⟩:=hlk2 W hb
   rw [hAl] at e
   injection e with e
   injection e with e1 e2
   subst e1;subst e2
   rw [hcells] at h
   exact h i v hv)
  subst hAl
  have hzP:z≤P0:=h5
  have hxyl:x≤y:=by omega
  have hyzl:y≤z:=by omega
  have hzb:z≤1000:=by omega
  have hyx:¬ y=x:=by omega
  have hzy:¬ z=y:=by omega
  have hzyb:z-y=b':=by omega
  have hkn:k<n1:=hlt
  have hkn1:k<n1+1:=by omega
  have hkni:(k:Int)<(n1:Int)+1:=by omega
  have hkl:k<ns.length-1:=by have:=HN1.out.1;omega
  have hlb:ns.length-1≤15:=by have:=HNO.out.len;omega
  have hyP:y≤P0:=by omega
  clear hx hy hz ha hb' e1 e2 hm hmk hlk hlk2 hfam hcells hmc hl hlv hlc hll hli hba hGK hgO hgD CW CB hnn hyps HK
  obtain ⟨go,rfl⟩:=HM.out.ownA 1 rfl (by omega)
  have HLV:=K1 (show (lyVals ls)[k]?=some (.slice lA a lc) by simp [lyVals,HL.out.2.2.2.1,HL.out.2.1])
  have HLK:=K1 (show ∀ (W:World) (M:List Ch),Mem W M→M[1]?=some (vvO w.heap.size (n1+1) co (some ⟨go,0,none⟩) (lyVals ls))→W.cell? ⟨go,k,none⟩=some (.slice lA a lc) from fun W M h hM=>((h.own 1 hM).cellAt k (by omega)).trans HLV.out)
  have HLR:=K1 (show ∀ (W:World) (M:List Ch),Mem W M→M[2]?=some (famCh (lyFam ls))→Rd W W.heap.size lA (zC lv) from fun W M h hM=>h.famRd (j:=k) hM (by simp [lyFam,HL.out.2.2.2.1]))
  go_wp2_with fail
  go_cut [13,14] from 41 to 117 (fun s13 s14 W=>∃ (g13 g14:Nat),s13=.pointer (some ⟨g13,0,none⟩)∧s14=.pointer (some ⟨g14,0,none⟩)∧Hid (Mem W (grP w (n1+1) co b' gd cd P0 gz (some ⟨go,0,none⟩) ls d out++[.obj g13 (.cells #[.int .i64 x,.int .i64 y] 47 (0,0)),.obj g14 (.cells #[.int .i64 y,.int .i64 z] 47 (0,0))])))
  case rest =>
   have hfld:=fld_V
   obtain ⟨g13,g14,rfl,rfl,HMr⟩:=hcut
   clear HM CWk CBk
   go_wp2_with fail
   refine wp_region_stage (.reads [0,1,2,3,4,5,6,7,8,9,10,11,12,13,14] (.eff 15 (.reads [16] (.eff 17 (.fin))))) 18
    (fun W'=>(∀ i,W'.cell? ⟨g13,i,none⟩=([.int .i64 x,.int .i64 y]:List Value)[i]?)∧W'.cell? ⟨go,k,none⟩=some (.slice lA a lc)∧(∀ i,W'.cell? ⟨gn,i,none⟩=([.pointer (some ⟨gs,0,none⟩),.slice Ap P0 cp,.int .i64 q,.slice (some ⟨bl,ol,none⟩) (ns.length-1) cl]:List Value)[i]?))
    (by kernel_rfl) (by kernel_rfl) (by intro d v c a w h;cases d <;> exact h) ?_
   replace HMr:=K1 HMr.out.drew
   refine PlS.reads_ ⟨HMr.out.cells 5 rfl,HLK.out _ _ HMr.out rfl,HGN.out _ (HMr.out.bel 0 rfl)⟩ (by kernel_rfl) ?_
   simp only [pickO,p1,p2,p3,p4]
   apply Exists.intro
   apply And.intro
   · intro W' hS
     obtain ⟨s1,s2,s3⟩:=hS
     repeat still_step
     exact wpStill_nil rfl
   refine PlS.eff_ ?_
   simp only [pickO,p1,p2,p3,p4]
   go_wp2_with fail
   refine (CO.out _ (rd_of_own (HMr.out.own 3 rfl)) (HLR.out _ _ HMr.out rfl)).mono ?_
   rintro e w8 ⟨g2,rfl,ho,hb⟩
   replace HMr:=K1 (HMr.out.push_rd hb (rd_of_own ho) (own_from_base ho))
   clear ho hb CO
   go_wp2_with fail
   refine After.go ⟨HMr.out.cells 5 rfl,HLK.out _ _ HMr.out rfl,HGN.out _ (HMr.out.bel 0 rfl)⟩ ?_
   refine PlS.reads_ ⟨HMr.out.cells 5 rfl,HLK.out _ _ HMr.out rfl,HGN.out _ (HMr.out.bel 0 rfl)⟩ (by kernel_rfl) ?_
   simp only [pickO,p1,p2,p3,p4]
   apply Exists.intro
   apply And.intro
   · intro W' hS
     repeat still_step
     exact wpStill_nil rfl
   refine PlS.eff_ ?_
   simp only [pickO,p1,p2,p3,p4]
   refine wpList_copy_mem rfl _ _ 87 87 rfl 2 Tryz.underlying87 size64 HMr.out 4 (lo:=x) rfl (some ⟨g2,0,none⟩) (y-x) _ _ rfl rfl (HMr.out.rd 7 rfl) (by rw [zC_len,outTo_len]) (by omega) (by omega) (zC_one _) ?_
   intro w9 hM9
   rw [← zC_splice] at hM9
   replace HMr:=K1 (hM9.front 7)
   clear hM9
   have HOS:=K1 (show (splice out x (outTo d lv q a (y-x) b')).length=P0 by rw [length_splice,HOL.out.1];rw [outTo_len,HOL.out.1];omega)
   generalize splice out x (outTo d lv q a (y-x) b')=out1 at *
   go_wp2_with fail
   refine After.go ⟨HMr.out.cells 5 rfl,HLK.out _ _ HMr.out rfl,HGN.out _ (HMr.out.bel 0 rfl)⟩ (PlS.fin_ ?_)
   have c14:=HMr.out.cells 6 rfl
   have HO2:=K1 (show (splice out1 y d).length=P0 by rw [length_splice,HOS.out];rw [HOL.out.2.1,HOS.out];omega)
   by_cases hk0:k=0
   · subst hk0
     have HGE:=K1 (HGK.out.trans (if_pos rfl))
     clear HGK CBa HLC HLR HLK HLV
     obtain ⟨w10,hrun,hM10⟩:=run_copy_mem (P:=Tryz.prog) (ys:=zC d) 87 87 3 2 Tryz.underlying87 size64 HMr.out 4 (lo:=y) rfl (some ⟨gd,0,none⟩) b' (P0-y) cd (rd_of_own (HMr.out.own 3 rfl)) (by rw [zC_len];exact HOL.out.2.1) (by omega) (by omega) (zC_one _)
     rw [← zC_splice] at hM10
     have HM9:=K1 hM10
     clear hM10 HMr
     go_wp2_with fail
     go_ret2
     rw [HGE.out]
     exact ⟨gz,rfl,HM9.out.own 4 rfl,HM9.out.bel 0 rfl⟩
   · have HGE:=K1 (HGK.out.trans (if_neg hk0))
     clear HGK
     obtain ⟨w10,hrun,hM10⟩:=run_copy_mem (P:=Tryz.prog) (ys:=zC d) 87 87 3 2 Tryz.underlying87 size64 HMr.out 4 (lo:=y) rfl (some ⟨gd,0,none⟩) b' (P0-y) cd (rd_of_own (HMr.out.own 3 rfl)) (by rw [zC_len];exact HOL.out.2.1) (by omega) (by omega) (zC_one _)
     rw [← zC_splice] at hM10
     have HM9:=K1 hM10
     clear hM10 HMr
     go_wp2_with fail
     clear hrun c14
     obtain ⟨k1,hk1⟩:∃ k1,k=k1+1:=⟨k-1,by omega⟩
     have hk1i:(k:Int)-1=(k1:Int):=by omega
     have HK1:=K1 hk1
     clear hk1
     refine wp_region_stage (.reads [0,1,2,3,4,5,6,7,8,9,10,11,12] (.eff 13 (.reads [14,15,16,17] (.fin)))) 18
      (fun W'=>(∀ i,W'.cell? ⟨gn,i,none⟩=([.pointer (some ⟨gs,0,none⟩),.slice Ap P0 cp,.int .i64 q,.slice (some ⟨bl,ol,none⟩) (ns.length-1) cl]:List Value)[i]?)∧W'.cell? ⟨bl,ol+k*4,none⟩=some (.int .i64 b')∧W'.cell? ⟨bl,ol+k*4+1,none⟩=some (.int .i64 a)∧W'.cell? ⟨bl,ol+k*4+2,none⟩=some (.slice m.A (y-x) m.c))
      (by kernel_rfl) (by kernel_rfl) (by intro d v c a w h;cases d <;> exact h) ?_
     have HM10:=K1 HM9.out.drew
     clear HM9
     refine PlS.reads_ ⟨HGN.out _ (HM10.out.bel 0 rfl),(by have:=HLC.out _ (HM10.out.bel 0 rfl) 0 _ rfl;rwa [Nat.add_zero] at this),HLC.out _ (HM10.out.bel 0 rfl) 1 _ rfl,HLC.out _ (HM10.out.bel 0 rfl) 2 _ rfl⟩ (by kernel_rfl) ?_
     simp only [pickO,p1,p2,p3,p4]
     apply Exists.intro
     apply And.intro
     · intro W' hS
       obtain ⟨s1,s2,s3,s4⟩:=hS
       repeat still_step
       exact wpStill_nil rfl
     refine PlS.eff_ ?_
     simp only [pickO,p1,p2,p3,p4]
     go_wp2_with fail
     refine (CBa.out _ (HM10.out.bel 0 rfl) (rd_of_own (HM10.out.own 3 rfl))).mono ?_
     rintro e w11 ⟨g2,rfl,ho,hb⟩
     have hg3:=(HM10.out.bel 0 rfl).size
     have HM11:=K1 ((HM10.out.push_own hb ho rfl).lower (i:=7) rfl hg3)
     clear ho hb CBa hg3 HM10
     go_wp2_with fail
     refine After.go ⟨HGN.out _ (HM11.out.bel 0 rfl),(by have:=HLC.out _ (HM11.out.bel 0 rfl) 0 _ rfl;rwa [Nat.add_zero] at this),HLC.out _ (HM11.out.bel 0 rfl) 1 _ rfl,HLC.out _ (HM11.out.bel 0 rfl) 2 _ rfl⟩ ?_
     refine PlS.reads_ ⟨HGN.out _ (HM11.out.bel 0 rfl),(by have:=HLC.out _ (HM11.out.bel 0 rfl) 0 _ rfl;rwa [Nat.add_zero] at this),HLC.out _ (HM11.out.bel 0 rfl) 1 _ rfl,HLC.out _ (HM11.out.bel 0 rfl) 2 _ rfl⟩ (by kernel_rfl) ?_
     simp only [pickO,p1,p2,p3,p4]
     apply Exists.intro
     apply And.intro
     · intro W' hS
       repeat still_step
       exact wpStill_nil rfl
     refine PlS.fin_ ?_
     have HBK:=K1 (And.intro (backTo_len (subL ps x y) d a q b') (backTo_in (subL ps x y) d a q b'))
     have HM12:=K1 (HM11.out.pick [0,1,2,7,4] (grP w (n1+1) co a g2 a P0 gz (some ⟨go,0,none⟩) ls (gateTo lv (backTo (subL ps x y) d a q b') 0) (splice out1 y d)) rfl (by decide))
     clear HM11
     have hlk:=HLK.out _ _ HM12.out rfl
     go_wp2_with fail
     generalize backTo (subL ps x y) d a q b'=bk at *
     clear hlk
     go_loopw [103] (fun i wr=>∃ j:Nat,j≤a∧i=.int .i64 j∧Hid (Mem wr (grP w (n1+1) co a g2 a P0 gz (some ⟨go,0,none⟩) ls (gateTo lv bk j) (splice out1 y d)))) (fun i _=>a-(intOf i).toNat)
     case atStart=>exact ⟨0,Nat.zero_le _,rfl,HM12⟩
     case round =>
      clear HM12
      obtain ⟨j,hj,rfl,HM⟩:=hrel
      by_cases hlt2:j<a
      · obtain ⟨v,hv⟩:=get_some lv j (by have:=HL.out.2.1;omega)
        obtain ⟨u,hu⟩:=get_some bk j (by have:=HBK.out.1;omega)
        obtain ⟨bL,oL,rfl,_,hcl⟩:=HLR.out _ _ HM.out rfl (by rw [zC_len];have:=HL.out.2.1;omega)
        have hc2:=hcl j _ (zC_at hv)
        have hc1:wr.cell? ⟨g2,j,none⟩=some (.int .i64 u):=((HM.out.own 3 rfl).cellAt j (by omega)).trans (zC_at ((gateTo_at lv bk j j (Nat.le_refl _)).trans hu))
        have HS:=K1 (show zC (gateTo lv bk (j+1))=(zC (gateTo lv bk j)).set j (.int .i64 (if v≤0 then 0 else u)) by rw [gateTo,zC_set,hv,hu];rfl)
        have HGA:=K1 (fun W=>gate_any W v u)
        have kf:=HM.out.ownF 3 rfl
        have hm3:=HM.out.setOwn (j:=j) (i:=3) rfl (.int .i64 (if v≤0 then 0 else u))
        rw [← HS.out] at hm3
        have HM3:=K1 hm3
        clear hm3 hv hu HM hcl
        generalize (if v≤0 then 0 else u)=p at *
        go_wp2_with fail
        refine (HGA.out _).mono ?_
        rintro e w5 ⟨rfl,rfl⟩
        go_wp2_with fail
        go_roundw
        case rel=>exact ⟨j+1,by omega,by go_num,HM3⟩
        case measure=>simp [intOf];omega
      · have hja:j=a:=by omega
        subst hja
        go_wp2_with fail
        refine ⟨⟨k1,j,g2,j,_,_,rfl,rfl,by omega,K1 ⟨by have:=HK1.out;omega,by rw [← HK1.out];exact HOL.out.2.2.2,by rw [gateTo_len];exact HBK.out.1,gateTo_in HBK.out.2 _,HO2.out,by rw [← HK1.out];exact HGE.out⟩,HM⟩,?_⟩
        have:=HK1.out
        simp [intOf]
        omega
  case first =>
   refine name_wp fun W0 hW0=>?_
   replace HM:=K1 (hW0.out.symm ▸ HM.out)
   clear hW0 CO CBa HLK HLR HLV HLC
   refine wp_region_stage (.reads [0,1,2,3,4,6,7,8,9,10] (.three 5 12 13 (.three 11 12 13 (.two 12 13 (.eff 13 (.eff 14 (.eff 15 (.fin)))) (.eff 12 (.eff 14 (.eff 15 (.fin))))) (.two 11 13 (.eff 13 (.eff 14 (.eff 15 (.fin)))) (.eff 11 (.eff 14 (.eff 15 (.fin))))) (.two 11 12 (.eff 12 (.eff 14 (.eff 15 (.fin)))) (.eff 11 (.eff 14 (.eff 15 (.fin)))))) (.two 5 13 (.two 11 13 (.eff 13 (.eff 14 (.eff 15 (.fin)))) (.eff 11 (.eff 14 (.eff 15 (.fin))))) (.eff 5 (.eff 11 (.eff 14 (.eff 15 (.fin)))))) (.two 5 12 (.two 11 12 (.eff 12 (.eff 14 (.eff 15 (.fin)))) (.eff 11 (.eff 14 (.eff 15 (.fin))))) (.eff 5 (.eff 11 (.eff 14 (.eff 15 (.fin)))))))) 16
    (fun W'=>∀ i,W'.cell? ⟨gn,i,none⟩=([.pointer (some ⟨gs,0,none⟩),.slice Ap P0 cp,.int .i64 q,.slice (some ⟨bl,ol,none⟩) (ns.length-1) cl]:List Value)[i]?)
    (by kernel_rfl) (by kernel_rfl) (by intro d v c a w h;cases d <;> exact h) ?_
   replace HM:=K1 HM.out.drew
   generalize W0.drew=V at *
   refine PlS.reads_ (HGN.out _ (HM.out.bel 0 rfl)) (by kernel_rfl) ?_
   simp only [pickO,p1,p2,p3,p4]
   apply Exists.intro
   apply And.intro
   · intro W' hS
     repeat still_step
     exact wpStill_nil rfl
   have HB:=K1 (Below.refl V.heap.size V)
   refine PlS.three_ ?_ ?_ ?_
   · refine PlS.eff_ ?_
     simp only [pickO,p1,p2,p3,p4]
     go_wp2_with fail
     refine (CWk.out _ ((HM.out.bel 0 rfl).trans (HB.out.mono (HM.out.bel 0 rfl).size))).mono ?_
     rintro e u5 ⟨rfl,hb⟩
     replace HB:=K1 (HB.out.trans (hb.mono HB.out.size))
     clear hb
     go_wp2_with fail
     refine After.go (HGN.out _ ((HM.out.bel 0 rfl).trans (HB.out.mono (HM.out.bel 0 rfl).size))) ?_
     refine PlS.three_ ?_ ?_ ?_
     · refine PlS.eff_ ?_
       simp only [pickO,p1,p2,p3,p4]
       go_wp2_with fail
       refine (CBk.out _ ((HM.out.bel 0 rfl).trans (HB.out.mono (HM.out.bel 0 rfl).size))).mono ?_
       rintro e u11 ⟨rfl,hb⟩
       replace HB:=K1 (HB.out.trans (hb.mono HB.out.size))
       clear hb
       go_wp2_with fail
       refine After.go (HGN.out _ ((HM.out.bel 0 rfl).trans (HB.out.mono (HM.out.bel 0 rfl).size))) ?_
       refine PlS.two_ ?_ ?_
       · refine PlS.eff_ ?_
         simp only [pickO,p1,p2,p3,p4]
         go_wp2_with fail
         refine name_after fun u12 hW=>?_
         have H13:=K1 (new_at hW.out HB.out.size)
         have hb:=new_bel hW.out
         replace HB:=K1 (HB.out.trans (hb.mono HB.out.size))
         clear hb hW
         refine After.go (HGN.out _ ((HM.out.bel 0 rfl).trans (HB.out.mono (HM.out.bel 0 rfl).size))) ?_
         refine PlS.eff_ ?_
         simp only [pickO,p1,p2,p3,p4]
         go_wp2_with fail
         refine name_after fun u13 hW=>?_
         have H14:=K1 (new_at hW.out HB.out.size)
         have hb:=new_bel hW.out
         have HNE:=K1 ((Nat.ne_of_lt (blk_lt H13.out.1)))
         replace H13:=K1 (And.intro (blk_below H13.out.1 hb (blk_lt H13.out.1)) H13.out.2)
         replace HB:=K1 (HB.out.trans (hb.mono HB.out.size))
         clear hb hW
         refine After.go (HGN.out _ ((HM.out.bel 0 rfl).trans (HB.out.mono (HM.out.bel 0 rfl).size))) ?_
         have HM7:=K1 (HM.out.new2 HB.out H13.out.1 H14.out.1 H13.out.2 H14.out.2 HNE.out)
         have c13:=HM7.out.cells 5 rfl
         have f13:=fun j=>HM7.out.frozen 5 j rfl
         have HM8:=K1 ((HM7.out.set (i:=5) (j:=0) rfl (.int .i64 x)).set (i:=5) (j:=1) rfl (.int .i64 y))
         clear HM7 HNE H13 H14 HB
         refine PlS.eff_ ?_
         simp only [pickO,p1,p2,p3,p4]
         go_wp2_with fail
         refine After.go (HGN.out _ (HM8.out.bel 0 rfl)) ?_
         have c14:=HM8.out.cells 6 rfl
         have f14:=fun j=>HM8.out.frozen 6 j rfl
         have HM9:=K1 ((HM8.out.set (i:=6) (j:=0) rfl (.int .i64 y)).set (i:=6) (j:=1) rfl (.int .i64 z))
         clear HM8 c13 f13
         refine PlS.eff_ ?_
         simp only [pickO,p1,p2,p3,p4]
         go_wp2_with fail
         refine After.go (HGN.out _ (HM9.out.bel 0 rfl)) (PlS.fin_ ?_)
         clear c14 f14
         go_wp2_with fail
         go_meet
         exact ⟨_,_,rfl,rfl,K1 (HM9.out.pick [0,1,2,3,4,5,6] _ rfl (by decide))⟩
       · refine PlS.eff_ ?_
         simp only [pickO,p1,p2,p3,p4]
         go_wp2_with fail
         refine name_after fun u13 hW=>?_
         have H14:=K1 (new_at hW.out HB.out.size)
         have hb:=new_bel hW.out
         replace HB:=K1 (HB.out.trans (hb.mono HB.out.size))
         clear hb hW
         refine After.go (HGN.out _ ((HM.out.bel 0 rfl).trans (HB.out.mono (HM.out.bel 0 rfl).size))) ?_
         refine PlS.eff_ ?_
         simp only [pickO,p1,p2,p3,p4]
         go_wp2_with fail
         refine name_after fun u12 hW=>?_
         have H13:=K1 (new_at hW.out HB.out.size)
         have hb:=new_bel hW.out
         have HNE:=K1 (Ne.symm (Nat.ne_of_lt (blk_lt H14.out.1)))
         replace H14:=K1 (And.intro (blk_below H14.out.1 hb (blk_lt H14.out.1)) H14.out.2)
         replace HB:=K1 (HB.out.trans (hb.mono HB.out.size))
         clear hb hW
         refine After.go (HGN.out _ ((HM.out.bel 0 rfl).trans (HB.out.mono (HM.out.bel 0 rfl).size))) ?_
         have HM7:=K1 (HM.out.new2 HB.out H13.out.1 H14.out.1 H13.out.2 H14.out.2 HNE.out)
         have c13:=HM7.out.cells 5 rfl
         have f13:=fun j=>HM7.out.frozen 5 j rfl
         have HM8:=K1 ((HM7.out.set (i:=5) (j:=0) rfl (.int .i64 x)).set (i:=5) (j:=1) rfl (.int .i64 y))
         clear HM7 HNE H13 H14 HB
         refine PlS.eff_ ?_
         simp only [pickO,p1,p2,p3,p4]
         go_wp2_with fail
         refine After.go (HGN.out _ (HM8.out.bel 0 rfl)) ?_
         have c14:=HM8.out.cells 6 rfl
         have f14:=fun j=>HM8.out.frozen 6 j rfl
         have HM9:=K1 ((HM8.out.set (i:=6) (j:=0) rfl (.int .i64 y)).set (i:=6) (j:=1) rfl (.int .i64 z))
         clear HM8 c13 f13
         refine PlS.eff_ ?_
         simp only [pickO,p1,p2,p3,p4]
         go_wp2_with fail
         refine After.go (HGN.out _ (HM9.out.bel 0 rfl)) (PlS.fin_ ?_)
         clear c14 f14
         go_wp2_with fail
         go_meet
         exact ⟨_,_,rfl,rfl,K1 (HM9.out.pick [0,1,2,3,4,5,6] _ rfl (by decide))⟩
     · refine PlS.eff_ ?_
       simp only [pickO,p1,p2,p3,p4]
       go_wp2_with fail
       refine name_after fun u12 hW=>?_
       have H13:=K1 (new_at hW.out HB.out.size)
       have hb:=new_bel hW.out
       replace HB:=K1 (HB.out.trans (hb.mono HB.out.size))
       clear hb hW
       refine After.go (HGN.out _ ((HM.out.bel 0 rfl).trans (HB.out.mono (HM.out.bel 0 rfl).size))) ?_
       refine PlS.two_ ?_ ?_
       · refine PlS.eff_ ?_
         simp only [pickO,p1,p2,p3,p4]
         go_wp2_with fail
         refine (CBk.out _ ((HM.out.bel 0 rfl).trans (HB.out.mono (HM.out.bel 0 rfl).size))).mono ?_
         rintro e u11 ⟨rfl,hb⟩
         replace H13:=K1 (And.intro (blk_below H13.out.1 hb (blk_lt H13.out.1)) H13.out.2)
         replace HB:=K1 (HB.out.trans (hb.mono HB.out.size))
         clear hb
         go_wp2_with fail
         refine After.go (HGN.out _ ((HM.out.bel 0 rfl).trans (HB.out.mono (HM.out.bel 0 rfl).size))) ?_
         refine PlS.eff_ ?_
         simp only [pickO,p1,p2,p3,p4]
         go_wp2_with fail
         refine name_after fun u13 hW=>?_
         have H14:=K1 (new_at hW.out HB.out.size)
         have hb:=new_bel hW.out
         have HNE:=K1 ((Nat.ne_of_lt (blk_lt H13.out.1)))
         replace H13:=K1 (And.intro (blk_below H13.out.1 hb (blk_lt H13.out.1)) H13.out.2)
         replace HB:=K1 (HB.out.trans (hb.mono HB.out.size))
         clear hb hW
         refine After.go (HGN.out _ ((HM.out.bel 0 rfl).trans (HB.out.mono (HM.out.bel 0 rfl).size))) ?_
         have HM7:=K1 (HM.out.new2 HB.out H13.out.1 H14.out.1 H13.out.2 H14.out.2 HNE.out)
         have c13:=HM7.out.cells 5 rfl
         have f13:=fun j=>HM7.out.frozen 5 j rfl
         have HM8:=K1 ((HM7.out.set (i:=5) (j:=0) rfl (.int .i64 x)).set (i:=5) (j:=1) rfl (.int .i64 y))
         clear HM7 HNE H13 H14 HB
         refine PlS.eff_ ?_
         simp only [pickO,p1,p2,p3,p4]
         go_wp2_with fail
         refine After.go (HGN.out _ (HM8.out.bel 0 rfl)) ?_
         have c14:=HM8.out.cells 6 rfl
         have f14:=fun j=>HM8.out.frozen 6 j rfl
         have HM9:=K1 ((HM8.out.set (i:=6) (j:=0) rfl (.int .i64 y)).set (i:=6) (j:=1) rfl (.int .i64 z))
         clear HM8 c13 f13
         refine PlS.eff_ ?_
         simp only [pickO,p1,p2,p3,p4]
         go_wp2_with fail
         refine After.go (HGN.out _ (HM9.out.bel 0 rfl)) (PlS.fin_ ?_)
         clear c14 f14
         go_wp2_with fail
         go_meet
         exact ⟨_,_,rfl,rfl,K1 (HM9.out.pick [0,1,2,3,4,5,6] _ rfl (by decide))⟩
       · refine PlS.eff_ ?_
         simp only [pickO,p1,p2,p3,p4]
         go_wp2_with fail
         refine name_after fun u13 hW=>?_
         have H14:=K1 (new_at hW.out HB.out.size)
         have hb:=new_bel hW.out
         have HNE:=K1 ((Nat.ne_of_lt (blk_lt H13.out.1)))
         replace H13:=K1 (And.intro (blk_below H13.out.1 hb (blk_lt H13.out.1)) H13.out.2)
         replace HB:=K1 (HB.out.trans (hb.mono HB.out.size))
         clear hb hW
         refine After.go (HGN.out _ ((HM.out.bel 0 rfl).trans (HB.out.mono (HM.out.bel 0 rfl).size))) ?_
         refine PlS.eff_ ?_
         simp only [pickO,p1,p2,p3,p4]
         go_wp2_with fail
         refine (CBk.out _ ((HM.out.bel 0 rfl).trans (HB.out.mono (HM.out.bel 0 rfl).size))).mono ?_
         rintro e u11 ⟨rfl,hb⟩
         replace H13:=K1 (And.intro (blk_below H13.out.1 hb (blk_lt H13.out.1)) H13.out.2)
         replace H14:=K1 (And.intro (blk_below H14.out.1 hb (blk_lt H14.out.1)) H14.out.2)
         replace HB:=K1 (HB.out.trans (hb.mono HB.out.size))
         clear hb
         go_wp2_with fail
         refine After.go (HGN.out _ ((HM.out.bel 0 rfl).trans (HB.out.mono (HM.out.bel 0 rfl).size))) ?_
         have HM7:=K1 (HM.out.new2 HB.out H13.out.1 H14.out.1 H13.out.2 H14.out.2 HNE.out)
         have c13:=HM7.out.cells 5 rfl
         have f13:=fun j=>HM7.out.frozen 5 j rfl
         have HM8:=K1 ((HM7.out.set (i:=5) (j:=0) rfl (.int .i64 x)).set (i:=5) (j:=1) rfl (.int .i64 y))
         clear HM7 HNE H13 H14 HB
         refine PlS.eff_ ?_
         simp only [pickO,p1,p2,p3,p4]
         go_wp2_with fail
         refine After.go (HGN.out _ (HM8.out.bel 0 rfl)) ?_
         have c14:=HM8.out.cells 6 rfl
         have f14:=fun j=>HM8.out.frozen 6 j rfl
         have HM9:=K1 ((HM8.out.set (i:=6) (j:=0) rfl (.int .i64 y)).set (i:=6) (j:=1) rfl (.int .i64 z))
         clear HM8 c13 f13
         refine PlS.eff_ ?_
         simp only [pickO,p1,p2,p3,p4]
         go_wp2_with fail
         refine After.go (HGN.out _ (HM9.out.bel 0 rfl)) (PlS.fin_ ?_)
         clear c14 f14
         go_wp2_with fail
         go_meet
         exact ⟨_,_,rfl,rfl,K1 (HM9.out.pick [0,1,2,3,4,5,6] _ rfl (by decide))⟩
     · refine PlS.eff_ ?_
       simp only [pickO,p1,p2,p3,p4]
       go_wp2_with fail
       refine name_after fun u13 hW=>?_
       have H14:=K1 (new_at hW.out HB.out.size)
       have hb:=new_bel hW.out
       replace HB:=K1 (HB.out.trans (hb.mono HB.out.size))
       clear hb hW
       refine After.go (HGN.out _ ((HM.out.bel 0 rfl).trans (HB.out.mono (HM.out.bel 0 rfl).size))) ?_
       refine PlS.two_ ?_ ?_
       · refine PlS.eff_ ?_
         simp only [pickO,p1,p2,p3,p4]
         go_wp2_with fail
         refine (CBk.out _ ((HM.out.bel 0 rfl).trans (HB.out.mono (HM.out.bel 0 rfl).size))).mono ?_
         rintro e u11 ⟨rfl,hb⟩
         replace H14:=K1 (And.intro (blk_below H14.out.1 hb (blk_lt H14.out.1)) H14.out.2)
         replace HB:=K1 (HB.out.trans (hb.mono HB.out.size))
         clear hb
         go_wp2_with fail
         refine After.go (HGN.out _ ((HM.out.bel 0 rfl).trans (HB.out.mono (HM.out.bel 0 rfl).size))) ?_
         refine PlS.eff_ ?_
         simp only [pickO,p1,p2,p3,p4]
         go_wp2_with fail
         refine name_after fun u12 hW=>?_
         have H13:=K1 (new_at hW.out HB.out.size)
         have hb:=new_bel hW.out
         have HNE:=K1 (Ne.symm (Nat.ne_of_lt (blk_lt H14.out.1)))
         replace H14:=K1 (And.intro (blk_below H14.out.1 hb (blk_lt H14.out.1)) H14.out.2)
         replace HB:=K1 (HB.out.trans (hb.mono HB.out.size))
         clear hb hW
         refine After.go (HGN.out _ ((HM.out.bel 0 rfl).trans (HB.out.mono (HM.out.bel 0 rfl).size))) ?_
         have HM7:=K1 (HM.out.new2 HB.out H13.out.1 H14.out.1 H13.out.2 H14.out.2 HNE.out)
         have c13:=HM7.out.cells 5 rfl
         have f13:=fun j=>HM7.out.frozen 5 j rfl
         have HM8:=K1 ((HM7.out.set (i:=5) (j:=0) rfl (.int .i64 x)).set (i:=5) (j:=1) rfl (.int .i64 y))
         clear HM7 HNE H13 H14 HB
         refine PlS.eff_ ?_
         simp only [pickO,p1,p2,p3,p4]
         go_wp2_with fail
         refine After.go (HGN.out _ (HM8.out.bel 0 rfl)) ?_
         have c14:=HM8.out.cells 6 rfl
         have f14:=fun j=>HM8.out.frozen 6 j rfl
         have HM9:=K1 ((HM8.out.set (i:=6) (j:=0) rfl (.int .i64 y)).set (i:=6) (j:=1) rfl (.int .i64 z))
         clear HM8 c13 f13
         refine PlS.eff_ ?_
         simp only [pickO,p1,p2,p3,p4]
         go_wp2_with fail
         refine After.go (HGN.out _ (HM9.out.bel 0 rfl)) (PlS.fin_ ?_)
         clear c14 f14
         go_wp2_with fail
         go_meet
         exact ⟨_,_,rfl,rfl,K1 (HM9.out.pick [0,1,2,3,4,5,6] _ rfl (by decide))⟩
       · refine PlS.eff_ ?_
         simp only [pickO,p1,p2,p3,p4]
         go_wp2_with fail
         refine name_after fun u12 hW=>?_
         have H13:=K1 (new_at hW.out HB.out.size)
         have hb:=new_bel hW.out
         have HNE:=K1 (Ne.symm (Nat.ne_of_lt (blk_lt H14.out.1)))
         replace H14:=K1 (And.intro (blk_below H14.out.1 hb (blk_lt H14.out.1)) H14.out.2)
         replace HB:=K1 (HB.out.trans (hb.mono HB.out.size))
         clear hb hW
         refine After.go (HGN.out _ ((HM.out.bel 0 rfl).trans (HB.out.mono (HM.out.bel 0 rfl).size))) ?_
         refine PlS.eff_ ?_
         simp only [pickO,p1,p2,p3,p4]
         go_wp2_with fail
         refine (CBk.out _ ((HM.out.bel 0 rfl).trans (HB.out.mono (HM.out.bel 0 rfl).size))).mono ?_
         rintro e u11 ⟨rfl,hb⟩
         replace H13:=K1 (And.intro (blk_below H13.out.1 hb (blk_lt H13.out.1)) H13.out.2)
         replace H14:=K1 (And.intro (blk_below H14.out.1 hb (blk_lt H14.out.1)) H14.out.2)
         replace HB:=K1 (HB.out.trans (hb.mono HB.out.size))
         clear hb
         go_wp2_with fail
         refine After.go (HGN.out _ ((HM.out.bel 0 rfl).trans (HB.out.mono (HM.out.bel 0 rfl).size))) ?_
         have HM7:=K1 (HM.out.new2 HB.out H13.out.1 H14.out.1 H13.out.2 H14.out.2 HNE.out)
         have c13:=HM7.out.cells 5 rfl
         have f13:=fun j=>HM7.out.frozen 5 j rfl
         have HM8:=K1 ((HM7.out.set (i:=5) (j:=0) rfl (.int .i64 x)).set (i:=5) (j:=1) rfl (.int .i64 y))
         clear HM7 HNE H13 H14 HB
         refine PlS.eff_ ?_
         simp only [pickO,p1,p2,p3,p4]
         go_wp2_with fail
         refine After.go (HGN.out _ (HM8.out.bel 0 rfl)) ?_
         have c14:=HM8.out.cells 6 rfl
         have f14:=fun j=>HM8.out.frozen 6 j rfl
         have HM9:=K1 ((HM8.out.set (i:=6) (j:=0) rfl (.int .i64 y)).set (i:=6) (j:=1) rfl (.int .i64 z))
         clear HM8 c13 f13
         refine PlS.eff_ ?_
         simp only [pickO,p1,p2,p3,p4]
         go_wp2_with fail
         refine After.go (HGN.out _ (HM9.out.bel 0 rfl)) (PlS.fin_ ?_)
         clear c14 f14
         go_wp2_with fail
         go_meet
         exact ⟨_,_,rfl,rfl,K1 (HM9.out.pick [0,1,2,3,4,5,6] _ rfl (by decide))⟩
   · refine PlS.eff_ ?_
     simp only [pickO,p1,p2,p3,p4]
     go_wp2_with fail
     refine name_after fun u12 hW=>?_
     have H13:=K1 (new_at hW.out HB.out.size)
     have hb:=new_bel hW.out
     replace HB:=K1 (HB.out.trans (hb.mono HB.out.size))
     clear hb hW
     refine After.go (HGN.out _ ((HM.out.bel 0 rfl).trans (HB.out.mono (HM.out.bel 0 rfl).size))) ?_
     refine PlS.two_ ?_ ?_
     · refine PlS.eff_ ?_
       simp only [pickO,p1,p2,p3,p4]
       go_wp2_with fail
       refine (CWk.out _ ((HM.out.bel 0 rfl).trans (HB.out.mono (HM.out.bel 0 rfl).size))).mono ?_
       rintro e u5 ⟨rfl,hb⟩
       replace H13:=K1 (And.intro (blk_below H13.out.1 hb (blk_lt H13.out.1)) H13.out.2)
       replace HB:=K1 (HB.out.trans (hb.mono HB.out.size))
       clear hb
       go_wp2_with fail
       refine After.go (HGN.out _ ((HM.out.bel 0 rfl).trans (HB.out.mono (HM.out.bel 0 rfl).size))) ?_
       refine PlS.two_ ?_ ?_
       · refine PlS.eff_ ?_
         simp only [pickO,p1,p2,p3,p4]
         go_wp2_with fail
         refine (CBk.out _ ((HM.out.bel 0 rfl).trans (HB.out.mono (HM.out.bel 0 rfl).size))).mono ?_
         rintro e u11 ⟨rfl,hb⟩
         replace H13:=K1 (And.intro (blk_below H13.out.1 hb (blk_lt H13.out.1)) H13.out.2)
         replace HB:=K1 (HB.out.trans (hb.mono HB.out.size))
         clear hb
         go_wp2_with fail
         refine After.go (HGN.out _ ((HM.out.bel 0 rfl).trans (HB.out.mono (HM.out.bel 0 rfl).size))) ?_
         refine PlS.eff_ ?_
         simp only [pickO,p1,p2,p3,p4]
         go_wp2_with fail
         refine name_after fun u13 hW=>?_
         have H14:=K1 (new_at hW.out HB.out.size)
         have hb:=new_bel hW.out
         have HNE:=K1 ((Nat.ne_of_lt (blk_lt H13.out.1)))
         replace H13:=K1 (And.intro (blk_below H13.out.1 hb (blk_lt H13.out.1)) H13.out.2)
         replace HB:=K1 (HB.out.trans (hb.mono HB.out.size))
         clear hb hW
         refine After.go (HGN.out _ ((HM.out.bel 0 rfl).trans (HB.out.mono (HM.out.bel 0 rfl).size))) ?_
         have HM7:=K1 (HM.out.new2 HB.out H13.out.1 H14.out.1 H13.out.2 H14.out.2 HNE.out)
         have c13:=HM7.out.cells 5 rfl
         have f13:=fun j=>HM7.out.frozen 5 j rfl
         have HM8:=K1 ((HM7.out.set (i:=5) (j:=0) rfl (.int .i64 x)).set (i:=5) (j:=1) rfl (.int .i64 y))
         clear HM7 HNE H13 H14 HB
         refine PlS.eff_ ?_
         simp only [pickO,p1,p2,p3,p4]
         go_wp2_with fail
         refine After.go (HGN.out _ (HM8.out.bel 0 rfl)) ?_
         have c14:=HM8.out.cells 6 rfl
         have f14:=fun j=>HM8.out.frozen 6 j rfl
         have HM9:=K1 ((HM8.out.set (i:=6) (j:=0) rfl (.int .i64 y)).set (i:=6) (j:=1) rfl (.int .i64 z))
         clear HM8 c13 f13
         refine PlS.eff_ ?_
         simp only [pickO,p1,p2,p3,p4]
         go_wp2_with fail
         refine After.go (HGN.out _ (HM9.out.bel 0 rfl)) (PlS.fin_ ?_)
         clear c14 f14
         go_wp2_with fail
         go_meet
         exact ⟨_,_,rfl,rfl,K1 (HM9.out.pick [0,1,2,3,4,5,6] _ rfl (by decide))⟩
       · refine PlS.eff_ ?_
         simp only [pickO,p1,p2,p3,p4]
         go_wp2_with fail
         refine name_after fun u13 hW=>?_
         have H14:=K1 (new_at hW.out HB.out.size)
         have hb:=new_bel hW.out
         have HNE:=K1 ((Nat.ne_of_lt (blk_lt H13.out.1)))
         replace H13:=K1 (And.intro (blk_below H13.out.1 hb (blk_lt H13.out.1)) H13.out.2)
         replace HB:=K1 (HB.out.trans (hb.mono HB.out.size))
         clear hb hW
         refine After.go (HGN.out _ ((HM.out.bel 0 rfl).trans (HB.out.mono (HM.out.bel 0 rfl).size))) ?_
         refine PlS.eff_ ?_
         simp only [pickO,p1,p2,p3,p4]
         go_wp2_with fail
         refine (CBk.out _ ((HM.out.bel 0 rfl).trans (HB.out.mono (HM.out.bel 0 rfl).size))).mono ?_
         rintro e u11 ⟨rfl,hb⟩
         replace H13:=K1 (And.intro (blk_below H13.out.1 hb (blk_lt H13.out.1)) H13.out.2)
         replace H14:=K1 (And.intro (blk_below H14.out.1 hb (blk_lt H14.out.1)) H14.out.2)
         replace HB:=K1 (HB.out.trans (hb.mono HB.out.size))
         clear hb
         go_wp2_with fail
         refine After.go (HGN.out _ ((HM.out.bel 0 rfl).trans (HB.out.mono (HM.out.bel 0 rfl).size))) ?_
         have HM7:=K1 (HM.out.new2 HB.out H13.out.1 H14.out.1 H13.out.2 H14.out.2 HNE.out)
         have c13:=HM7.out.cells 5 rfl
         have f13:=fun j=>HM7.out.frozen 5 j rfl
         have HM8:=K1 ((HM7.out.set (i:=5) (j:=0) rfl (.int .i64 x)).set (i:=5) (j:=1) rfl (.int .i64 y))
         clear HM7 HNE H13 H14 HB
         refine PlS.eff_ ?_
         simp only [pickO,p1,p2,p3,p4]
         go_wp2_with fail
         refine After.go (HGN.out _ (HM8.out.bel 0 rfl)) ?_
         have c14:=HM8.out.cells 6 rfl
         have f14:=fun j=>HM8.out.frozen 6 j rfl
         have HM9:=K1 ((HM8.out.set (i:=6) (j:=0) rfl (.int .i64 y)).set (i:=6) (j:=1) rfl (.int .i64 z))
         clear HM8 c13 f13
         refine PlS.eff_ ?_
         simp only [pickO,p1,p2,p3,p4]
         go_wp2_with fail
         refine After.go (HGN.out _ (HM9.out.bel 0 rfl)) (PlS.fin_ ?_)
         clear c14 f14
         go_wp2_with fail
         go_meet
         exact ⟨_,_,rfl,rfl,K1 (HM9.out.pick [0,1,2,3,4,5,6] _ rfl (by decide))⟩
     · refine PlS.eff_ ?_
       simp only [pickO,p1,p2,p3,p4]
       go_wp2_with fail
       refine name_after fun u13 hW=>?_
       have H14:=K1 (new_at hW.out HB.out.size)
       have hb:=new_bel hW.out
       have HNE:=K1 ((Nat.ne_of_lt (blk_lt H13.out.1)))
       replace H13:=K1 (And.intro (blk_below H13.out.1 hb (blk_lt H13.out.1)) H13.out.2)
       replace HB:=K1 (HB.out.trans (hb.mono HB.out.size))
       clear hb hW
       refine After.go (HGN.out _ ((HM.out.bel 0 rfl).trans (HB.out.mono (HM.out.bel 0 rfl).size))) ?_
       refine PlS.eff_ ?_
       simp only [pickO,p1,p2,p3,p4]
       go_wp2_with fail
       refine (CWk.out _ ((HM.out.bel 0 rfl).trans (HB.out.mono (HM.out.bel 0 rfl).size))).mono ?_
       rintro e u5 ⟨rfl,hb⟩
       replace H13:=K1 (And.intro (blk_below H13.out.1 hb (blk_lt H13.out.1)) H13.out.2)
       replace H14:=K1 (And.intro (blk_below H14.out.1 hb (blk_lt H14.out.1)) H14.out.2)
       replace HB:=K1 (HB.out.trans (hb.mono HB.out.size))
       clear hb
       go_wp2_with fail
       refine After.go (HGN.out _ ((HM.out.bel 0 rfl).trans (HB.out.mono (HM.out.bel 0 rfl).size))) ?_
       refine PlS.eff_ ?_
       simp only [pickO,p1,p2,p3,p4]
       go_wp2_with fail
       refine (CBk.out _ ((HM.out.bel 0 rfl).trans (HB.out.mono (HM.out.bel 0 rfl).size))).mono ?_
       rintro e u11 ⟨rfl,hb⟩
       replace H13:=K1 (And.intro (blk_below H13.out.1 hb (blk_lt H13.out.1)) H13.out.2)
       replace H14:=K1 (And.intro (blk_below H14.out.1 hb (blk_lt H14.out.1)) H14.out.2)
       replace HB:=K1 (HB.out.trans (hb.mono HB.out.size))
       clear hb
       go_wp2_with fail
       refine After.go (HGN.out _ ((HM.out.bel 0 rfl).trans (HB.out.mono (HM.out.bel 0 rfl).size))) ?_
       have HM7:=K1 (HM.out.new2 HB.out H13.out.1 H14.out.1 H13.out.2 H14.out.2 HNE.out)
       have c13:=HM7.out.cells 5 rfl
       have f13:=fun j=>HM7.out.frozen 5 j rfl
       have HM8:=K1 ((HM7.out.set (i:=5) (j:=0) rfl (.int .i64 x)).set (i:=5) (j:=1) rfl (.int .i64 y))
       clear HM7 HNE H13 H14 HB
       refine PlS.eff_ ?_
       simp only [pickO,p1,p2,p3,p4]
       go_wp2_with fail
       refine After.go (HGN.out _ (HM8.out.bel 0 rfl)) ?_
       have c14:=HM8.out.cells 6 rfl
       have f14:=fun j=>HM8.out.frozen 6 j rfl
       have HM9:=K1 ((HM8.out.set (i:=6) (j:=0) rfl (.int .i64 y)).set (i:=6) (j:=1) rfl (.int .i64 z))
       clear HM8 c13 f13
       refine PlS.eff_ ?_
       simp only [pickO,p1,p2,p3,p4]
       go_wp2_with fail
       refine After.go (HGN.out _ (HM9.out.bel 0 rfl)) (PlS.fin_ ?_)
       clear c14 f14
       go_wp2_with fail
       go_meet
       exact ⟨_,_,rfl,rfl,K1 (HM9.out.pick [0,1,2,3,4,5,6] _ rfl (by decide))⟩
   · refine PlS.eff_ ?_
     simp only [pickO,p1,p2,p3,p4]
     go_wp2_with fail
     refine name_after fun u13 hW=>?_
     have H14:=K1 (new_at hW.out HB.out.size)
     have hb:=new_bel hW.out
     replace HB:=K1 (HB.out.trans (hb.mono HB.out.size))
     clear hb hW
     refine After.go (HGN.out _ ((HM.out.bel 0 rfl).trans (HB.out.mono (HM.out.bel 0 rfl).size))) ?_
     refine PlS.two_ ?_ ?_
     · refine PlS.eff_ ?_
       simp only [pickO,p1,p2,p3,p4]
       go_wp2_with fail
       refine (CWk.out _ ((HM.out.bel 0 rfl).trans (HB.out.mono (HM.out.bel 0 rfl).size))).mono ?_
       rintro e u5 ⟨rfl,hb⟩
       replace H14:=K1 (And.intro (blk_below H14.out.1 hb (blk_lt H14.out.1)) H14.out.2)
       replace HB:=K1 (HB.out.trans (hb.mono HB.out.size))
       clear hb
       go_wp2_with fail
       refine After.go (HGN.out _ ((HM.out.bel 0 rfl).trans (HB.out.mono (HM.out.bel 0 rfl).size))) ?_
       refine PlS.two_ ?_ ?_
       · refine PlS.eff_ ?_
         simp only [pickO,p1,p2,p3,p4]
         go_wp2_with fail
         refine (CBk.out _ ((HM.out.bel 0 rfl).trans (HB.out.mono (HM.out.bel 0 rfl).size))).mono ?_
         rintro e u11 ⟨rfl,hb⟩
         replace H14:=K1 (And.intro (blk_below H14.out.1 hb (blk_lt H14.out.1)) H14.out.2)
         replace HB:=K1 (HB.out.trans (hb.mono HB.out.size))
         clear hb
         go_wp2_with fail
         refine After.go (HGN.out _ ((HM.out.bel 0 rfl).trans (HB.out.mono (HM.out.bel 0 rfl).size))) ?_
         refine PlS.eff_ ?_
         simp only [pickO,p1,p2,p3,p4]
         go_wp2_with fail
         refine name_after fun u12 hW=>?_
         have H13:=K1 (new_at hW.out HB.out.size)
         have hb:=new_bel hW.out
         have HNE:=K1 (Ne.symm (Nat.ne_of_lt (blk_lt H14.out.1)))
         replace H14:=K1 (And.intro (blk_below H14.out.1 hb (blk_lt H14.out.1)) H14.out.2)
         replace HB:=K1 (HB.out.trans (hb.mono HB.out.size))
         clear hb hW
         refine After.go (HGN.out _ ((HM.out.bel 0 rfl).trans (HB.out.mono (HM.out.bel 0 rfl).size))) ?_
         have HM7:=K1 (HM.out.new2 HB.out H13.out.1 H14.out.1 H13.out.2 H14.out.2 HNE.out)
         have c13:=HM7.out.cells 5 rfl
         have f13:=fun j=>HM7.out.frozen 5 j rfl
         have HM8:=K1 ((HM7.out.set (i:=5) (j:=0) rfl (.int .i64 x)).set (i:=5) (j:=1) rfl (.int .i64 y))
         clear HM7 HNE H13 H14 HB
         refine PlS.eff_ ?_
         simp only [pickO,p1,p2,p3,p4]
         go_wp2_with fail
         refine After.go (HGN.out _ (HM8.out.bel 0 rfl)) ?_
         have c14:=HM8.out.cells 6 rfl
         have f14:=fun j=>HM8.out.frozen 6 j rfl
         have HM9:=K1 ((HM8.out.set (i:=6) (j:=0) rfl (.int .i64 y)).set (i:=6) (j:=1) rfl (.int .i64 z))
         clear HM8 c13 f13
         refine PlS.eff_ ?_
         simp only [pickO,p1,p2,p3,p4]
         go_wp2_with fail
         refine After.go (HGN.out _ (HM9.out.bel 0 rfl)) (PlS.fin_ ?_)
         clear c14 f14
         go_wp2_with fail
         go_meet
         exact ⟨_,_,rfl,rfl,K1 (HM9.out.pick [0,1,2,3,4,5,6] _ rfl (by decide))⟩
       · refine PlS.eff_ ?_
         simp only [pickO,p1,p2,p3,p4]
         go_wp2_with fail
         refine name_after fun u12 hW=>?_
         have H13:=K1 (new_at hW.out HB.out.size)
         have hb:=new_bel hW.out
         have HNE:=K1 (Ne.symm (Nat.ne_of_lt (blk_lt H14.out.1)))
         replace H14:=K1 (And.intro (blk_below H14.out.1 hb (blk_lt H14.out.1)) H14.out.2)
         replace HB:=K1 (HB.out.trans (hb.mono HB.out.size))
         clear hb hW
         refine After.go (HGN.out _ ((HM.out.bel 0 rfl).trans (HB.out.mono (HM.out.bel 0 rfl).size))) ?_
         refine PlS.eff_ ?_
         simp only [pickO,p1,p2,p3,p4]
         go_wp2_with fail
         refine (CBk.out _ ((HM.out.bel 0 rfl).trans (HB.out.mono (HM.out.bel 0 rfl).size))).mono ?_
         rintro e u11 ⟨rfl,hb⟩
         replace H13:=K1 (And.intro (blk_below H13.out.1 hb (blk_lt H13.out.1)) H13.out.2)
         replace H14:=K1 (And.intro (blk_below H14.out.1 hb (blk_lt H14.out.1)) H14.out.2)
         replace HB:=K1 (HB.out.trans (hb.mono HB.out.size))
         clear hb
         go_wp2_with fail
         refine After.go (HGN.out _ ((HM.out.bel 0 rfl).trans (HB.out.mono (HM.out.bel 0 rfl).size))) ?_
         have HM7:=K1 (HM.out.new2 HB.out H13.out.1 H14.out.1 H13.out.2 H14.out.2 HNE.out)
         have c13:=HM7.out.cells 5 rfl
         have f13:=fun j=>HM7.out.frozen 5 j rfl
         have HM8:=K1 ((HM7.out.set (i:=5) (j:=0) rfl (.int .i64 x)).set (i:=5) (j:=1) rfl (.int .i64 y))
         clear HM7 HNE H13 H14 HB
         refine PlS.eff_ ?_
         simp only [pickO,p1,p2,p3,p4]
         go_wp2_with fail
         refine After.go (HGN.out _ (HM8.out.bel 0 rfl)) ?_
         have c14:=HM8.out.cells 6 rfl
         have f14:=fun j=>HM8.out.frozen 6 j rfl
         have HM9:=K1 ((HM8.out.set (i:=6) (j:=0) rfl (.int .i64 y)).set (i:=6) (j:=1) rfl (.int .i64 z))
         clear HM8 c13 f13
         refine PlS.eff_ ?_
         simp only [pickO,p1,p2,p3,p4]
         go_wp2_with fail
         refine After.go (HGN.out _ (HM9.out.bel 0 rfl)) (PlS.fin_ ?_)
         clear c14 f14
         go_wp2_with fail
         go_meet
         exact ⟨_,_,rfl,rfl,K1 (HM9.out.pick [0,1,2,3,4,5,6] _ rfl (by decide))⟩
     · refine PlS.eff_ ?_
       simp only [pickO,p1,p2,p3,p4]
       go_wp2_with fail
       refine name_after fun u12 hW=>?_
       have H13:=K1 (new_at hW.out HB.out.size)
       have hb:=new_bel hW.out
       have HNE:=K1 (Ne.symm (Nat.ne_of_lt (blk_lt H14.out.1)))
       replace H14:=K1 (And.intro (blk_below H14.out.1 hb (blk_lt H14.out.1)) H14.out.2)
       replace HB:=K1 (HB.out.trans (hb.mono HB.out.size))
       clear hb hW
       refine After.go (HGN.out _ ((HM.out.bel 0 rfl).trans (HB.out.mono (HM.out.bel 0 rfl).size))) ?_
       refine PlS.eff_ ?_
       simp only [pickO,p1,p2,p3,p4]
       go_wp2_with fail
       refine (CWk.out _ ((HM.out.bel 0 rfl).trans (HB.out.mono (HM.out.bel 0 rfl).size))).mono ?_
       rintro e u5 ⟨rfl,hb⟩
       replace H13:=K1 (And.intro (blk_below H13.out.1 hb (blk_lt H13.out.1)) H13.out.2)
       replace H14:=K1 (And.intro (blk_below H14.out.1 hb (blk_lt H14.out.1)) H14.out.2)
       replace HB:=K1 (HB.out.trans (hb.mono HB.out.size))
       clear hb
       go_wp2_with fail
       refine After.go (HGN.out _ ((HM.out.bel 0 rfl).trans (HB.out.mono (HM.out.bel 0 rfl).size))) ?_
       refine PlS.eff_ ?_
       simp only [pickO,p1,p2,p3,p4]
       go_wp2_with fail
       refine (CBk.out _ ((HM.out.bel 0 rfl).trans (HB.out.mono (HM.out.bel 0 rfl).size))).mono ?_
       rintro e u11 ⟨rfl,hb⟩
       replace H13:=K1 (And.intro (blk_below H13.out.1 hb (blk_lt H13.out.1)) H13.out.2)
       replace H14:=K1 (And.intro (blk_below H14.out.1 hb (blk_lt H14.out.1)) H14.out.2)
       replace HB:=K1 (HB.out.trans (hb.mono HB.out.size))
       clear hb
       go_wp2_with fail
       refine After.go (HGN.out _ ((HM.out.bel 0 rfl).trans (HB.out.mono (HM.out.bel 0 rfl).size))) ?_
       have HM7:=K1 (HM.out.new2 HB.out H13.out.1 H14.out.1 H13.out.2 H14.out.2 HNE.out)
       have c13:=HM7.out.cells 5 rfl
       have f13:=fun j=>HM7.out.frozen 5 j rfl
       have HM8:=K1 ((HM7.out.set (i:=5) (j:=0) rfl (.int .i64 x)).set (i:=5) (j:=1) rfl (.int .i64 y))
       clear HM7 HNE H13 H14 HB
       refine PlS.eff_ ?_
       simp only [pickO,p1,p2,p3,p4]
       go_wp2_with fail
       refine After.go (HGN.out _ (HM8.out.bel 0 rfl)) ?_
       have c14:=HM8.out.cells 6 rfl
       have f14:=fun j=>HM8.out.frozen 6 j rfl
       have HM9:=K1 ((HM8.out.set (i:=6) (j:=0) rfl (.int .i64 y)).set (i:=6) (j:=1) rfl (.int .i64 z))
       clear HM8 c13 f13
       refine PlS.eff_ ?_
       simp only [pickO,p1,p2,p3,p4]
       go_wp2_with fail
       refine After.go (HGN.out _ (HM9.out.bel 0 rfl)) (PlS.fin_ ?_)
       clear c14 f14
       go_wp2_with fail
       go_meet
       exact ⟨_,_,rfl,rfl,K1 (HM9.out.pick [0,1,2,3,4,5,6] _ rfl (by decide))⟩
end Go.Proofs.YtdpojpcoghcieaaGreat
