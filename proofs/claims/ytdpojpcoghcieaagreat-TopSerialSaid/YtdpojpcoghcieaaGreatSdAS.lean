/- A part of the proof of TopSerial: NetNew. Conditions: none. -/
import Derived.Test.YtdpojpcoghcieaaGreatSdAR
set_option maxHeartbeats 8000000
namespace Go.Proofs.YtdpojpcoghcieaaGreat
open Lib renaming hid → K1
open List renaming filterMap_cons → p1, filterMap_nil → p2, getElem?_cons_zero → p3, getElem?_cons_succ → p4
open Go.RowKit
structure NsOk (ns:List Nat):Prop where
 len:2≤ns.length∧ns.length≤16
 pos:∀ n∈ns,1≤n
 few:offN ns (ns.length-1)≤1000
theorem NsOk.le {ns:List Nat} (h:NsOk ns) {k:Nat} (hk:k<ns.length-1):offN ns (k+1)≤1000:=Nat.le_trans (offN_mono ns (by omega)) h.few
theorem NsOk.at_ {ns:List Nat} (h:NsOk ns) {k:Nat} (hk:k<ns.length-1) :
  ∃ a b,ns[k]?=some a∧ns[k+1]?=some b∧1≤a∧1≤b∧midN ns k=offN ns k+b*a∧offN ns (k+1)=midN ns k+b∧a≤1000∧b≤1000∧offN ns (k+1)≤offN ns (ns.length-1):=by
 obtain ⟨a,ha⟩:=get_some ns k (by omega)
 obtain ⟨b,hb⟩:=get_some ns (k+1) (by omega)
 have h1:=h.pos a (List.mem_of_getElem? ha)
 have h2:=h.pos b (List.mem_of_getElem? hb)
 have e1:midN ns k=offN ns k+b*a:=by rw [midN,ha,hb];rfl
 have e2:offN ns (k+1)=midN ns k+b:=by rw [offN_succ,hb];rfl
 have h3:=h.le hk
 have h4:=Nat.mul_le_mul_right a h2
 exact ⟨a,b,ha,hb,h1,h2,e1,e2,by omega,by omega,offN_mono ns (by omega)⟩
theorem Mem.subZ {W:World} {L:List Ch} {A:Option Addr} {ps:List Int} {i x y:Nat} (h:Mem W L) (hi:L[i]?=some (.rd A (zC ps))) (hxy:x<y) (hy:y≤ps.length):Rd W W.heap.size (A.map fun p=>p.add x) (zC (subL ps x y)):=by
 have hs:=(h.rd i hi).sub x y (by rw [zC_len];exact hy)
 rw [if_neg (by omega),← zC_sub] at hs
 exact hs
structure Lk where
 k:Nat
 A:Option Addr
 c:Nat
def lkC (ns:List Nat) (Ap:Option Addr) (cp:Nat) (m:Lk):List Value :=
 [.int .i64 (ns[m.k+1]?.getD 0:Nat),.int .i64 (ns[m.k]?.getD 0:Nat),.slice m.A (midN ns m.k-offN ns m.k) m.c,.slice (Ap.map fun p=>p.add (midN ns m.k)) (offN ns (m.k+1)-midN ns m.k) (cp-midN ns m.k)]
def lkCells (ns:List Nat) (Ap:Option Addr) (cp:Nat) (ms:List Lk):List Value:=ms.flatMap (lkC ns Ap cp)
def lkFam (ns:List Nat) (ps:List Int) (ms:List Lk):List (Option Addr × List Value):=ms.map fun m=>(m.A,zC (subL ps (offN ns m.k) (midN ns m.k)))
theorem lkCells_snoc (ns:List Nat) (Ap:Option Addr) (cp:Nat) (ms:List Lk) (m:Lk):lkCells ns Ap cp (ms++[m])=lkCells ns Ap cp ms++lkC ns Ap cp m:=by simp [lkCells]
theorem lkFam_snoc (ns:List Nat) (ps:List Int) (ms:List Lk) (m:Lk):lkFam ns ps (ms++[m])=lkFam ns ps ms++[(m.A,zC (subL ps (offN ns m.k) (midN ns m.k)))]:=by simp [lkFam]
theorem infoLk:(Tryz.prog.info? 337).map (fun i=>(i.zero,i.size,i.bytes))=some (some (.agg #[.int .i64 0,.int .i64 0,.slice none 0 0,.slice none 0 0]),4,64):=by kernel_rfl
theorem rowLk:RowT Tryz.prog 328 337 4 64:=by
 obtain ⟨i0,hi,hz0,hz1,hz2⟩:=info_parts infoLk
 exact ⟨i0,_,Tryz.underlying328,hi,hz0,hz1,hz2,rfl,by decide,by decide⟩
def netB (gn gs q:Nat) (Ap:Option Addr) (P cp:Nat) (Al:Option Addr) (k cl:Nat):Ch:=.obj gn (.cells #[.pointer (some ⟨gs,0,none⟩),.slice Ap P cp,.int .i64 q,.slice Al k cl] 330 (0,0))
def netP (w:World) (B gn gs q P cp k cl:Nat) (ns:List Nat) (Ap As Al:Option Addr) (ps:List Int) (ms:List Lk):List Ch :=
 [.bel B w,.rd Ap (zC ps),.rd As (iCells ns),netB gn gs q Ap P cp Al k cl,.own B 337 4 (.slice Al k cl) k (lkCells ns Ap cp ms),famCh (lkFam ns ps ms)]
set_option maxRecDepth 100000 in
theorem netNew_any (w:World) (flo fhi gs q P cp0:Nat) (ns:List Nat) (A0:Option Addr) (ps:List Int) (hF:FormAt w flo fhi gs ns) (hh:fhi≤w.heap.size) (hn:NsOk ns) (hr:Rd w w.heap.size A0 (zC ps)) (hp:ps.length=P) (hP:P=offN ns (ns.length-1)) (hq:q≤62) :
  Calls Tryz.prog 205 #[.pointer (some ⟨gs,0,none⟩),.slice A0 P cp0,.int .i64 q] w fun e w'=>∃ gn Ap cp As Al cl ms,e=.returned (.tuple #[.pointer (some ⟨gn,0,none⟩),.bool true])∧P≤cp∧ms.map Lk.k=List.range (ns.length-1)∧(∀ m∈ms,midN ns m.k-offN ns m.k≤m.c)∧w.heap.size≤gn∧((∀ p:Addr,Ap=some p→w.heap.size≤p.block)∧(∀ p:Addr,As=some p→w.heap.size≤p.block)∧∀ m∈ms,∀ p:Addr,m.A=some p→w.heap.size≤p.block) ∧
   Mem w' (netP w w.heap.size gn gs q P cp (ns.length-1) cl ns Ap As Al ps ms):=by
 have CF:=K1 (fun W (hb:Below w.heap.size w W)=>hF.keep (W2:=W) fun g _ h2=>hb.block g (by omega))
 have CL:=K1 (fun W hb=>formLinks_any W flo fhi gs ns (CF.out W hb))
 have CN:=K1 (fun W hb=>formCount_any W flo fhi gs ns (CF.out W hb))
 have CS:=K1 (fun W (hb:Below w.heap.size w W)=>formSizes_any W flo fhi gs ns (CF.out W hb) (Nat.le_trans hh hb.size) (by have:=hn.len;omega))
 have CW:=K1 (fun W (hb:Below w.heap.size w W) k hk=>formWeights_any W flo fhi gs k ns (CF.out W hb) (Nat.le_trans hh hb.size) (by have:=hn.len;omega) hk)
 have CB:=K1 (fun W (hb:Below w.heap.size w W) k hk=>formBiases_any W flo fhi gs k ns (CF.out W hb) (Nat.le_trans hh hb.size) (by have:=hn.len;omega) hk)
 have CC:=K1 (fun W (hW:Rd W W.heap.size A0 (zC ps))=>vclone_any A0 P cp0 ps W hW hp (by have:=hn.few;omega))
 have HN:=K1 hn
 have HM:=K1 ((Mem.start w).add_rd (i:=0) rfl hr)
 have HP:=K1 (And.intro hp hP)
 have hl1:ns.length-1≤15:=by have:=hn.len;omega
 have HNL:=K1 (Eq.refl (ns.length-1))
 clear hF hn hr hp
 rw [← hP] at CN
 clear hP
 generalize hn1:ns.length-1=n1 at *
 have HN1:=K1 hn1
 clear hn1 HNL
 go_enter Tryz.func205,Tryz.ntmps205
 go_wp2_with fail
 (with_reducible refine (CN.out _ (HM.out.bel 0 rfl)).mono ?_)
 rintro e w1 ⟨rfl,rfl⟩
 clear CN
 go_wp2_with fail
 (with_reducible refine (CC.out _ (HM.out.rd 1 rfl)).mono ?_)
 rintro e w1 ⟨Ap,cp,rfl,ho,hcp,hb⟩
 have HAp:Hid (∀ p:Addr,Ap=some p→w.heap.size≤p.block):=K1 (own_from_base ho)
 replace HM:=K1 (HM.out.push_rd hb (rd_of_own ho) (own_from_base ho))
 clear hb ho CC
 go_wp2_with fail
 have HG:=K1 (HM.out.bel 0 rfl).size
 replace HM:=K1 (HM.out.alloc (.cells #[.pointer (some ⟨gs,0,none⟩),.slice Ap P cp,.int .i64 q,.slice none 0 0] 330))
 refine (CS.out _ (HM.out.bel 0 rfl)).mono ?_
 rintro e w2 ⟨As,cs,rfl,ho,hb⟩
 have hcs:=own_cap ho
 have HAs:Hid (∀ p:Addr,As=some p→w.heap.size≤p.block):=K1 (fun p hp=>Nat.le_trans (HM.out.bel 0 rfl).size (own_from_base ho p hp))
 replace HM:=K1 (HM.out.push_rd hb (rd_of_own ho) (own_from_base ho))
 clear hb ho CS
 generalize w1.heap.size=gn at *
 have HG2:=K1 (show gn<w2.heap.size from HM.out.lt 3 rfl)
 go_wp2_with fail
 refine (CL.out _ (HM.out.bel 0 rfl)).mono ?_
 rintro e w3 ⟨rfl,rfl⟩
 have HNL:=K1 (show ns.length=n1+1 by have:=HN1.out;have:=HN.out.len;omega)
 clear CL
 go_wp2_with fail
 have HM0:=K1 (((HM.out.pick [0,2,4,3] [.bel w.heap.size w,.rd Ap (zC ps),.rd As (iCells ns),netB gn gs q Ap P cp none 0 0] rfl (by decide)).add (c:=.own w.heap.size 337 4 (.slice none 0 0) 0 (lkCells ns Ap cp [])) ⟨own_nil _ _ _ _,(HM.out.bel 0 rfl).size⟩ (fun _ _ _ _ g hg=>by cases hg)).add (c:=famCh (lkFam ns ps [])) (fam_local (fun a ha=>by cases ha)) (fun _ _ _ _ g hg=>by obtain ⟨a,ha,_⟩:=hg;cases ha))
 clear HM
 go_loopw [42] (fun i wr=>∃ (k:Nat) (Al:Option Addr) (cl:Nat) (ms:List Lk),k≤n1∧i=.int .i64 k∧Hid (ms.map Lk.k=List.range k∧(∀ m∈ms,midN ns m.k-offN ns m.k≤m.c∧∀ p:Addr,m.A=some p→w.heap.size≤p.block))∧Hid (Mem wr (netP w w.heap.size gn gs q P cp k cl ns Ap As Al ps ms))) (fun i _=>n1-(intOf i).toNat)
 case atStart=>exact ⟨0,none,0,[],Nat.zero_le _,rfl,K1 ⟨rfl,fun m hm=>by cases hm⟩,HM0⟩
 case round =>
  clear HM0
  obtain ⟨k,Al,cl,ms,hk,rfl,HMS,HM⟩:=hrel
  by_cases hlt:k<n1
  · obtain ⟨a,b,ha,hb,h1,h2,e1,e2,h3,h4,h5⟩:=HN.out.at_ (by have:=HN1.out;omega:k<ns.length-1)
    have CWk:=K1 (fun W hb=>CW.out W hb k hlt)
    have CBk:=K1 (fun W hb=>CB.out W hb k hlt)
    clear CW CB
    have hba:=Nat.mul_le_mul h2 h1
    rw [HN1.out,← HP.out.2] at h5
    have hP1000:P≤1000:=by rw [HP.out.2,← HN1.out];exact HN.out.few
    generalize hx:offN ns k=x at *
    generalize hy:midN ns k=y at *
    generalize hz:offN ns (k+1)=z at *
    have hxy:x<y:=by omega
    have hyz:y<z:=by omega
    have hyx:¬ y=x:=by omega
    have hzy:¬ z=y:=by omega
    have HE:=K1 (And.intro hx (And.intro hy (And.intro hz (And.intro e1 (And.intro e2 (And.intro ha hb))))))
    have hzcp:z≤cp:=by omega
    have hxyl:x≤y:=by omega
    have hycp:y≤cp:=by omega
    have hyzl:y≤z:=by omega
    have hzb:z≤1000:=by omega
    have hyb:y≤1000:=by omega
    have hxb:x≤1000:=by omega
    obtain ⟨k1,hk1⟩:∃ k1,k1=k+1:=⟨_,rfl⟩
    have hk1i:(k:Int)+1=(k1:Int):=by omega
    have hkcs:k1<ns.length:=by have:=HNL.out;omega
    have hkc0:k<ns.length:=by omega
    have hk1b:k1≤16:=by omega
    have wk1:IntKind.i64.wrap (k1:Int)=(k1:Int):=IntWalk.i64_in _ (by omega)
    have HK1:=K1 hk1
    clear hk1
    clear hx hy hz e1 e2 ha hb hba
    go_wp2_with fail
    refine (CWk.out _ (HM.out.bel 0 rfl)).mono ?_
    rintro e w4 ⟨rfl,hb4⟩
    replace HM:=K1 (HM.out.below hb4)
    clear hb4 CWk
    go_wp2_with fail
    refine (CBk.out _ (HM.out.bel 0 rfl)).mono ?_
    rintro e w5 ⟨rfl,hb5⟩
    have hm5:=((HM.out.below hb5).alloc (.cells #[.int .i64 x,.int .i64 y] 47)).alloc (.cells #[.int .i64 y,.int .i64 z] 47)
    simp only [World.size_alloc] at hm5
    replace HM:=K1 hm5
    clear hb5 hm5 CBk
    have CM:=K1 (fun W A c (hW:Rd W W.heap.size A (zC (subL ps x y)))=>matOf_any W b a (y-x) c A (subL ps x y) ⟨h2,by omega⟩ ⟨h1,by omega⟩ (by have:=HE.out.2.2.2.1;omega) (by omega) hW (subL_len (by omega) (by have:=HP.out.1;omega)))
    go_upto_region 9 with fail
    go_cut [13,14] from 52 to 93 (fun s13 s14 W=>∃ (g13:Nat) (A3:Option Addr) (c3:Nat),s13=.pointer (some ⟨g13,0,none⟩)∧s14=.bool true∧y-x≤c3∧Hid (∀ p:Addr,A3=some p→w.heap.size≤p.block)∧Hid (Mem W (netP w w.heap.size gn gs q P cp k cl ns Ap As Al ps ms++[.obj w5.heap.size (.cells #[.int .i64 x,.int .i64 y] 47 (0,0)),.obj (w5.heap.size+1) (.cells #[.int .i64 y,.int .i64 z] 47 (0,0)),.rd A3 (zC (subL ps x y)),matB g13 b a A3 (y-x) c3])))
    case rest =>
     obtain ⟨g13,A3,c3,rfl,rfl,hc3,HA3,HMr⟩:=hcut
     have HLK:=K1 (show lkC ns Ap cp ⟨k,A3,c3⟩=[.int .i64 b,.int .i64 a,.slice A3 (y-x) c3,.slice (Ap.map fun p=>p.add y) (z-y) (cp-y)] by
      obtain ⟨hx,hy,hz,_,_,ha,hb⟩:=HE.out
      unfold lkC
      dsimp only
      rw [hx,hy,hz,ha,hb];rfl)
     clear CM HM
     go_wp2_with fail
     refine wp_region_stage (.reads [0,1,2,3,4,5,6,7,8,9,10,11,12,13,14,15] (.eff 16 (.eff 17 (.eff 18 (.eff 19 (.eff 20 (.fin))))))) 20
      (fun W'=>(∀ i,W'.cell? ⟨gn,i,none⟩=([.pointer (some ⟨gs,0,none⟩),.slice Ap P cp,.int .i64 q,.slice Al k cl]:List Value)[i]?)∧(∀ i,W'.cell? ⟨w5.heap.size+1,i,none⟩=([.int .i64 y,.int .i64 z]:List Value)[i]?)∧(∀ i,W'.cell? ⟨g13,i,none⟩=([.int .i64 b,.int .i64 a,.slice A3 (y-x) c3]:List Value)[i]?))
      (by kernel_rfl) (by kernel_rfl) (by intro d v c a w h;cases d <;> exact h) ?_
     replace HMr:=K1 HMr.out.drew
     refine PlS.reads_ ⟨HMr.out.cells 3 rfl,HMr.out.cells 7 rfl,HMr.out.cells 9 rfl⟩ (by kernel_rfl) ?_
     simp only [pickO,p1,p2,p3,p4]
     apply Exists.intro
     apply And.intro
     · intro W' hS
       obtain ⟨s1,s2,s3⟩:=hS
       repeat still_step
       exact wpStill_nil rfl
     refine PlS.eff_ ?_
     simp only [pickO,p1,p2,p3,p4]
     go_wp2_with fail
     refine name_after fun W7 hW=>?_
     have HM1:=K1 (HMr.out.alloc_ hW.out)
     clear hW HMr
     refine After.go ⟨HM1.out.cells 3 rfl,HM1.out.cells 7 rfl,HM1.out.cells 9 rfl⟩ ?_
     refine PlS.eff_ ?_
     simp only [pickO,p1,p2,p3,p4]
     refine wpList_append_mem rfl _ _ 328 rfl HM1.out 4 rowLk rfl rfl _ 1 _ [.int .i64 b,.int .i64 a,.slice A3 (y-x) c3,.slice (Ap.map fun p=>p.add y) (z-y) (cp-y)] rfl (HM1.out.box 10 rfl) rfl (by intro u hu;simp at hu;rcases hu with rfl | rfl | rfl | rfl <;> rfl) (by omega) ?_
     intro A' c' W8 hM8
     have HM2:=K1 hM8
     clear hM8 HM1
     go_wp2_with fail
     refine After.go ⟨HM2.out.cells 3 rfl,HM2.out.cells 7 rfl,HM2.out.cells 9 rfl⟩ ?_
     refine PlS.eff_ ?_
     simp only [pickO,p1,p2,p3,p4]
     go_wp2_with fail
     refine After.go ⟨HM2.out.cells 3 rfl,HM2.out.cells 7 rfl,HM2.out.cells 9 rfl⟩ ?_
     refine PlS.eff_ ?_
     simp only [pickO,p1,p2,p3,p4]
     go_wp2_with fail
     refine After.go ⟨HM2.out.cells 3 rfl,HM2.out.cells 7 rfl,HM2.out.cells 9 rfl⟩ ?_
     refine PlS.eff_ ?_
     simp only [pickO,p1,p2,p3,p4]
     have d3:=HM2.out.cells 3 rfl
     have f3:=fun j=>HM2.out.frozen 3 j rfl
     have HM3:=K1 (((HM2.out.set (i:=3) (j:=3) rfl (.slice A' (k+1) c')).famSnoc (i:=5) (j:=8) rfl rfl).front 6)
     clear HM2
     go_wp2_with fail
     refine After.last (by decide) (PlS.fin_ ?_)
     go_wp2_with fail
     go_roundw
     case rel =>
      refine ⟨k1,A',c',ms++[⟨k,A3,c3⟩],by omega,rfl,K1 ⟨?_,fun m hm=>?_⟩,K1 ?_⟩
      · rw [List.map_append,HMS.out.1,HK1.out,List.range_succ];rfl
      · rcases List.mem_append.1 hm with hm | hm
        · exact HMS.out.2 m hm
        · rw [List.mem_singleton.1 hm]
          dsimp only
          exact ⟨by rw [HE.out.1,HE.out.2.1];exact hc3,HA3.out⟩
      · unfold netP
        rw [lkCells_snoc,HLK.out,lkFam_snoc,HK1.out]
        dsimp only
        rw [HE.out.1,HE.out.2.1]
        exact HM3.out
     case measure=>simp [intOf];omega
    case first =>
     refine name_wp fun W0 hW0=>?_
     replace HM:=K1 (hW0.out.symm ▸ HM.out)
     clear hW0
     obtain ⟨bS,oS,rfl,_⟩:=HM.out.rd 2 rfl (by rw [iCells_len];omega)
     have HSA:=K1 (show (iCells ns)[k]?=some (.int .i64 a)∧(iCells ns)[k1]?=some (.int .i64 b) from ⟨by simp [iCells,HE.out.2.2.2.2.2.1],by rw [HK1.out];simp [iCells,HE.out.2.2.2.2.2.2]⟩)
     have hyps:y≤ps.length:=by have:=HP.out.1;omega
     have HYP:=K1 hyps
     clear hyps
     refine wp_region_stage (.reads [0,1,2,3,4,5,6,7,8,9,10,11,12,13,14,15,16,17] (.two 18 22 (.reads [19,20,21] (.eff 22 (.eff 23 (.reads [24] (.fin))))) (.eff 18 (.reads [19,20,21] (.eff 23 (.reads [24] (.fin))))))) 25
      (fun W'=>W'.cell? ⟨bS,oS+k,none⟩=some (.int .i64 a)∧W'.cell? ⟨bS,oS+k1,none⟩=some (.int .i64 b)∧(∀ i,W'.cell? ⟨gn,i,none⟩=([.pointer (some ⟨gs,0,none⟩),.slice Ap P cp,.int .i64 q,.slice Al k cl]:List Value)[i]?)∧(∀ i,W'.cell? ⟨w5.heap.size,i,none⟩=([.int .i64 x,.int .i64 y]:List Value)[i]?))
      (by kernel_rfl) (by kernel_rfl) (by intro d v c a w h;cases d <;> exact h) ?_
     replace HM:=K1 HM.out.drew
     refine PlS.reads_ ⟨HM.out.rdAt 2 rfl HSA.out.1,HM.out.rdAt 2 rfl HSA.out.2,HM.out.cells 3 rfl,HM.out.cells 6 rfl⟩ (by kernel_rfl) ?_
     simp only [pickO,p1,p2,p3,p4]
     apply Exists.intro
     apply And.intro
     · intro W' hS
       obtain ⟨s1,s2,s3,s4⟩:=hS
       repeat still_step
       exact wpStill_nil rfl
     have CK:=K1 (CM.out _ (Ap.map fun p=>p.add x) (cp-x) (HM.out.subZ (i:=1) rfl hxy HYP.out))
     refine PlS.two_ (PlS.eff_ ?_) (PlS.eff_ ?_)
     · simp only [pickO,p1,p2,p3,p4]
       go_wp2_with fail
       refine (CK.out).mono ?_
       rintro e w6 ⟨A3,c3,rfl,ho,hc3,hb6⟩
       have HA3:Hid (∀ p:Addr,A3=some p→w.heap.size≤p.block):=K1 (fun p hp=>Nat.le_trans (HM.out.bel 0 rfl).size (own_from_base ho p hp))
       have HMa:=K1 (HM.out.push_rd hb6 (rd_of_own ho) (own_from_base ho))
       clear ho hb6 CK
       go_wp2_with fail
       refine After.go ⟨HMa.out.rdAt 2 rfl HSA.out.1,HMa.out.rdAt 2 rfl HSA.out.2,HMa.out.cells 3 rfl,HMa.out.cells 6 rfl⟩ ?_
       refine PlS.reads_ ⟨HMa.out.rdAt 2 rfl HSA.out.1,HMa.out.rdAt 2 rfl HSA.out.2,HMa.out.cells 3 rfl,HMa.out.cells 6 rfl⟩ (by kernel_rfl) ?_
       simp only [pickO,p1,p2,p3,p4]
       apply Exists.intro
       apply And.intro
       · intro W' hS
         repeat still_step
         exact wpStill_nil rfl
       refine PlS.eff_ ?_
       simp only [pickO,p1,p2,p3,p4]
       go_wp2_with fail
       refine name_after fun W7 hW=>?_
       have HMb:=K1 (HMa.out.alloc_ hW.out)
       clear hW HMa
       refine After.go ⟨HMb.out.rdAt 2 rfl HSA.out.1,HMb.out.rdAt 2 rfl HSA.out.2,HMb.out.cells 3 rfl,HMb.out.cells 6 rfl⟩ ?_
       refine PlS.eff_ ?_
       simp only [pickO,p1,p2,p3,p4]
       have c9:=HMb.out.cells 9 rfl
       have f9:=fun j=>HMb.out.frozen 9 j rfl
       have HMc:=K1 (((HMb.out.set (i:=9) (j:=0) rfl (.int .i64 b)).set (i:=9) (j:=1) rfl (.int .i64 a)).set (i:=9) (j:=2) rfl (.slice A3 (y-x) c3))
       clear HMb
       go_wp2_with fail
       refine After.go ⟨HMc.out.rdAt 2 rfl HSA.out.1,HMc.out.rdAt 2 rfl HSA.out.2,HMc.out.cells 3 rfl,HMc.out.cells 6 rfl⟩ ?_
       clear c9 f9
       refine PlS.reads_ ⟨HMc.out.rdAt 2 rfl HSA.out.1,HMc.out.rdAt 2 rfl HSA.out.2,HMc.out.cells 3 rfl,HMc.out.cells 6 rfl⟩ (by kernel_rfl) ?_
       simp only [pickO,p1,p2,p3,p4]
       apply Exists.intro
       apply And.intro
       · intro W' hS
         repeat still_step
         exact wpStill_nil rfl
       refine PlS.fin_ ?_
       go_wp2_with fail
       go_meet
       exact ⟨_,A3,c3,rfl,rfl,hc3,HA3,K1 (HMc.out.pick [0,1,2,3,4,5,6,7,8,9] _ rfl (by decide))⟩
     · simp only [pickO,p1,p2,p3,p4]
       go_wp2_with fail
       refine name_after fun W7 hW=>?_
       have HMa:=K1 (show Mem W7 (_++[.obj W0.heap.size _]) from HM.out.alloc_ hW.out)
       clear hW HM CK
       refine After.go ⟨HMa.out.rdAt 2 rfl HSA.out.1,HMa.out.rdAt 2 rfl HSA.out.2,HMa.out.cells 3 rfl,HMa.out.cells 6 rfl⟩ ?_
       have CK:=K1 (CM.out _ (Ap.map fun p=>p.add x) (cp-x) (HMa.out.subZ (i:=1) rfl hxy HYP.out))
       refine PlS.eff_ ?_
       simp only [pickO,p1,p2,p3,p4]
       go_wp2_with fail
       refine (CK.out).mono ?_
       rintro e w6 ⟨A3,c3,rfl,ho,hc3,hb6⟩
       have HA3:Hid (∀ p:Addr,A3=some p→w.heap.size≤p.block):=K1 (fun p hp=>Nat.le_trans (HMa.out.bel 0 rfl).size (own_from_base ho p hp))
       have HMb:=K1 (HMa.out.push_rd hb6 (rd_of_own ho) (own_from_base ho))
       clear ho hb6 CK HMa
       go_wp2_with fail
       refine After.go ⟨HMb.out.rdAt 2 rfl HSA.out.1,HMb.out.rdAt 2 rfl HSA.out.2,HMb.out.cells 3 rfl,HMb.out.cells 6 rfl⟩ ?_
       refine PlS.reads_ ⟨HMb.out.rdAt 2 rfl HSA.out.1,HMb.out.rdAt 2 rfl HSA.out.2,HMb.out.cells 3 rfl,HMb.out.cells 6 rfl⟩ (by kernel_rfl) ?_
       simp only [pickO,p1,p2,p3,p4]
       apply Exists.intro
       apply And.intro
       · intro W' hS
         repeat still_step
         exact wpStill_nil rfl
       refine PlS.eff_ ?_
       simp only [pickO,p1,p2,p3,p4]
       have c9:=HMb.out.cells 8 rfl
       have f9:=fun j=>HMb.out.frozen 8 j rfl
       have HMc:=K1 (((HMb.out.set (i:=8) (j:=0) rfl (.int .i64 b)).set (i:=8) (j:=1) rfl (.int .i64 a)).set (i:=8) (j:=2) rfl (.slice A3 (y-x) c3))
       clear HMb
       go_wp2_with fail
       refine After.go ⟨HMc.out.rdAt 2 rfl HSA.out.1,HMc.out.rdAt 2 rfl HSA.out.2,HMc.out.cells 3 rfl,HMc.out.cells 6 rfl⟩ ?_
       clear c9 f9
       refine PlS.reads_ ⟨HMc.out.rdAt 2 rfl HSA.out.1,HMc.out.rdAt 2 rfl HSA.out.2,HMc.out.cells 3 rfl,HMc.out.cells 6 rfl⟩ (by kernel_rfl) ?_
       simp only [pickO,p1,p2,p3,p4]
       apply Exists.intro
       apply And.intro
       · intro W' hS
         repeat still_step
         exact wpStill_nil rfl
       refine PlS.fin_ ?_
       go_wp2_with fail
       go_meet
       exact ⟨_,A3,c3,rfl,rfl,hc3,HA3,K1 (HMc.out.pick [0,1,2,3,4,5,6,7,9,8] _ rfl (by decide))⟩
  · have hkn:k=n1:=by omega
    subst hkn
    go_wp2_with fail
    go_ret2
    exact ⟨gn,Ap,cp,As,Al,cl,ms,rfl,hcp,HMS.out.1,fun m hm=>(HMS.out.2 m hm).1,HG.out,⟨HAp.out,HAs.out,fun m hm=>(HMS.out.2 m hm).2⟩,HM.out⟩
end Go.Proofs.YtdpojpcoghcieaaGreat
