/- A part of the proof of TopSerial: RefRound. Conditions: none. -/
import Derived.Test.YtdpojpcoghcieaaGreatSdBV
set_option maxHeartbeats 8000000
namespace Go.Proofs.YtdpojpcoghcieaaGreat
open Lib renaming hid → K1
open List renaming filterMap_cons → p1, filterMap_nil → p2, getElem?_cons_zero → p3, getElem?_cons_succ → p4
open Go.RowKit
def raO (base:Nat) (A:Option Addr) (c:Nat) (l:List Ac):Ch:=.own base 74 9 (.slice A l.length c) l.length (acells l)
set_option maxRecDepth 100000 in
theorem rround_any (j:Jb) (u ph r:Nat) (w:World) (hk:1≤j.workers∧j.workers≤1000) (hw:u<j.workers) (hr:r+1<j.workers) (hp:ph≤1) (hlo:j.lo≤j.hi) (hhi:j.hi≤1000) (hs:1≤j.chunk∧j.chunk≤1048576) :
  Calls Tryz.prog 134 #[.agg j.cells.toArray,.int .i64 u,.int .i64 ph,.int .i64 r] w fun e w'=>∃ A c,e=.returned (.slice A (roundL j u ph r).length c)∧(roundL j u ph r).length≤c∧Mem w' [.bel w.heap.size w,raO w.heap.size A c (roundL j u ph r)]:=by
 have C1:=K1 (fun W=>rsegment_any j u ph r true W hk hw hr hp)
 have C2:=K1 (fun W=>rsegment_any j u ph r false W hk hw hr hp)
 have hl1:=segS_lt (w:=u) (ph:=ph) (r:=r) hk.1
 have hl2:=segR_lt (w:=u) (ph:=ph) (r:=r) hk.1
 have hsl:(jobSegs j).length=j.workers:=by rw [jobSegs,shift_len,even_len]
 have hin:=segs_in hlo hk.1
 obtain ⟨po,hpo⟩:=get_some (jobSegs j) (segS j.workers u ph r) (by omega)
 obtain ⟨pi,hpi⟩:=get_some (jobSegs j) (segR j.workers u ph r) (by omega)
 have HRL:=K1 (round_eq hpo hpi)
 have C3:=K1 (fun W=>rchunksOf_any j _ po W hpo hk hlo hhi hs)
 have C4:=K1 (fun W=>rchunksOf_any j _ pi W hpi hk hlo hhi hs)
 have ho:=hin _ (List.mem_of_getElem? hpo)
 have hi:=hin _ (List.mem_of_getElem? hpi)
 have hx1:(segChunks j.chunk po).length≤1000:=by have:=segChunks_len j.chunk po;have:=pcnt_le (po.2-po.1) j.chunk;omega
 have hx2:(segChunks j.chunk pi).length≤1000:=by have:=segChunks_len j.chunk pi;have:=pcnt_le (pi.2-pi.1) j.chunk;omega
 simp only [segX,if_true,Bool.false_eq_true,if_false] at C1 C2
 clear hin hpo hpi ho hi
 have hm:=(Mem.start w).alloc (.cells j.cells.toArray 245)
 have HM:=K1 hm
 clear hm
 generalize segChunks j.chunk po=xs at *
 generalize segChunks j.chunk pi=ys at *
 generalize segS j.workers u ph r=so at *
 generalize segR j.workers u ph r=si at *
 obtain ⟨step,bucket,lo,hi,k,chunk⟩:=j
 dsimp only [Jb.cells] at hk hw hr HM C1 C2 C3 C4 hlo hhi hs HRL hl1 hl2 ⊢
 obtain ⟨nx,hnx⟩:∃ nx,nx=xs.length:=⟨_,rfl⟩
 obtain ⟨ny,hny⟩:∃ ny,ny=ys.length:=⟨_,rfl⟩
 rw [← hnx] at C3 hx1 HRL
 rw [← hny] at C4 hx2 HRL
 obtain ⟨M,hMM⟩:∃ M,M=max nx ny:=⟨_,rfl⟩
 rw [← hMM] at HRL
 have HMX:=K1 (show nx≤M∧ny≤M∧(M=nx∨M=ny) by omega)
 obtain ⟨P,hP⟩:∃ P,P=addsTo ⟨step,bucket,lo,hi,k,chunk⟩ ph r xs ys:=⟨_,rfl⟩
 obtain ⟨aS,haS⟩:∃ f,f=addAc ⟨step,bucket,lo,hi,k,chunk⟩ true ph r:=⟨_,rfl⟩
 obtain ⟨aR,haR⟩:∃ f,f=addAc ⟨step,bucket,lo,hi,k,chunk⟩ false ph r:=⟨_,rfl⟩
 have HSUC:=K1 (show ∀ i,P (i+1)=P i++((xs[i]?.map (aS i)).toList++(ys[i]?.map (aR i)).toList) by intro i;rw [hP,haS,haR];exact addsTo_succ _ _ _ _ _ i)
 have HLEN:=K1 (show ∀ i,(P i).length≤2*i by intro i;rw [hP];exact addsTo_len _ _ _ _ _ i)
 have HAL:=K1 (fun W L (i:Nat) (h:Mem W L)=>h.alloc (.cells #[.int .i64 step,.int .i64 bucket,.int .i64 ph,.int .i64 r,.int .i64 i] 71))
 have HP0:=K1 (show P 0=[] by rw [hP];rfl)
 have HCS:=K1 (show ∀ i x y,(aS i (x,y)).cells=Ac.cells ⟨true,false,step,bucket,ph,r,i,x,y⟩ by intro i x y;rw [haS];rfl)
 have HCR:=K1 (show ∀ i x y,(aR i (x,y)).cells=Ac.cells ⟨false,ph == 0,step,bucket,ph,r,i,x,y⟩ by intro i x y;rw [haR];rfl)
 rw [← hP] at HRL
 clear hP haS haR
 have HX:=K1 hnx
 have HY:=K1 hny
 have hMb:M≤1000:=by omega
 clear hnx hny hMM
 rcases (show ph=0∨ph=1 by omega) with rfl | rfl
 · go_enter Tryz.func134,Tryz.ntmps134
   have c0:=HM.out.cells 1 rfl
   go_wp2_with fail
   refine (C1.out _).mono ?_
   rintro e w1 ⟨rfl,hb⟩
   replace HM:=K1 (HM.out.below hb)
   clear hb c0
   have c0:=HM.out.cells 1 rfl
   go_wp2_with fail
   refine (C2.out _).mono ?_
   rintro e w2 ⟨rfl,hb⟩
   replace HM:=K1 (HM.out.below hb)
   clear hb c0
   have c0:=HM.out.cells 1 rfl
   go_wp2_with fail
   refine (C3.out _).mono ?_
   rintro e w3 ⟨A4,c4,rfl,hc4,hm⟩
   have hrd:=rd_of_own (hm.own 1 rfl)
   have hA1:=own_from_base (hm.own 1 rfl)
   replace HM:=K1 (HM.out.push_rd (hm.bel 0 rfl) hrd hA1)
   clear hm hrd hA1 c0
   have c0:=HM.out.cells 1 rfl
   go_wp2_with fail
   refine (C4.out _).mono ?_
   rintro e w4 ⟨A5,c5,rfl,hc5,hm⟩
   have hrd:=rd_of_own (hm.own 1 rfl)
   have hA1:=own_from_base (hm.own 1 rfl)
   replace HM:=K1 (HM.out.push_rd (hm.bel 0 rfl) hrd hA1)
   clear hm hrd hA1 c0 C1 C2 C3 C4
   have HM0:=K1 (HM.out.add (c:=raO w.heap.size none 0 []) ⟨own_nil _ _ _ _,(HM.out.bel 0 rfl).size⟩ (fun _ _ _ _ g hg=>by cases hg))
   clear HM
   go_wp2_with fail
   go_loopw [15,16] (fun s15 s16 wr=>∃ (i:Nat) (A:Option Addr) (c:Nat),i≤M∧s15=.slice A (P i).length c∧s16=.int .i64 i∧Hid (Mem wr [.bel w.heap.size w,.obj w.heap.size (.cells #[.int .i64 step,.int .i64 bucket,.int .i64 lo,.int .i64 hi,.int .i64 k,.int .i64 chunk] 245 (0,0)),.rd A4 (rcells xs),.rd A5 (rcells ys),raO w.heap.size A c (P i)])) (fun _ s16 _=>M-(intOf s16).toNat)
   case atStart=>exact ⟨0,none,0,Nat.zero_le _,by rw [HP0.out];rfl,rfl,K1 (by rw [HP0.out];exact HM0.out)⟩
   case round =>
    clear HM0
    obtain ⟨i,A,c,hiM,rfl,rfl,HM⟩:=hrel
    by_cases hlt:i<M
    · have hsz:=HLEN.out i
      have HE0:=K1 (HSUC.out i)
      obtain ⟨n,hn⟩:∃ n,n=(P i).length:=⟨_,rfl⟩
      rw [← hn] at hsz ⊢
      replace HM:=K1 (show Mem wr [.bel w.heap.size w,.obj w.heap.size (.cells #[.int .i64 step,.int .i64 bucket,.int .i64 lo,.int .i64 hi,.int .i64 k,.int .i64 chunk] 245 (0,0)),.rd A4 (rcells xs),.rd A5 (rcells ys),.own w.heap.size 74 9 (.slice A n c) n (acells (P i))] by rw [hn];exact HM.out)
      have HN:=K1 hn
      clear hn
      have c0:=HM.out.cells 1 rfl
      by_cases hx:i<nx
      · by_cases hy:i<ny
        · obtain ⟨⟨xx,yx⟩,hx⟩:=get_some xs i (by have:=HX.out;omega)
          obtain ⟨bx,ox,rfl,_⟩:=HM.out.ranges 2 rfl (by have:=HX.out;omega)
          have Hx:=K1 hx
          clear hx
          obtain ⟨⟨xq,yq⟩,hq⟩:=get_some ys i (by have:=HY.out;omega)
          obtain ⟨bq,oq,rfl,_⟩:=HM.out.ranges 3 rfl (by have:=HY.out;omega)
          have Hq:=K1 hq
          clear hq
          have HE:=K1 (show P (i+1)=P i++([aS i (xx,yx)]++[aR i (xq,yq)]) by
           rw [HSUC.out,show xs[i]?=some (xx,yx) from Hx.out,show ys[i]?=some (xq,yq) from Hq.out];rfl)
          have c0:=HM.out.cells 1 rfl
          replace HM:=K1 (HAL.out _ _ i HM.out)
          go_wp2_with fail
          clear c0
          generalize wr.heap.size=gt at *
          refine name_wp fun W0 hW=>?_
          replace HM:=K1 (hW.out.symm ▸ HM.out)
          clear hW
          refine wp_region_stage (.reads [0,1,2,3,4,5,6] (.eff 7 (.eff 8 (.reads [9] (.fin))))) 10 (fun W'=>(∀ j,W'.cell? ⟨gt,j,none⟩=([.int .i64 step,.int .i64 bucket,.int .i64 ((0:Nat):Int),.int .i64 r,.int .i64 i]:List Value)[j]?)∧W'.cell? ⟨bx,ox+i*2,none⟩=some (.int .i64 xx)∧W'.cell? ⟨bx,ox+i*2+1,none⟩=some (.int .i64 yx))
           (by kernel_rfl) (by kernel_rfl) (by intro d v c a w h;cases d <;> exact h) ?_
          replace HM:=K1 HM.out.drew
          generalize W0.drew=V at *
          refine PlS.reads_ ⟨HM.out.cells 5 rfl,HM.out.range2 2 rfl Hx.out⟩ (by kernel_rfl) ?_
          simp only [pickO,p1,p2,p3,p4]
          apply Exists.intro
          apply And.intro
          · intro W' hS
            obtain ⟨s0,s1,s2⟩:=hS
            repeat still_step
            exact wpStill_nil rfl
          refine PlS.eff_ ?_
          simp only [pickO,p1,p2,p3,p4]
          go_wp2_with fail
          refine name_after fun W7 hW=>?_
          replace HM:=K1 (HM.out.alloc_ hW.out)
          clear hW
          refine After.go ⟨HM.out.cells 5 rfl,HM.out.range2 2 rfl Hx.out⟩ ?_
          refine PlS.eff_ ?_
          simp only [pickO,p1,p2,p3,p4]
          refine wpList_append_mem (n:=n) rfl _ _ 242 rfl HM.out 4 rowRA rfl rfl _ 1 _ (Ac.cells ⟨true,false,step,bucket,_,r,i,xx,yx⟩) rfl (HM.out.box 6 rfl) rfl (acells_one _) (by omega) ?_
          intro A' c' W8 hM8
          replace HM:=K1 (hM8.front 6)
          clear hM8
          go_wp2_with fail
          refine After.go ⟨HM.out.cells 5 rfl,HM.out.range2 2 rfl Hx.out⟩ ?_
          refine PlS.reads_ ⟨HM.out.cells 5 rfl,HM.out.range2 2 rfl Hx.out⟩ (by kernel_rfl) ?_
          simp only [pickO,p1,p2,p3,p4]
          apply Exists.intro
          apply And.intro
          · intro W' hS
            clear hS
            repeat still_step
            exact wpStill_nil rfl
          refine PlS.fin_ ?_
          go_wp2_with fail
          refine name_wp fun W0 hW=>?_
          replace HM:=K1 (hW.out.symm ▸ HM.out)
          clear hW
          refine wp_region_stage (.reads [0,1,2,3,4,5,6,7,8] (.eff 9 (.eff 10 (.reads [11] (.fin))))) 12 (fun W'=>(∀ j,W'.cell? ⟨gt,j,none⟩=([.int .i64 step,.int .i64 bucket,.int .i64 ((0:Nat):Int),.int .i64 r,.int .i64 i]:List Value)[j]?)∧W'.cell? ⟨bq,oq+i*2,none⟩=some (.int .i64 xq)∧W'.cell? ⟨bq,oq+i*2+1,none⟩=some (.int .i64 yq))
           (by kernel_rfl) (by kernel_rfl) (by intro d v c a w h;cases d <;> exact h) ?_
          replace HM:=K1 HM.out.drew
          generalize W0.drew=V at *
          refine PlS.reads_ ⟨HM.out.cells 5 rfl,HM.out.range2 3 rfl Hq.out⟩ (by kernel_rfl) ?_
          simp only [pickO,p1,p2,p3,p4]
          apply Exists.intro
          apply And.intro
          · intro W' hS
            obtain ⟨s0,s1,s2⟩:=hS
            repeat still_step
            exact wpStill_nil rfl
          refine PlS.eff_ ?_
          simp only [pickO,p1,p2,p3,p4]
          go_wp2_with fail
          refine name_after fun W7 hW=>?_
          replace HM:=K1 (HM.out.alloc_ hW.out)
          clear hW
          refine After.go ⟨HM.out.cells 5 rfl,HM.out.range2 3 rfl Hq.out⟩ ?_
          refine PlS.eff_ ?_
          simp only [pickO,p1,p2,p3,p4]
          refine wpList_append_mem (n:=(n+1)) rfl _ _ 242 rfl HM.out 4 rowRA rfl rfl _ 1 _ (Ac.cells ⟨false,_,step,bucket,_,r,i,xq,yq⟩) rfl (HM.out.box 6 rfl) rfl (acells_one _) (by omega) ?_
          intro A' c' W8 hM8
          replace HM:=K1 (hM8.front 6)
          clear hM8
          go_wp2_with fail
          refine After.go ⟨HM.out.cells 5 rfl,HM.out.range2 3 rfl Hq.out⟩ ?_
          refine PlS.reads_ ⟨HM.out.cells 5 rfl,HM.out.range2 3 rfl Hq.out⟩ (by kernel_rfl) ?_
          simp only [pickO,p1,p2,p3,p4]
          apply Exists.intro
          apply And.intro
          · intro W' hS
            clear hS
            repeat still_step
            exact wpStill_nil rfl
          refine PlS.fin_ ?_
          go_wp2_with fail
          go_roundw
          case rel =>
           refine ⟨i+1,A',c',by omega,by rw [HE.out];simp [HN.out],by go_num,?_⟩
           have h9:=HM.out.front 5
           refine K1 (Mem.cast h9 ?_)
           unfold raO
           rw [HE.out,← List.append_assoc,acells_snoc,acells_snoc,HCS.out,HCR.out]
           simp only [List.length_append,List.length_singleton,← HN.out]
           rfl
          case measure=>simp [intOf];omega
        · obtain ⟨⟨xx,yx⟩,hx⟩:=get_some xs i (by have:=HX.out;omega)
          obtain ⟨bx,ox,rfl,_⟩:=HM.out.ranges 2 rfl (by have:=HX.out;omega)
          have Hx:=K1 hx
          clear hx
          have HE:=K1 (show P (i+1)=P i++([aS i (xx,yx)]++[]) by
           rw [HSUC.out,show xs[i]?=some (xx,yx) from Hx.out,show ys[i]?=none from List.getElem?_eq_none (by have:=HY.out;omega)];rfl)
          have c0:=HM.out.cells 1 rfl
          replace HM:=K1 (HAL.out _ _ i HM.out)
          go_wp2_with fail
          clear c0
          generalize wr.heap.size=gt at *
          refine name_wp fun W0 hW=>?_
          replace HM:=K1 (hW.out.symm ▸ HM.out)
          clear hW
          refine wp_region_stage (.reads [0,1,2,3,4,5,6] (.eff 7 (.eff 8 (.reads [9] (.fin))))) 10 (fun W'=>(∀ j,W'.cell? ⟨gt,j,none⟩=([.int .i64 step,.int .i64 bucket,.int .i64 ((0:Nat):Int),.int .i64 r,.int .i64 i]:List Value)[j]?)∧W'.cell? ⟨bx,ox+i*2,none⟩=some (.int .i64 xx)∧W'.cell? ⟨bx,ox+i*2+1,none⟩=some (.int .i64 yx))
           (by kernel_rfl) (by kernel_rfl) (by intro d v c a w h;cases d <;> exact h) ?_
          replace HM:=K1 HM.out.drew
          generalize W0.drew=V at *
          refine PlS.reads_ ⟨HM.out.cells 5 rfl,HM.out.range2 2 rfl Hx.out⟩ (by kernel_rfl) ?_
          simp only [pickO,p1,p2,p3,p4]
          apply Exists.intro
          apply And.intro
          · intro W' hS
            obtain ⟨s0,s1,s2⟩:=hS
            repeat still_step
            exact wpStill_nil rfl
          refine PlS.eff_ ?_
          simp only [pickO,p1,p2,p3,p4]
          go_wp2_with fail
          refine name_after fun W7 hW=>?_
          replace HM:=K1 (HM.out.alloc_ hW.out)
          clear hW
          refine After.go ⟨HM.out.cells 5 rfl,HM.out.range2 2 rfl Hx.out⟩ ?_
          refine PlS.eff_ ?_
          simp only [pickO,p1,p2,p3,p4]
          refine wpList_append_mem (n:=n) rfl _ _ 242 rfl HM.out 4 rowRA rfl rfl _ 1 _ (Ac.cells ⟨true,false,step,bucket,_,r,i,xx,yx⟩) rfl (HM.out.box 6 rfl) rfl (acells_one _) (by omega) ?_
          intro A' c' W8 hM8
          replace HM:=K1 (hM8.front 6)
          clear hM8
          go_wp2_with fail
          refine After.go ⟨HM.out.cells 5 rfl,HM.out.range2 2 rfl Hx.out⟩ ?_
          refine PlS.reads_ ⟨HM.out.cells 5 rfl,HM.out.range2 2 rfl Hx.out⟩ (by kernel_rfl) ?_
          simp only [pickO,p1,p2,p3,p4]
          apply Exists.intro
          apply And.intro
          · intro W' hS
            clear hS
            repeat still_step
            exact wpStill_nil rfl
          refine PlS.fin_ ?_
          go_wp2_with fail
          go_roundw
          case rel =>
           refine ⟨i+1,A',c',by omega,by rw [HE.out];simp [HN.out],by go_num,?_⟩
           have h9:=HM.out.front 5
           refine K1 (Mem.cast h9 ?_)
           unfold raO
           rw [HE.out,List.append_nil,acells_snoc,HCS.out]
           simp only [List.length_append,List.length_singleton,← HN.out]
           rfl
          case measure=>simp [intOf];omega
      · have hy:i<ny:=by have:=HMX.out;omega
        obtain ⟨⟨xq,yq⟩,hq⟩:=get_some ys i (by have:=HY.out;omega)
        obtain ⟨bq,oq,rfl,_⟩:=HM.out.ranges 3 rfl (by have:=HY.out;omega)
        have Hq:=K1 hq
        clear hq
        have HE:=K1 (show P (i+1)=P i++([]++[aR i (xq,yq)]) by
         rw [HSUC.out,show xs[i]?=none from List.getElem?_eq_none (by have:=HX.out;omega),show ys[i]?=some (xq,yq) from Hq.out];rfl)
        have c0:=HM.out.cells 1 rfl
        replace HM:=K1 (HAL.out _ _ i HM.out)
        go_wp2_with fail
        clear c0
        generalize wr.heap.size=gt at *
        refine name_wp fun W0 hW=>?_
        replace HM:=K1 (hW.out.symm ▸ HM.out)
        clear hW
        refine wp_region_stage (.reads [0,1,2,3,4,5,6,7,8] (.eff 9 (.eff 10 (.reads [11] (.fin))))) 12 (fun W'=>(∀ j,W'.cell? ⟨gt,j,none⟩=([.int .i64 step,.int .i64 bucket,.int .i64 ((0:Nat):Int),.int .i64 r,.int .i64 i]:List Value)[j]?)∧W'.cell? ⟨bq,oq+i*2,none⟩=some (.int .i64 xq)∧W'.cell? ⟨bq,oq+i*2+1,none⟩=some (.int .i64 yq))
         (by kernel_rfl) (by kernel_rfl) (by intro d v c a w h;cases d <;> exact h) ?_
        replace HM:=K1 HM.out.drew
        generalize W0.drew=V at *
        refine PlS.reads_ ⟨HM.out.cells 5 rfl,HM.out.range2 3 rfl Hq.out⟩ (by kernel_rfl) ?_
        simp only [pickO,p1,p2,p3,p4]
        apply Exists.intro
        apply And.intro
        · intro W' hS
          obtain ⟨s0,s1,s2⟩:=hS
          repeat still_step
          exact wpStill_nil rfl
        refine PlS.eff_ ?_
        simp only [pickO,p1,p2,p3,p4]
        go_wp2_with fail
        refine name_after fun W7 hW=>?_
        replace HM:=K1 (HM.out.alloc_ hW.out)
        clear hW
        refine After.go ⟨HM.out.cells 5 rfl,HM.out.range2 3 rfl Hq.out⟩ ?_
        refine PlS.eff_ ?_
        simp only [pickO,p1,p2,p3,p4]
        refine wpList_append_mem (n:=n) rfl _ _ 242 rfl HM.out 4 rowRA rfl rfl _ 1 _ (Ac.cells ⟨false,_,step,bucket,_,r,i,xq,yq⟩) rfl (HM.out.box 6 rfl) rfl (acells_one _) (by omega) ?_
        intro A' c' W8 hM8
        replace HM:=K1 (hM8.front 6)
        clear hM8
        go_wp2_with fail
        refine After.go ⟨HM.out.cells 5 rfl,HM.out.range2 3 rfl Hq.out⟩ ?_
        refine PlS.reads_ ⟨HM.out.cells 5 rfl,HM.out.range2 3 rfl Hq.out⟩ (by kernel_rfl) ?_
        simp only [pickO,p1,p2,p3,p4]
        apply Exists.intro
        apply And.intro
        · intro W' hS
          clear hS
          repeat still_step
          exact wpStill_nil rfl
        refine PlS.fin_ ?_
        go_wp2_with fail
        go_roundw
        case rel =>
         refine ⟨i+1,A',c',by omega,by rw [HE.out];simp [HN.out],by go_num,?_⟩
         have h9:=HM.out.front 5
         refine K1 (Mem.cast h9 ?_)
         unfold raO
         rw [HE.out,List.nil_append,acells_snoc,HCR.out]
         simp only [List.length_append,List.length_singleton,← HN.out]
         rfl
        case measure=>simp [intOf];omega
    · have hiM:i=M:=by omega
      subst hiM
      have hx:¬ i<nx:=by have:=HMX.out;omega
      have hy:¬ i<ny:=by have:=HMX.out;omega
      have c0:=HM.out.cells 1 rfl
      have HF:=K1 HM.out
      clear HM
      go_wp2_with fail
      go_ret
      rw [HRL.out]
      exact ⟨A,c,rfl,own_cap (HF.out.own 4 rfl),HF.out.pick [0,4] _ rfl (by decide)⟩
 · go_enter Tryz.func134,Tryz.ntmps134
   have c0:=HM.out.cells 1 rfl
   go_wp2_with fail
   refine (C1.out _).mono ?_
   rintro e w1 ⟨rfl,hb⟩
   replace HM:=K1 (HM.out.below hb)
   clear hb c0
   have c0:=HM.out.cells 1 rfl
   go_wp2_with fail
   refine (C2.out _).mono ?_
   rintro e w2 ⟨rfl,hb⟩
   replace HM:=K1 (HM.out.below hb)
   clear hb c0
   have c0:=HM.out.cells 1 rfl
   go_wp2_with fail
   refine (C3.out _).mono ?_
   rintro e w3 ⟨A4,c4,rfl,hc4,hm⟩
   have hrd:=rd_of_own (hm.own 1 rfl)
   have hA1:=own_from_base (hm.own 1 rfl)
   replace HM:=K1 (HM.out.push_rd (hm.bel 0 rfl) hrd hA1)
   clear hm hrd hA1 c0
   have c0:=HM.out.cells 1 rfl
   go_wp2_with fail
   refine (C4.out _).mono ?_
   rintro e w4 ⟨A5,c5,rfl,hc5,hm⟩
   have hrd:=rd_of_own (hm.own 1 rfl)
   have hA1:=own_from_base (hm.own 1 rfl)
   replace HM:=K1 (HM.out.push_rd (hm.bel 0 rfl) hrd hA1)
   clear hm hrd hA1 c0 C1 C2 C3 C4
   have HM0:=K1 (HM.out.add (c:=raO w.heap.size none 0 []) ⟨own_nil _ _ _ _,(HM.out.bel 0 rfl).size⟩ (fun _ _ _ _ g hg=>by cases hg))
   clear HM
   go_wp2_with fail
   go_loopw [15,16] (fun s15 s16 wr=>∃ (i:Nat) (A:Option Addr) (c:Nat),i≤M∧s15=.slice A (P i).length c∧s16=.int .i64 i∧Hid (Mem wr [.bel w.heap.size w,.obj w.heap.size (.cells #[.int .i64 step,.int .i64 bucket,.int .i64 lo,.int .i64 hi,.int .i64 k,.int .i64 chunk] 245 (0,0)),.rd A4 (rcells xs),.rd A5 (rcells ys),raO w.heap.size A c (P i)])) (fun _ s16 _=>M-(intOf s16).toNat)
   case atStart=>exact ⟨0,none,0,Nat.zero_le _,by rw [HP0.out];rfl,rfl,K1 (by rw [HP0.out];exact HM0.out)⟩
   case round =>
    clear HM0
    obtain ⟨i,A,c,hiM,rfl,rfl,HM⟩:=hrel
    by_cases hlt:i<M
    · have hsz:=HLEN.out i
      have HE0:=K1 (HSUC.out i)
      obtain ⟨n,hn⟩:∃ n,n=(P i).length:=⟨_,rfl⟩
      rw [← hn] at hsz ⊢
      replace HM:=K1 (show Mem wr [.bel w.heap.size w,.obj w.heap.size (.cells #[.int .i64 step,.int .i64 bucket,.int .i64 lo,.int .i64 hi,.int .i64 k,.int .i64 chunk] 245 (0,0)),.rd A4 (rcells xs),.rd A5 (rcells ys),.own w.heap.size 74 9 (.slice A n c) n (acells (P i))] by rw [hn];exact HM.out)
      have HN:=K1 hn
      clear hn
      have c0:=HM.out.cells 1 rfl
      by_cases hx:i<nx
      · by_cases hy:i<ny
        · obtain ⟨⟨xx,yx⟩,hx⟩:=get_some xs i (by have:=HX.out;omega)
          obtain ⟨bx,ox,rfl,_⟩:=HM.out.ranges 2 rfl (by have:=HX.out;omega)
          have Hx:=K1 hx
          clear hx
          obtain ⟨⟨xq,yq⟩,hq⟩:=get_some ys i (by have:=HY.out;omega)
          obtain ⟨bq,oq,rfl,_⟩:=HM.out.ranges 3 rfl (by have:=HY.out;omega)
          have Hq:=K1 hq
          clear hq
          have HE:=K1 (show P (i+1)=P i++([aS i (xx,yx)]++[aR i (xq,yq)]) by
           rw [HSUC.out,show xs[i]?=some (xx,yx) from Hx.out,show ys[i]?=some (xq,yq) from Hq.out];rfl)
          have c0:=HM.out.cells 1 rfl
          replace HM:=K1 (HAL.out _ _ i HM.out)
          go_wp2_with fail
          clear c0
          generalize wr.heap.size=gt at *
          refine name_wp fun W0 hW=>?_
          replace HM:=K1 (hW.out.symm ▸ HM.out)
          clear hW
          refine wp_region_stage (.reads [0,1,2,3,4,5,6] (.eff 7 (.eff 8 (.reads [9] (.fin))))) 10 (fun W'=>(∀ j,W'.cell? ⟨gt,j,none⟩=([.int .i64 step,.int .i64 bucket,.int .i64 ((1:Nat):Int),.int .i64 r,.int .i64 i]:List Value)[j]?)∧W'.cell? ⟨bx,ox+i*2,none⟩=some (.int .i64 xx)∧W'.cell? ⟨bx,ox+i*2+1,none⟩=some (.int .i64 yx))
           (by kernel_rfl) (by kernel_rfl) (by intro d v c a w h;cases d <;> exact h) ?_
          replace HM:=K1 HM.out.drew
          generalize W0.drew=V at *
          refine PlS.reads_ ⟨HM.out.cells 5 rfl,HM.out.range2 2 rfl Hx.out⟩ (by kernel_rfl) ?_
          simp only [pickO,p1,p2,p3,p4]
          apply Exists.intro
          apply And.intro
          · intro W' hS
            obtain ⟨s0,s1,s2⟩:=hS
            repeat still_step
            exact wpStill_nil rfl
          refine PlS.eff_ ?_
          simp only [pickO,p1,p2,p3,p4]
          go_wp2_with fail
          refine name_after fun W7 hW=>?_
          replace HM:=K1 (HM.out.alloc_ hW.out)
          clear hW
          refine After.go ⟨HM.out.cells 5 rfl,HM.out.range2 2 rfl Hx.out⟩ ?_
          refine PlS.eff_ ?_
          simp only [pickO,p1,p2,p3,p4]
          refine wpList_append_mem (n:=n) rfl _ _ 242 rfl HM.out 4 rowRA rfl rfl _ 1 _ (Ac.cells ⟨true,false,step,bucket,_,r,i,xx,yx⟩) rfl (HM.out.box 6 rfl) rfl (acells_one _) (by omega) ?_
          intro A' c' W8 hM8
          replace HM:=K1 (hM8.front 6)
          clear hM8
          go_wp2_with fail
          refine After.go ⟨HM.out.cells 5 rfl,HM.out.range2 2 rfl Hx.out⟩ ?_
          refine PlS.reads_ ⟨HM.out.cells 5 rfl,HM.out.range2 2 rfl Hx.out⟩ (by kernel_rfl) ?_
          simp only [pickO,p1,p2,p3,p4]
          apply Exists.intro
          apply And.intro
          · intro W' hS
            clear hS
            repeat still_step
            exact wpStill_nil rfl
          refine PlS.fin_ ?_
          go_wp2_with fail
          refine name_wp fun W0 hW=>?_
          replace HM:=K1 (hW.out.symm ▸ HM.out)
          clear hW
          refine wp_region_stage (.reads [0,1,2,3,4,5,6,7,8] (.eff 9 (.eff 10 (.reads [11] (.fin))))) 12 (fun W'=>(∀ j,W'.cell? ⟨gt,j,none⟩=([.int .i64 step,.int .i64 bucket,.int .i64 ((1:Nat):Int),.int .i64 r,.int .i64 i]:List Value)[j]?)∧W'.cell? ⟨bq,oq+i*2,none⟩=some (.int .i64 xq)∧W'.cell? ⟨bq,oq+i*2+1,none⟩=some (.int .i64 yq))
           (by kernel_rfl) (by kernel_rfl) (by intro d v c a w h;cases d <;> exact h) ?_
          replace HM:=K1 HM.out.drew
          generalize W0.drew=V at *
          refine PlS.reads_ ⟨HM.out.cells 5 rfl,HM.out.range2 3 rfl Hq.out⟩ (by kernel_rfl) ?_
          simp only [pickO,p1,p2,p3,p4]
          apply Exists.intro
          apply And.intro
          · intro W' hS
            obtain ⟨s0,s1,s2⟩:=hS
            repeat still_step
            exact wpStill_nil rfl
          refine PlS.eff_ ?_
          simp only [pickO,p1,p2,p3,p4]
          go_wp2_with fail
          refine name_after fun W7 hW=>?_
          replace HM:=K1 (HM.out.alloc_ hW.out)
          clear hW
          refine After.go ⟨HM.out.cells 5 rfl,HM.out.range2 3 rfl Hq.out⟩ ?_
          refine PlS.eff_ ?_
          simp only [pickO,p1,p2,p3,p4]
          refine wpList_append_mem (n:=(n+1)) rfl _ _ 242 rfl HM.out 4 rowRA rfl rfl _ 1 _ (Ac.cells ⟨false,_,step,bucket,_,r,i,xq,yq⟩) rfl (HM.out.box 6 rfl) rfl (acells_one _) (by omega) ?_
          intro A' c' W8 hM8
          replace HM:=K1 (hM8.front 6)
          clear hM8
          go_wp2_with fail
          refine After.go ⟨HM.out.cells 5 rfl,HM.out.range2 3 rfl Hq.out⟩ ?_
          refine PlS.reads_ ⟨HM.out.cells 5 rfl,HM.out.range2 3 rfl Hq.out⟩ (by kernel_rfl) ?_
          simp only [pickO,p1,p2,p3,p4]
          apply Exists.intro
          apply And.intro
          · intro W' hS
            clear hS
            repeat still_step
            exact wpStill_nil rfl
          refine PlS.fin_ ?_
          go_wp2_with fail
          go_roundw
          case rel =>
           refine ⟨i+1,A',c',by omega,by rw [HE.out];simp [HN.out],by go_num,?_⟩
           have h9:=HM.out.front 5
           refine K1 (Mem.cast h9 ?_)
           unfold raO
           rw [HE.out,← List.append_assoc,acells_snoc,acells_snoc,HCS.out,HCR.out]
           simp only [List.length_append,List.length_singleton,← HN.out]
           rfl
          case measure=>simp [intOf];omega
        · obtain ⟨⟨xx,yx⟩,hx⟩:=get_some xs i (by have:=HX.out;omega)
          obtain ⟨bx,ox,rfl,_⟩:=HM.out.ranges 2 rfl (by have:=HX.out;omega)
          have Hx:=K1 hx
          clear hx
          have HE:=K1 (show P (i+1)=P i++([aS i (xx,yx)]++[]) by
           rw [HSUC.out,show xs[i]?=some (xx,yx) from Hx.out,show ys[i]?=none from List.getElem?_eq_none (by have:=HY.out;omega)];rfl)
          have c0:=HM.out.cells 1 rfl
          replace HM:=K1 (HAL.out _ _ i HM.out)
          go_wp2_with fail
          clear c0
          generalize wr.heap.size=gt at *
          refine name_wp fun W0 hW=>?_
          replace HM:=K1 (hW.out.symm ▸ HM.out)
          clear hW
          refine wp_region_stage (.reads [0,1,2,3,4,5,6] (.eff 7 (.eff 8 (.reads [9] (.fin))))) 10 (fun W'=>(∀ j,W'.cell? ⟨gt,j,none⟩=([.int .i64 step,.int .i64 bucket,.int .i64 ((1:Nat):Int),.int .i64 r,.int .i64 i]:List Value)[j]?)∧W'.cell? ⟨bx,ox+i*2,none⟩=some (.int .i64 xx)∧W'.cell? ⟨bx,ox+i*2+1,none⟩=some (.int .i64 yx))
           (by kernel_rfl) (by kernel_rfl) (by intro d v c a w h;cases d <;> exact h) ?_
          replace HM:=K1 HM.out.drew
          generalize W0.drew=V at *
          refine PlS.reads_ ⟨HM.out.cells 5 rfl,HM.out.range2 2 rfl Hx.out⟩ (by kernel_rfl) ?_
          simp only [pickO,p1,p2,p3,p4]
          apply Exists.intro
          apply And.intro
          · intro W' hS
            obtain ⟨s0,s1,s2⟩:=hS
            repeat still_step
            exact wpStill_nil rfl
          refine PlS.eff_ ?_
          simp only [pickO,p1,p2,p3,p4]
          go_wp2_with fail
          refine name_after fun W7 hW=>?_
          replace HM:=K1 (HM.out.alloc_ hW.out)
          clear hW
          refine After.go ⟨HM.out.cells 5 rfl,HM.out.range2 2 rfl Hx.out⟩ ?_
          refine PlS.eff_ ?_
          simp only [pickO,p1,p2,p3,p4]
          refine wpList_append_mem (n:=n) rfl _ _ 242 rfl HM.out 4 rowRA rfl rfl _ 1 _ (Ac.cells ⟨true,false,step,bucket,_,r,i,xx,yx⟩) rfl (HM.out.box 6 rfl) rfl (acells_one _) (by omega) ?_
          intro A' c' W8 hM8
          replace HM:=K1 (hM8.front 6)
          clear hM8
          go_wp2_with fail
          refine After.go ⟨HM.out.cells 5 rfl,HM.out.range2 2 rfl Hx.out⟩ ?_
          refine PlS.reads_ ⟨HM.out.cells 5 rfl,HM.out.range2 2 rfl Hx.out⟩ (by kernel_rfl) ?_
          simp only [pickO,p1,p2,p3,p4]
          apply Exists.intro
          apply And.intro
          · intro W' hS
            clear hS
            repeat still_step
            exact wpStill_nil rfl
          refine PlS.fin_ ?_
          go_wp2_with fail
          go_roundw
          case rel =>
           refine ⟨i+1,A',c',by omega,by rw [HE.out];simp [HN.out],by go_num,?_⟩
           have h9:=HM.out.front 5
           refine K1 (Mem.cast h9 ?_)
           unfold raO
           rw [HE.out,List.append_nil,acells_snoc,HCS.out]
           simp only [List.length_append,List.length_singleton,← HN.out]
           rfl
          case measure=>simp [intOf];omega
      · have hy:i<ny:=by have:=HMX.out;omega
        obtain ⟨⟨xq,yq⟩,hq⟩:=get_some ys i (by have:=HY.out;omega)
        obtain ⟨bq,oq,rfl,_⟩:=HM.out.ranges 3 rfl (by have:=HY.out;omega)
        have Hq:=K1 hq
        clear hq
        have HE:=K1 (show P (i+1)=P i++([]++[aR i (xq,yq)]) by
         rw [HSUC.out,show xs[i]?=none from List.getElem?_eq_none (by have:=HX.out;omega),show ys[i]?=some (xq,yq) from Hq.out];rfl)
        have c0:=HM.out.cells 1 rfl
        replace HM:=K1 (HAL.out _ _ i HM.out)
        go_wp2_with fail
        clear c0
        generalize wr.heap.size=gt at *
        refine name_wp fun W0 hW=>?_
        replace HM:=K1 (hW.out.symm ▸ HM.out)
        clear hW
        refine wp_region_stage (.reads [0,1,2,3,4,5,6,7,8] (.eff 9 (.eff 10 (.reads [11] (.fin))))) 12 (fun W'=>(∀ j,W'.cell? ⟨gt,j,none⟩=([.int .i64 step,.int .i64 bucket,.int .i64 ((1:Nat):Int),.int .i64 r,.int .i64 i]:List Value)[j]?)∧W'.cell? ⟨bq,oq+i*2,none⟩=some (.int .i64 xq)∧W'.cell? ⟨bq,oq+i*2+1,none⟩=some (.int .i64 yq))
         (by kernel_rfl) (by kernel_rfl) (by intro d v c a w h;cases d <;> exact h) ?_
        replace HM:=K1 HM.out.drew
        generalize W0.drew=V at *
        refine PlS.reads_ ⟨HM.out.cells 5 rfl,HM.out.range2 3 rfl Hq.out⟩ (by kernel_rfl) ?_
        simp only [pickO,p1,p2,p3,p4]
        apply Exists.intro
        apply And.intro
        · intro W' hS
          obtain ⟨s0,s1,s2⟩:=hS
          repeat still_step
          exact wpStill_nil rfl
        refine PlS.eff_ ?_
        simp only [pickO,p1,p2,p3,p4]
        go_wp2_with fail
        refine name_after fun W7 hW=>?_
        replace HM:=K1 (HM.out.alloc_ hW.out)
        clear hW
        refine After.go ⟨HM.out.cells 5 rfl,HM.out.range2 3 rfl Hq.out⟩ ?_
        refine PlS.eff_ ?_
        simp only [pickO,p1,p2,p3,p4]
        refine wpList_append_mem (n:=n) rfl _ _ 242 rfl HM.out 4 rowRA rfl rfl _ 1 _ (Ac.cells ⟨false,_,step,bucket,_,r,i,xq,yq⟩) rfl (HM.out.box 6 rfl) rfl (acells_one _) (by omega) ?_
        intro A' c' W8 hM8
        replace HM:=K1 (hM8.front 6)
        clear hM8
        go_wp2_with fail
        refine After.go ⟨HM.out.cells 5 rfl,HM.out.range2 3 rfl Hq.out⟩ ?_
        refine PlS.reads_ ⟨HM.out.cells 5 rfl,HM.out.range2 3 rfl Hq.out⟩ (by kernel_rfl) ?_
        simp only [pickO,p1,p2,p3,p4]
        apply Exists.intro
        apply And.intro
        · intro W' hS
          clear hS
          repeat still_step
          exact wpStill_nil rfl
        refine PlS.fin_ ?_
        go_wp2_with fail
        go_roundw
        case rel =>
         refine ⟨i+1,A',c',by omega,by rw [HE.out];simp [HN.out],by go_num,?_⟩
         have h9:=HM.out.front 5
         refine K1 (Mem.cast h9 ?_)
         unfold raO
         rw [HE.out,List.nil_append,acells_snoc,HCR.out]
         simp only [List.length_append,List.length_singleton,← HN.out]
         rfl
        case measure=>simp [intOf];omega
    · have hiM:i=M:=by omega
      subst hiM
      have hx:¬ i<nx:=by have:=HMX.out;omega
      have hy:¬ i<ny:=by have:=HMX.out;omega
      have c0:=HM.out.cells 1 rfl
      have HF:=K1 HM.out
      clear HM
      go_wp2_with fail
      go_ret
      rw [HRL.out]
      exact ⟨A,c,rfl,own_cap (HF.out.own 4 rfl),HF.out.pick [0,4] _ rfl (by decide)⟩
end Go.Proofs.YtdpojpcoghcieaaGreat
