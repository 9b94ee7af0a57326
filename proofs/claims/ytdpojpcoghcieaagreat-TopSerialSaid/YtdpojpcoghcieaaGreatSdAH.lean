/- A part of the proof of TopSerial: Shuffle, Buckets, Items, ShapePlain. Conditions: none. -/
import Derived.KernelRfl
import GoSem.Core.Value
import Derived.Test.YtdpojpcoghcieaaGreatSdAG
set_option maxHeartbeats 8000000
namespace Go.Proofs.YtdpojpcoghcieaaGreat
open Lib renaming hid → K1
open Go.RowKit
def swapL (ps:List Nat) (i j:Nat):List Nat:=(ps.set i (ps[j]?.getD 0)).set j (ps[i]?.getD 0)
theorem swapL_len (ps:List Nat) (i j:Nat):(swapL ps i j).length=ps.length:=by simp [swapL]
theorem iCells_set (l:List Nat) (i x:Nat):iCells (l.set i x)=(iCells l).set i (.int .i64 x):=by simp [iCells,List.map_set]
set_option maxRecDepth 100000 in
theorem swap_any (w:World) (L:List Ch) (h:Mem w L) (bp c base n i j ib io:Nat) (A:Option Addr) (ps:List Nat) (hb:L[ib]?=some (.obj bp (.cells #[.slice A n c] 22 (0,0)))) (ho:L[io]?=some (.own base 3 1 (.slice A n c) n (iCells ps))) (hn:ps.length=n) (hi:i<n) (hj:j<n) (hl:n≤1000000) :
  Calls Tryz.prog 140 #[.int .i64 i,.int .i64 j,.pointer (some ⟨bp,0,none⟩)] w fun e w'=>e=.returned (.tuple #[])∧Mem w' (L.set io (.own base 3 1 (.slice A n c) n (iCells (swapL ps i j)))):=by
 obtain ⟨g,rfl⟩:=h.ownA io ho (by omega)
 obtain ⟨x,hx⟩:=get_some ps i (by omega)
 obtain ⟨y,hy⟩:=get_some ps j (by omega)
 have hc1:w.cell? ⟨g,i,none⟩=some (.int .i64 x):=((h.own io ho).cellAt i (by omega)).trans (by simp [iCells,hx])
 have hc2:w.cell? ⟨g,j,none⟩=some (.int .i64 y):=((h.own io ho).cellAt j (by omega)).trans (by simp [iCells,hy])
 have hc0:w.cell? ⟨bp,0,none⟩=some (.slice (some ⟨g,0,none⟩) n c):=h.cell ib 0 hb rfl
 have kf:=h.ownF io ho
 have HSW:Hid (swapL ps i j=(ps.set i y).set j x):=K1 (by simp [swapL,hx,hy])
 have HF:=K1 (((h.setOwn (j:=i) ho (.int .i64 y)).setOwn (j:=j) (at_set ho) (.int .i64 x)).drew)
 have hbg:¬ bp=g:=fun e=>by
  have hne:=idx_ne ho hb (by simp)
  exact h.sep ib io _ _ (Ne.symm hne) hb ho trivial bp rfl (by subst e;rfl)
 clear h hb ho hx hy
 by_cases hij:i=j
 · subst hij
   have hxy:x=y:=by rw [hc1] at hc2;injection hc2 with e;injection e with _ e;omega
   subst hxy
   go_enter Tryz.func140,Tryz.ntmps140
   go_wp2_with fail
   go_region
   go_end0
   refine ⟨rfl,?_⟩
   have h1:=HF.out
   rw [List.set_set] at h1
   rw [HSW.out,iCells_set,iCells_set]
   exact h1
 · go_enter Tryz.func140,Tryz.ntmps140
   go_wp2_with fail
   go_region
   go_end0
   refine ⟨rfl,?_⟩
   have h1:=HF.out
   rw [List.set_set] at h1
   rw [HSW.out,iCells_set,iCells_set]
   exact h1
theorem Mem.map {W:World} {L L':List Ch} (h:Mem W L) (f:Nat→Nat) (hf:∀ i c,L'[i]?=some c→L[f i]?=some c) (hi:∀ i j,i<L'.length→j<L'.length→f i=f j→i=j):Mem W L' :=
 ⟨fun i c hc=>h.holds _ c (hf i c hc),fun i j c d hne hc hd=>h.sep _ _ c d (fun e=>hne (hi i j (List.getElem?_eq_some_iff.1 hc).1 (List.getElem?_eq_some_iff.1 hd).1 e)) (hf i c hc) (hf j d hd)⟩
theorem Mem.one {W:World} {P Q:List Ch} {c:Ch} (h:Mem W (P++Q)) (j:Nat) (hj:Q[j]?=some c):Mem W (P++[c]):=by
 refine h.map (fun i=>if i<P.length then i else P.length+j) (fun i d hd=>?_) (fun i k hi hk e=>?_)
 · rcases snoc_at hd with ⟨h1,h2⟩ | ⟨h1,rfl⟩
   · rw [if_pos h1,List.getElem?_append_left h1];exact h2
   · rw [if_neg (by omega),List.getElem?_append_right (by omega),Nat.add_sub_cancel_left];exact hj
 · simp at hi hk
   split at e <;> split at e <;> omega
def bndL (n k:Nat):List Nat:=(List.range k).map fun i=>n-i
theorem bndL_len (n k:Nat):(bndL n k).length=k:=by simp [bndL]
theorem bndL_succ (n k:Nat):bndL n (k+1)=bndL n k++[n-k]:=by simp [bndL,List.range_succ]
def permTo (n:Nat) (js:List Nat):Nat→List Nat
 | 0=>List.range n
 | k+1=>swapL (permTo n js k) (n-1-k) (js[k]?.getD 0)
theorem permTo_len (n:Nat) (js:List Nat):∀ k,(permTo n js k).length=n
 | 0=>by simp [permTo]
 | k+1=>by rw [permTo,swapL_len,permTo_len n js k]
def shufL (ds:List Nat) (at_ n:Nat):List Nat:=permTo n (drawsAt ds (bndL n (n-1)) at_ (n-1)) (n-1)
theorem drawsAt_lt {ds:List Nat} {at_ n k m:Nat} (hk:k<m) (hm:m<n):∃ v,(drawsAt ds (bndL n m) at_ m)[k]?=some v∧v<n:=by
 refine ⟨(ds[at_+k]?.getD 0) % (n-k),by simp [drawsAt,bndL,hk],Nat.lt_of_lt_of_le (Nat.mod_lt _ (by omega)) (by omega)⟩
set_option maxRecDepth 100000 in
theorem shuffle_any (w:World) (L:List Ch) (h:Mem w L) (bs cd at_ n ib ir:Nat) (Ad:Option Addr) (ds:List Nat) (hb:L[ib]?=some (strB bs Ad ds.length cd at_)) (hr:L[ir]?=some (.rd Ad (uCells ds)))
  (hn:1≤n∧n≤1000) (hat:at_+(n-1)≤ds.length) (hl:ds.length≤1000000000) :
  Calls Tryz.prog 106 #[.int .i64 n,.pointer (some ⟨bs,0,none⟩)] w fun e w'=>∃ A c,e=.returned (.tuple #[.slice A n c,.bool true])∧n≤c∧Mem w' (L.set ib (strB bs Ad ds.length cd (at_+(n-1)))++[.own w.heap.size 3 1 (.slice A n c) n (iCells (shufL ds at_ n))]):=by
 obtain ⟨m,hm⟩:∃ m,m=n-1:=⟨_,rfl⟩
 unfold shufL
 rw [← hm] at hat ⊢
 have HB:=K1 hb
 have HR:=K1 hr
 have HMN:=K1 (show m+1=n by omega)
 have hmn:m<n:=by omega
 have hm1:∀ k,k<m→(1:Int)<(n:Int)-k:=fun k hk=>by omega
 have HM0:=K1 (h.add (c:=.own w.heap.size 3 1 (.slice none 0 0) 0 (iCells (bndL n 0))) ⟨own_nil _ _ _ _,Nat.le_refl _⟩ (fun _ _ _ _ g hg=>by cases hg))
 have HAT:=K1 (And.intro hat hl)
 have HM1:=K1 hm1
 clear h hb hr hat hl hm hm1
 go_enter Tryz.func106,Tryz.ntmps106
 go_wp2_with fail
 go_loopw [6,7] (fun s6 i wr=>∃ (k:Nat) (A:Option Addr) (c:Nat),k≤m∧s6=.slice A k c∧i=.int .i64 ((n:Int)-k)∧Hid (Mem wr (L++[.own w.heap.size 3 1 (.slice A k c) k (iCells (bndL n k))]))) (fun _ i _=>(intOf i).toNat)
 case atStart=>exact ⟨0,none,0,Nat.zero_le _,rfl,by go_num,HM0⟩
 case round =>
  clear HM0
  obtain ⟨k,A,c,hk,rfl,rfl,HM⟩:=hrel
  by_cases hlt:k<m
  · have h1k:=HM1.out k hlt
    obtain ⟨z,hz⟩:∃ z:Nat,z=n-k:=⟨_,rfl⟩
    have hzi:(n:Int)-k=(z:Int):=by omega
    have HS:Hid (iCells (bndL n (k+1))=iCells (bndL n k)++[.int .i64 z]):=K1 (by rw [bndL_succ,← hz];simp [iCells])
    rw [hzi] at h1k ⊢
    have hz2:z≤1000:=by omega
    have HZ:=K1 (And.intro hz hzi)
    clear hz hzi
    have HM3:=K1 (HM.out.alloc (.cells #[.int .i64 z] 3))
    clear HM
    go_wp2_with (at_builtin;refine wpList_append_mem rfl _ _ 22 rfl HM3.out L.length rowCI (at_l at_last) rfl _ 1 _ [.int .i64 z] rfl (HM3.out.box _ at_last) rfl (by intro u hu;simp at hu;subst hu;rfl) (by omega) ?_;intro A' c' W4 hM4)
    have h5:=Mem.setl hM4 at_last
    rw [set_last] at h5
    have HM5:=K1 h5
    clear h5 hM4 HM3
    go_wp2_with fail
    go_roundw
    case rel =>
     refine ⟨k+1,A',c',by omega,rfl,congrArg (Value.int .i64) (by have:=HZ.out.2;omega),?_⟩
     rw [HS.out]
     exact HM5
    case measure=>simp [intOf];omega
  · have hkm:k=m:=by omega
    subst hkm
    have hnk:(n:Int)-k=1:=by have:=HMN.out;omega
    rw [hnk]
    clear hnk
    have h5:=HM.out.freeze at_last
    rw [set_last] at h5
    have hs1:w.heap.size≤wr.heap.size:=(HM.out.holds _ _ at_last).2
    have HM2:=K1 h5
    have hcap:=own_cap (HM.out.own _ at_last)
    clear h5 HM
    go_wp2_with fail
    refine (many_any wr _ HM2.out bs cd at_ k c ib ir L.length Ad A ds (bndL n k) (at_l HB.out) (at_l HR.out) at_last (bndL_len n k).symm hcap (by omega) HAT.out.1 (fun z hz=>?_) HAT.out.2).mono ?_
    · obtain ⟨i,hi,rfl⟩:=List.mem_map.1 hz
      have:=List.mem_range.1 hi
      omega
    rintro e w2 ⟨A2,c2,rfl,hc2,hm2⟩
    have h5:=hm2.freeze at_last
    have hs2:wr.heap.size≤w2.heap.size:=(hm2.holds _ _ at_last).2
    rw [set_last,set_app HB.out] at h5
    have HM3:=K1 h5
    have CI:=K1 (fun W=>identity_any n W (by omega))
    clear h5 hm2 HM2
    have HJS:Hid (∀ i,i<k→∃ v,(drawsAt ds (bndL n k) at_ k)[i]?=some v∧v<n):=K1 (fun i hi=>drawsAt_lt hi hmn)
    have HJL:=K1 (drawsAt_len ds (bndL n k) at_ k)
    generalize hjs:drawsAt ds (bndL n k) at_ k=js at *
    have HJE:=K1 hjs
    clear hjs
    go_wp2_with fail
    (with_reducible refine (CI.out _).mono ?_)
    rintro e w3 ⟨A3,c3,rfl,hv3,hb3⟩
    have hm3:=HM3.out.push hb3 (c:=.own w.heap.size 3 1 (.slice A3 n c3) n (iCells (permTo n js 0))) ⟨own_from (by omega) hv3,Nat.le_trans (by omega) hb3.size⟩ (fun g hg=>(hv3.lt g hg).1)
    have HM4:=K1 (hm3.alloc (.cells #[.slice A3 n c3] 22))
    have HXL:=K1 (And.intro hs1 hs2)
    clear hm3 hv3 hb3 HM3 hs1 hs2
    go_wp2_with fail
    refine name_wp fun W0 hW=>?_
    replace HM4:=K1 (hW.out.symm ▸ HM4.out)
    clear hW
    generalize w3.heap.size=bp at *
    have hjl2:js.length=k:=HJL.out
    obtain ⟨X,hX⟩:∃ X,X=L.set ib (strB bs Ad ds.length cd (at_+k))++[Ch.rd A (iCells (bndL n k))]++[Ch.rd A2 (iCells js)]:=⟨_,rfl⟩
    have HX2:=K1 (show X[(L.set ib (strB bs Ad ds.length cd (at_+k))++[Ch.rd A (iCells (bndL n k))]).length]?=some (.rd A2 (iCells js)) by rw [hX];exact at_last)
    rw [← hX] at HM4
    have HX:=K1 hX
    clear hX hjl2
    go_loopw [46] (fun i wr=>∃ q:Nat,q≤k∧i=.int .i64 q∧Hid (Mem wr (X++[.own w.heap.size 3 1 (.slice A3 n c3) n (iCells (permTo n js q))]++[.obj bp (.cells #[.slice A3 n c3] 22 (0,0))]))) (fun i _=>k-(intOf i).toNat)
    case atStart=>exact ⟨0,Nat.zero_le _,rfl,HM4⟩
    case round =>
     clear HM4
     obtain ⟨q,hq,rfl,HM⟩:=hrel
     by_cases hltq:q<k
     · obtain ⟨v,hv,hvn⟩:=HJS.out q hltq
       obtain ⟨b2,o2,rfl⟩:=HM.out.rdA _ (at_l (at_l HX2.out)) (by simp [iCells];have:=HJL.out;omega)
       have cv:=HM.out.rdAt _ (at_l (at_l HX2.out)) (j:=q) (u:=.int .i64 v) (by simp [iCells,hv])
       obtain ⟨z,hz⟩:∃ z:Nat,z=n-1-q:=⟨_,rfl⟩
       have e1:(n:Int)-1-q=(z:Int):=by omega
       have hzn:z<n:=by omega
       have HPS:Hid (permTo n js (q+1)=swapL (permTo n js q) z v):=K1 (by simp only [permTo];rw [← hz,hv];rfl)
       clear hz hv
       go_wp2_with fail
       refine (swap_any wr _ HM.out bp c3 w.heap.size n z v (X++[Ch.own w.heap.size 3 1 (.slice A3 n c3) n (iCells (permTo n js q))]).length X.length A3 (permTo n js q) at_last (at_l at_last) (permTo_len n js q) hzn hvn (by omega)).mono ?_
       rintro e w4 ⟨rfl,hm4⟩
       rw [set_app at_last,set_last,← HPS.out] at hm4
       have HM5:=K1 hm4
       clear hm4 HM cv
       go_wp2_with fail
       go_roundw
       case rel=>exact ⟨q+1,by omega,by go_num,HM5⟩
       case measure=>simp [intOf];omega
     · have hqk:q=k:=by omega
       subst hqk
       have cb:=HM.out.cell _ 0 at_last rfl
       have hf:=HM.out.left
       rw [HX.out,List.append_assoc,List.append_assoc] at hf
       have HF:=K1 (hf.one 2 rfl)
       clear HM hf
       go_wp2_with fail
       go_ret2
       rw [HJE.out]
       exact ⟨A3,c3,rfl,own_cap (HF.out.own _ at_last),HF.out⟩
def bucketsL (p s:Nat):List (Nat × Nat):=(blocksL p s).reverse
theorem buckets_len (p s:Nat):(bucketsL p s).length=pcnt p s:=by rw [bucketsL,List.length_reverse,blocks_len]
theorem buckets_any (p s:Nat) (w:World) (hp:p≤1000000) (hs:1≤s∧s≤1048576) :
  Calls Tryz.prog 14 #[.int .i64 p,.int .i64 s] w fun e w'=>∃ A c,e=.returned (.slice A (bucketsL p s).length c)∧OwnR w' w.heap.size (.slice A (bucketsL p s).length c) (bucketsL p s)∧(bucketsL p s).length≤c∧Below w.heap.size w w':=by
 have C:=K1 (pblocks_any p s w (by omega) hs)
 have HLN:=K1 (show (blocksL p s).length≤1000000 by rw [blocks_len];have:=pcnt_le p s;omega)
 have HLR:Hid ((bucketsL p s).length=(blocksL p s).length):=K1 (by rw [bucketsL,List.length_reverse])
 have HR:Hid (bucketsL p s=(blocksL p s).reverse):=K1 rfl
 generalize bucketsL p s=bs at *
 generalize blocksL p s=bl at *
 rw [HLR.out]
 go_enter Tryz.func14,Tryz.ntmps14
 go_wp2_with fail
 (with_reducible refine C.out.mono ?_)
 rintro e w1 ⟨v,rfl,hv,hb⟩
 obtain ⟨A,c,rfl,hc,hm⟩:=(Mem.start w).call_own hb hv
 have HM:=K1 hm
 clear hm hv hb
 go_wp2_with fail
 refine (reverse_any w1 _ HM.out bl A c w.heap.size 1 rfl HLN.out).mono ?_
 rintro e w2 ⟨rfl,hm2⟩
 have HM2:=K1 hm2
 clear hm2 HM
 go_wp2_with fail
 go_ret
 have ho:=HM2.out.own 1 rfl
 rw [← HR.out,HLR.out] at ho
 exact ⟨A,c,rfl,by unfold OwnR;rw [HLR.out];exact ho,hc,HM2.out.bel 0 rfl⟩
theorem groups_any (p s:Nat) (w:World) (hp:p≤1000000) (hs:1≤s∧s≤1048576) :
  Calls Tryz.prog 107 #[.int .i64 p,.int .i64 s] w fun e w'=>∃ A c,e=.returned (.slice A (blocksL p s).length c)∧OwnR w' w.heap.size (.slice A (blocksL p s).length c) (blocksL p s)∧(blocksL p s).length≤c∧Below w.heap.size w w':=by
 have C:=K1 (pblocks_any p s w (by omega) hs)
 go_enter Tryz.func107,Tryz.ntmps107
 go_wp2_with fail
 (with_reducible refine C.out.mono ?_)
 rintro e w1 ⟨v,rfl,hv,hb⟩
 obtain ⟨A,c,rfl⟩:=own_slice hv
 have H:=K1 (And.intro hv hb)
 clear hv hb
 go_wp2_with fail
 go_ret
 exact ⟨A,c,rfl,H.out.1,own_cap H.out.1,H.out.2⟩
def itemsCh (w:World) (B0:Nat) (Ab:Option Addr) (bs:List (Nat × Nat)) (Ag:Option Addr) (gs:List (Nat × Nat)) (cs:Array Value):List Ch :=
 [.bel B0 w,.rd Ab (rcells bs),.rd Ag (rcells gs),.obj B0 (.cells cs 210 (0,0)),.rd none [],.rd none []]
section
variable {w:World} {B0:Nat} {Ab Ag:Option Addr} {bs gs:List (Nat × Nat)} {cs:Array Value}
theorem itemsCh4:4<(itemsCh w B0 Ab bs Ag gs cs).length:=(by decide:4<6)
theorem itemsCh5:5<(itemsCh w B0 Ab bs Ag gs cs).length:=(by decide:5<6)
theorem itemsX4 {c:Ch}:4<(itemsCh w B0 Ab bs Ag gs cs++[c]).length:=by simp [itemsCh]
theorem itemsX5 {c:Ch}:5<(itemsCh w B0 Ab bs Ag gs cs++[c]).length:=by simp [itemsCh]
end
set_option maxRecDepth 100000 in
theorem items_any (w:World) (g:Sg) (u t:Nat) (hr1:RdR w w.heap.size g.Ab g.bs) (hr2:RdR w w.heap.size g.Ag g.gs)
  (hk:1≤g.k∧g.k≤8) (hu:u<g.k) (hs:1≤g.s∧g.s≤1048576) (hB:BsOk g.bs) (hbl:g.bs.length≤60) (hcb:g.bs.length≤g.cb) (hG:GsOk g.bs.length g.gs) (hgl:g.gs.length≤60) (hcg:g.gs.length≤g.cg) (hmi:g.mi≤1000) :
  Calls Tryz.prog 108 #[.agg g.cells.toArray,.int .i64 u,.int .i64 t] w fun e w'=>∃ A c,e=.returned (.slice A (itemsL g.bs g.gs g.k g.s g.mi t u).length c) ∧
   w'.ownsRow w.heap.size 146 12 (.slice A (itemsL g.bs g.gs g.k g.s g.mi t u).length c) (itemsL g.bs g.gs g.k g.s g.mi t u).length (icells (itemsL g.bs g.gs g.k g.s g.mi t u))∧Below w.heap.size w w':=by
 obtain ⟨As,ns,cs,sh,ra,mo,k,ba,mi,st,bu,s,wi,ca,Ab,bs,cb,Ag,gs,cg⟩:=g
 dsimp only [Sg.cells] at *
 have hmm:=((((Mem.start w).add_rd (i:=0) rfl hr1).add_rd (i:=0) rfl hr2).alloc (.cells (Sg.cells ⟨As,ns,cs,sh,ra,mo,k,ba,mi,st,bu,s,wi,ca,Ab,bs,cb,Ag,gs,cg⟩).toArray 210)).alloc (.cells #[.int .i64 t,.slice none 0 0] 258)
 simp only [World.size_alloc,Sg.cells] at hmm
 have hm2:=hmm.add (c:=listO w.heap.size [] none 0) ⟨own_nil _ _ _ _,by simp only [World.size_alloc];omega⟩ (fun _ _ _ _ g hg=>by cases hg)
 have HM0:=K1 (show Mem _ (two (itemsCh w w.heap.size Ab bs Ag gs #[.slice As ns cs,.int .i64 sh,.int .i64 ra,.int .i64 mo,.int .i64 k,.int .i64 ba,.int .i64 mi,.int .i64 st,.int .i64 bu,.int .i64 s,.int .i64 wi,.int .i64 ca,.slice Ab bs.length cb,.slice Ag gs.length cg]) 5 4 (listO w.heap.size (fromTo 1 t 0 0) none 0) (listB (w.heap.size+1) t (fromTo 1 t 0 0) none 0)) from hm2)
 have HB:=K1 hB
 have HG:=K1 hG
 have hgl2:=K1 (fun m=>groupsTo_len (s:=s) (t:=t) (w:=u) hB hbl hk hG m)
 clear hmm hm2 hB hG hr1 hr2
 go_enter Tryz.func108,Tryz.ntmps108
 go_wp2_with fail
 refine name_wp fun W0 hW0=>?_
 replace HM0:=K1 (hW0.out.symm ▸ HM0.out)
 clear hW0
 obtain ⟨CS,hCS⟩:∃ CS:Array Value,CS=#[.slice As ns cs,.int .i64 sh,.int .i64 ra,.int .i64 mo,.int .i64 k,.int .i64 ba,.int .i64 mi,.int .i64 st,.int .i64 bu,.int .i64 s,.int .i64 wi,.int .i64 ca,.slice Ab bs.length cb,.slice Ag gs.length cg]:=⟨_,rfl⟩
 rw [← hCS] at HM0
 have HCS:=K1 hCS
 clear hCS
 generalize hB0:w.heap.size=B0 at *
 have HB0:=K1 hB0
 clear hB0
 go_loopw [22] (fun i wr=>∃ (n:Nat) (A:Option Addr) (c:Nat),n≤mi∧i=.int .i64 n∧Hid (Mem wr (two (itemsCh w B0 Ab bs Ag gs CS) 5 4 (listO B0 (fromTo 1 t 0 n) A c) (listB (B0+1) t (fromTo 1 t 0 n) A c)))) (fun i _=>mi-(intOf i).toNat)
 case atStart=>exact ⟨0,none,0,Nat.zero_le _,rfl,HM0⟩
 case round =>
  clear HM0
  obtain ⟨n,A,c,hn,rfl,HM⟩:=hrel
  by_cases hlt:n<mi
  · go_wp2_with fail
    refine (ladd_two wr (itemsCh w B0 Ab bs Ag gs CS) [] 1 n t (B0+1) B0 Ac.zero A c (fromTo 1 t 0 n) 4 5 (by decide) itemsCh4 itemsCh5 (by rw [List.append_nil];exact HM.out) (by rw [fromTo_len];omega)).mono ?_
    rintro e w1 ⟨rfl,A1,c1,hm1⟩
    rw [List.append_nil] at hm1
    have HM1:=K1 (show Mem w1 (two (itemsCh w B0 Ab bs Ag gs CS) 5 4 (listO B0 (fromTo 1 t 0 (n+1)) A1 c1) (listB (B0+1) t (fromTo 1 t 0 (n+1)) A1 c1)) by rw [fromTo_succ,Nat.zero_add];exact hm1)
    clear hm1 HM
    go_wp2_with fail
    go_roundw
    case rel=>exact ⟨n+1,A1,c1,by omega,by go_num,HM1⟩
    case measure=>simp [intOf];omega
  · have hnm:n=mi:=by omega
    subst hnm
    have c0:∀ i,wr.cell? ⟨B0,i,none⟩=([.slice As ns cs,.int .i64 sh,.int .i64 ra,.int .i64 mo,.int .i64 k,.int .i64 ba,.int .i64 n,.int .i64 st,.int .i64 bu,.int .i64 s,.int .i64 wi,.int .i64 ca,.slice Ab bs.length cb,.slice Ag gs.length cg]:List Value)[i]?:=by
     have:=HM.out.cells 3 rfl
     rw [HCS.out] at this
     exact this
    go_wp2_with fail
    have HI0:Hid ((fromTo 1 t 0 n).length≤1000):=K1 (by rw [fromTo_len];exact hmi)
    have HI00:Hid (fromTo 1 t 0 n=_):=K1 rfl
    generalize hI0:fromTo 1 t 0 n=its0 at *
    clear HI00
    have HIQ:=K1 hI0
    clear hI0
    go_loopw [33] (fun i wr=>∃ (m:Nat) (A:Option Addr) (c:Nat),m≤gs.length∧i=.int .i64 m∧Hid (Mem wr (two (itemsCh w B0 Ab bs Ag gs CS) 5 4 (listO B0 (its0++groupsTo bs gs k s t u m) A c) (listB (B0+1) t (its0++groupsTo bs gs k s t u m) A c)))) (fun i _=>gs.length-(intOf i).toNat)
    case atStart=>exact ⟨0,A,c,Nat.zero_le _,rfl,K1 (by rw [show its0++groupsTo bs gs k s t u 0=its0 by simp [groupsTo]];exact HM.out)⟩
    case round =>
     clear HM c0
     obtain ⟨m,A,c,hm,rfl,HM⟩:=hrel
     by_cases hltm:m<gs.length
     · obtain ⟨p,hp⟩:=get_some gs m hltm
       obtain ⟨lo,hi⟩:=p
       have hpp:=HG.out _ (List.mem_of_getElem? hp)
       dsimp only at hpp
       obtain ⟨hp1,hp2⟩:=hpp
       obtain ⟨bg,og,rfl⟩:=HM.out.rdA 2 rfl (by rw [rcells_len];omega)
       obtain ⟨d1,d2⟩:=HM.out.range2 2 rfl hp
       have HP:=K1 hp
       clear hp
       go_wp2_with fail
       refine name_wp fun W hW=>?_
       replace HM:=K1 (HM.out.alloc_ hW.out)
       clear hW d1 d2
       generalize wr.heap.size=gw at *
       have HLN:Hid ((its0++groupsTo bs gs k s t u m).length≤200000000):=K1 (by
        have h1:=hgl2.out m (by omega)
        have h2:=HI0.out
        rw [List.length_append]
        omega)
       generalize hI1:its0++groupsTo bs gs k s t u m=its1 at *
       have HI1:=K1 hI1
       clear hI1
       go_loopw [12] (fun i wr=>∃ (b:Nat) (A:Option Addr) (c:Nat),b≤hi-lo∧i=.int .i64 (lo+b:Nat)∧Hid (Mem wr (two (itemsCh w B0 Ab bs (some ⟨bg,og,none⟩) gs CS) 5 4 (listO B0 (its1++fromTo 2 t lo b) A c) (listB (B0+1) t (its1++fromTo 2 t lo b) A c)++[.obj gw (.cells #[.int .i64 lo,.int .i64 hi] 47 (0,0))]))) (fun i _=>hi-(intOf i).toNat)
       case atStart=>exact ⟨0,_,_,Nat.zero_le _,rfl,K1 (by rw [show its1++fromTo 2 t lo 0=its1 by simp [fromTo]];exact HM.out)⟩
       case round =>
        clear HM
        obtain ⟨b,A,c,hb,rfl,HM⟩:=hrel
        obtain ⟨j,hj⟩:∃ j,j=lo+b:=⟨_,rfl⟩
        rw [← hj]
        have hjb:j≤60:=by omega
        have HJ:=K1 hj
        clear hj
        have q1:=HM.out.cells 6 rfl
        by_cases hltb:j<hi
        · have HLE:=K1 (show (its1++fromTo 2 t lo b).length≤1000000000 by rw [List.length_append,fromTo_len];have:=HLN.out;omega)
          go_wp2_with fail
          refine (ladd_two wr (itemsCh w B0 Ab bs (some ⟨bg,og,none⟩) gs CS) [_] 2 j t (B0+1) B0 Ac.zero A c _ 4 5 (by decide) itemsCh4 itemsCh5 HM.out HLE.out).mono ?_
          rintro e w1 ⟨rfl,A1,c1,hm1⟩
          have HM1:=K1 (show Mem w1 (two (itemsCh w B0 Ab bs (some ⟨bg,og,none⟩) gs CS) 5 4 (listO B0 (its1++fromTo 2 t lo (b+1)) A1 c1) (listB (B0+1) t (its1++fromTo 2 t lo (b+1)) A1 c1)++[_]) by
           rw [fromTo_succ,← List.append_assoc,plainIt,← HJ.out];exact hm1)
          clear hm1 HM q1
          go_wp2_with fail
          go_roundw
          case rel=>exact ⟨b+1,A1,c1,by have:=HJ.out;omega,congrArg (Value.int .i64) (by have:=HJ.out;omega),HM1⟩
          case measure=>simp [intOf];omega
        · have hbe:b=hi-lo:=by have:=HJ.out;omega
          subst hbe
          have HCR:Hid (∀ i,wr.cell? ⟨B0,i,none⟩=([.slice As ns cs,.int .i64 sh,.int .i64 ra,.int .i64 mo,.int .i64 k,.int .i64 ba,.int .i64 n,.int .i64 st,.int .i64 bu,.int .i64 s,.int .i64 wi,.int .i64 ca,.slice Ab bs.length cb,.slice (some ⟨bg,og,none⟩) gs.length cg]:List Value)[i]?):=K1 (by
           have:=HM.out.cells 3 rfl
           rw [HCS.out] at this
           exact this)
          have c0:=HCR.out
          generalize hI2:its1++fromTo 2 t lo (hi-lo)=its2 at *
          have HI2:=K1 hI2
          have HL2:=K1 (show its2.length≤200000060 by rw [← hI2,List.length_append,fromTo_len];have:=HLN.out;omega)
          clear hI2
          go_wp2_with fail
          refine (rounds_any wr (itemsCh w B0 Ab bs (some ⟨bg,og,none⟩) gs CS++[Ch.obj gw (Obj.cells #[.int .i64 lo,.int .i64 hi] 47 (0,0))]) ⟨As,ns,cs,sh,ra,mo,k,ba,n,st,bu,s,wi,ca,Ab,bs,cb,some ⟨bg,og,none⟩,gs,cg⟩ u t (B0+1) B0 lo hi A c its2 4 5 1 (by decide) itemsX4 itemsX5 HM.out rfl (by decide) (by decide) (by dsimp only;omega) hu hs HB.out hp1 hp2 (by dsimp only;omega) hcb
           (by
            dsimp only
            have h3:2000*(hi-lo)*(2*(k-1))≤2000*60*14:=Nat.mul_le_mul (Nat.mul_le_mul_left _ (by omega)) (by omega)
            have:=HL2.out
            omega)).mono ?_
          dsimp only
          rintro e w2 ⟨rfl,A2,c2,hm2⟩
          have HL3:Hid ((its2++roundsL bs k s t u (lo,hi)).length≤300000000):=K1 (by
           have h:=rndsTo_len (s:=s) (t:=t) (w:=u) (lo:=lo) (n:=hi-lo) HB.out hk.1 (by omega) (2*(k-1))
           have h3:2000*(hi-lo)*(2*(k-1))≤2000*60*14:=Nat.mul_le_mul (Nat.mul_le_mul_left _ (by omega)) (by omega)
           have h4:=HL2.out
           rw [List.length_append]
           unfold roundsL
           dsimp only
           omega)
          generalize hI3:its2++roundsL bs k s t u (lo,hi)=its3 at *
          have HI3:=K1 hI3
          clear hI3 c0 q1
          replace HM:=K1 (show Mem w2 (two (itemsCh w B0 Ab bs (some ⟨bg,og,none⟩) gs CS) 5 4 (listO B0 its3 A2 c2) (listB (B0+1) t its3 A2 c2)++[.obj gw (.cells #[.int .i64 lo,.int .i64 hi] 47 (0,0))]) from hm2)
          clear hm2
          have c6:=HM.out.cells 6 rfl
          go_wp2_with fail
          clear c6
          go_loopw [13] (fun i wr=>∃ (b:Nat) (A:Option Addr) (c:Nat),b≤hi-lo∧i=.int .i64 (lo+b:Nat)∧Hid (Mem wr (two (itemsCh w B0 Ab bs (some ⟨bg,og,none⟩) gs CS) 5 4 (listO B0 (its3++fromTo 5 t lo b) A c) (listB (B0+1) t (its3++fromTo 5 t lo b) A c)++[.obj gw (.cells #[.int .i64 lo,.int .i64 hi] 47 (0,0))]))) (fun i _=>hi-(intOf i).toNat)
          case atStart=>exact ⟨0,_,_,Nat.zero_le _,rfl,K1 (by rw [show its3++fromTo 5 t lo 0=its3 by simp [fromTo]];exact HM.out)⟩
          case round =>
           clear HM
           obtain ⟨b,A,c,hb,rfl,HM⟩:=hrel
           obtain ⟨j,hj⟩:∃ j,j=lo+b:=⟨_,rfl⟩
           rw [← hj]
           have hjb:j≤60:=by omega
           have HJ:=K1 hj
           clear hj
           have q1:=HM.out.cells 6 rfl
           by_cases hltb:j<hi
           · have HLE:=K1 (show (its3++fromTo 5 t lo b).length≤1000000000 by rw [List.length_append,fromTo_len];have:=HL3.out;omega)
             go_wp2_with fail
             refine (ladd_two wr (itemsCh w B0 Ab bs (some ⟨bg,og,none⟩) gs CS) [_] 5 j t (B0+1) B0 Ac.zero A c _ 4 5 (by decide) itemsCh4 itemsCh5 HM.out HLE.out).mono ?_
             rintro e w1 ⟨rfl,A1,c1,hm1⟩
             have HM1:=K1 (show Mem w1 (two (itemsCh w B0 Ab bs (some ⟨bg,og,none⟩) gs CS) 5 4 (listO B0 (its3++fromTo 5 t lo (b+1)) A1 c1) (listB (B0+1) t (its3++fromTo 5 t lo (b+1)) A1 c1)++[_]) by
              rw [fromTo_succ,← List.append_assoc,plainIt,← HJ.out];exact hm1)
             clear hm1 HM q1
             go_wp2_with fail
             go_roundw
             case rel=>exact ⟨b+1,A1,c1,by have:=HJ.out;omega,congrArg (Value.int .i64) (by have:=HJ.out;omega),HM1⟩
             case measure=>simp [intOf];omega
           · have hbe:b=hi-lo:=by have:=HJ.out;omega
             subst hbe
             have HF:=K1 (show Mem wr (two (itemsCh w B0 Ab bs (some ⟨bg,og,none⟩) gs CS) 5 4 (listO B0 (its0++groupsTo bs gs k s t u (m+1)) A c) (listB (B0+1) t (its0++groupsTo bs gs k s t u (m+1)) A c)) by
              have:=HM.out.left
              rw [groupsTo_succ HP.out,groupL]
              rw [← HI3.out,← HI2.out,← HI1.out] at this
              simpa only [List.append_assoc] using this)
             clear HM
             go_wp2_with fail
             go_roundw
             case rel=>exact ⟨m+1,A,c,by omega,by go_num,HF⟩
             case measure=>simp [intOf];omega
     · have hml:m=gs.length:=by omega
       subst hml
       have HLG:Hid ((its0++groupsTo bs gs k s t u gs.length).length≤200000000):=K1 (by
        have h1:=hgl2.out gs.length (Nat.le_refl _)
        have h2:=HI0.out
        rw [List.length_append]
        omega)
       have HFIN:Hid (its0++groupsTo bs gs k s t u gs.length++[plainIt 6 t 0]=itemsL bs gs k s n t u):=K1 (by
        rw [itemsL,HIQ.out,groupsTo,List.take_length])
       generalize its0++groupsTo bs gs k s t u gs.length=its1 at *
       go_wp2_with fail
       refine (ladd_two wr (itemsCh w B0 Ab bs Ag gs CS) [] 6 0 t (B0+1) B0 Ac.zero A c its1 4 5 (by decide) itemsCh4 itemsCh5 (by rw [List.append_nil];exact HM.out) (by have:=HLG.out;omega)).mono ?_
       rintro e w1 ⟨rfl,A1,c1,hm1⟩
       rw [List.append_nil] at hm1
       have HM1:=K1 hm1
       have cc1:=hm1.cells 4 rfl
       clear hm1 HM
       go_wp2_with fail
       go_ret
       rw [← HFIN.out,HB0.out]
       exact ⟨A1,c1,by rw [List.length_append];rfl,HM1.out.own 5 rfl,HM1.out.bel 0 rfl⟩
end Go.Proofs.YtdpojpcoghcieaaGreat
namespace Go.Proofs.YtdpojpcoghcieaaGreat
def cnt:List Int→Int
 | a::b::r=>(a+1)*b+cnt (b::r)
 | _=>0
theorem cnt_snoc:∀ (zs:List Int) (k:Nat) (a b:Int),zs[k]?=some a→zs[k+1]?=some b→cnt (zs.take (k+2))=cnt (zs.take (k+1))+(a+1)*b
 | [],_,_,_,h,_=>by simp at h
 | [x],k,_,_,_,h=>by simp at h
 | x::y::r,0,a,b,h,h'=>by
   simp at h h'
   subst h;subst h'
   simp [cnt]
 | x::y::r,k+1,a,b,h,h'=>by
   have ih:=cnt_snoc (y::r) k a b (by simpa using h) (by simpa using h')
   simp only [List.take_succ_cons,cnt] at ih ⊢
   rw [ih]
   omega
def okSz (x:Int):Bool:=decide (1≤x∧x≤1048576)
theorem okSz_iff {x:Int}:okSz x=true↔1≤x∧x≤1048576:=by simp [okSz]
theorem okSz_no {x:Int}:okSz x=false↔x<1∨1048576<x:=by
 unfold okSz;rw [decide_eq_false_iff_not];omega
theorem mul_bd (a b:Int) (ha:1≤a∧a≤1048576) (hb:1≤b∧b≤1048576):0≤(a+1)*b∧(a+1)*b≤1099512676352:=by
 constructor
 · exact Int.mul_nonneg (by omega) (by omega)
 · have h:(a+1)*b≤1048577*1048576:=Int.mul_le_mul (by omega) hb.2 (by omega) (by omega)
   omega
theorem cnt_bd:∀ (zs:List Int),(∀ z∈zs,okSz z=true)→0≤cnt zs∧cnt zs≤zs.length*1099512676352
 | [],_=>by simp [cnt]
 | [x],_=>by simp [cnt]
 | x::y::r,h=>by
   have ih:=cnt_bd (y::r) (fun z hz=>h z (List.mem_cons_of_mem _ hz))
   have hm:=mul_bd x y (okSz_iff.1 (h x (by simp))) (okSz_iff.1 (h y (by simp)))
   simp only [cnt,List.length_cons] at ih ⊢
   omega
def shCode (zs:List Int):Int :=
 if zs.length<2∨16<zs.length then 5
 else if zs.all okSz=false then 5
 else if 1048576<cnt zs then 4 else 0
def lo (zs:List Int) (k:Nat):Int:=cnt (zs.take (k+1))
def zAt (zs:List Int) (k:Nat):Int:=zs.getD k 0
def mid (zs:List Int) (k:Nat):Int:=lo zs k+zAt zs (k+1)*zAt zs k
def wcells (zs:List Int):Nat→List Value
 | 0=>[]
 | k+1=>wcells zs k++[.int .i64 (lo zs k),.int .i64 (mid zs k)]
def bcells (zs:List Int):Nat→List Value
 | 0=>[]
 | k+1=>bcells zs k++[.int .i64 (mid zs k),.int .i64 (lo zs (k+1))]
theorem lo_succ (zs:List Int) (k:Nat) (a b:Int) (ha:zs[k]?=some a) (hb:zs[k+1]?=some b):lo zs (k+1)=lo zs k+b*a+b:=by
 unfold lo
 rw [cnt_snoc zs k a b ha hb,Int.add_mul,Int.one_mul,Int.mul_comm a b]
 omega
theorem mid_eq (zs:List Int) (k:Nat) (a b:Int) (ha:zs[k]?=some a) (hb:zs[k+1]?=some b):mid zs k=lo zs k+b*a:=by
 simp [mid,zAt,List.getD,ha,hb]
end Go.Proofs.YtdpojpcoghcieaaGreat
