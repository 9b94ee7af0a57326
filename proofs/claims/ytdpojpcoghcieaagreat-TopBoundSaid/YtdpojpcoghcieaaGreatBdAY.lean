/- A part of the proof of TopBound: SampNew, Micro, Shelf. Conditions: none. -/
import Derived.Deep.DeepCutAuto
import Derived.Shelf.Bits.Mul64
import Derived.Ground.Names2Prog
import Derived.Shelf.Slices.Clone
import Derived.Test.YtdpojpcoghcieaaGreatBdAX
set_option maxHeartbeats 8000000
namespace Go.Proofs.YtdpojpcoghcieaaGreat
open Lib renaming hid → K1
open Go.RowKit
theorem Mem.join {W W':World} {L M:List Ch} (h1:Mem W L) (h2:Mem W' (.bel W.heap.size W::M)) (hf:∀ c∈M,¬ c.mut→∀ g,c.fp g→W.heap.size≤g):Mem W' (L++M):=by
 have hb:=h2.bel 0 rfl
 have h1':=h1.below hb
 have hfr:∀ (j:Nat) (d:Ch),M[j]?=some d→∀ g,d.fp g→W.heap.size≤g:=fun j d hd g hg=>by
  by_cases hm:d.mut
  · rcases Nat.lt_or_ge g W.heap.size with h | h
    · exact absurd h (h2.sep (j+1) 0 d _ (by omega) (by simpa using hd) rfl hm g hg)
    · exact h
  · exact hf d (List.mem_of_getElem? hd) hm g hg
 have at_:∀ (i:Nat) (c:Ch),(L++M)[i]?=some c→(L[i]?=some c)∨(L.length≤i∧M[i-L.length]?=some c):=fun i c hc=>by
  rcases Nat.lt_or_ge i L.length with h | h
  · rw [List.getElem?_append_left h] at hc;exact .inl hc
  · rw [List.getElem?_append_right h] at hc;exact .inr ⟨h,hc⟩
 constructor
 · intro i c hc
   rcases at_ i c hc with h | ⟨_,h⟩
   · exact h1'.holds i c h
   · exact h2.holds (i-L.length+1) c (by simpa using h)
 · intro i j c d hne hc hd hm g hg1 hg2
   rcases at_ i c hc with h | ⟨hi,h⟩ <;> rcases at_ j d hd with k | ⟨hj,k⟩
   · exact h1'.sep i j c d hne h k hm g hg1 hg2
   · have:=hfr _ d k g hg2
     have:=Ch.lt (h1.holds i c h) hg1
     omega
   · have:=hfr _ c h g hg1
     have:=Ch.lt (h1.holds j d k) hg2
     omega
   · exact h2.sep (i-L.length+1) (j-L.length+1) c d (by omega) (by simpa using h) (by simpa using k) hm g hg1 hg2
def epBs (n batch:Nat):List (Nat × Nat):=blocksL (n-n % batch) batch
theorem epBs_len {n batch:Nat} (hb:1≤batch):(epBs n batch).length=n / batch:=by
 have h1:=Nat.div_add_mod n batch
 have h2:=Nat.mod_lt n hb
 rw [epBs,blocks_len]
 unfold pcnt
 have e:n-n % batch=batch*(n / batch):=by omega
 rw [e]
 generalize n / batch=q
 split
 · rename_i h
   rcases Nat.eq_zero_or_pos q with h3 | h3
   · exact h3.symm
   · have:=Nat.mul_pos hb h3;omega
 · rename_i h
   have h3:1≤q:=by
    rcases Nat.eq_zero_or_pos q with h3 | h3
    · subst h3;simp at h
    · exact h3
   obtain ⟨r,rfl⟩:∃ r,q=r+1:=⟨q-1,by omega⟩
   rw [Nat.mul_succ,show batch*r+batch-1=(batch-1)+batch*r by omega,Nat.add_mul_div_left _ _ hb,Nat.div_eq_of_lt (by omega)]
   omega
def SampMade (w:World) (n batch steps:Nat) (s10:Value) (W:World):Prop:=∃ bsx gs cb Ab,s10=.pointer (some ⟨bsx,0,none⟩) ∧
 Mem W [.bel w.heap.size w,.rd Ab (rcells (epBs n batch)),.obj w.heap.size (.cells #[.int .i64 n] 3 (0,0)),.obj bsx (.cells #[.pointer (some ⟨gs,0,none⟩)] 153 (0,0)),sampB gs batch steps Ab (epBs n batch).length cb none 0 0] ∧
 (epBs n batch).length≤cb∧w.heap.size≤gs∧(∀ q,Ab=some q→w.heap.size≤q.block)
structure SampAt (W:World) (lo hi gs n batch steps:Nat) (ds:List Nat):Prop where
 in_:lo≤gs∧gs<hi
 ex:∃ (Ab:Option Addr) (cb:Nat) (Ao:Option Addr) (co:Nat) (os:Ords),W.heap[gs]?=some (.cells #[.int .i64 batch,.int .i64 steps,.slice Ab (epBs n batch).length cb,.slice Ao (pcnt steps (n / batch)) co] 204 (0,0)) ∧
  RdIn W lo hi Ab (rcells (epBs n batch))∧RdIn W lo hi Ao (ordVals n os)∧(∀ o∈os,n≤o.2.1∧RdIn W lo hi o.1 (iCells o.2.2))∧os.map (fun o=>o.2.2)=ordersL ds n (pcnt steps (n / batch))∧(epBs n batch).length≤cb∧pcnt steps (n / batch)≤co
theorem SampAt.keep {W1 W2:World} {lo hi gs n batch steps:Nat} {ds:List Nat} (h:SampAt W1 lo hi gs n batch steps ds) (hk:∀ g,lo≤g→g<hi→W2.heap[g]?=W1.heap[g]?):SampAt W2 lo hi gs n batch steps ds:=by
 obtain ⟨h0,Ab,cb,Ao,co,os,h1,h2,h3,h4,h5⟩:=h
 exact ⟨h0,Ab,cb,Ao,co,os,(hk gs h0.1 h0.2).trans h1,h2.keep hk,h3.keep hk,fun o ho=>⟨(h4 o ho).1,(h4 o ho).2.keep hk⟩,h5⟩
set_option maxRecDepth 100000 in
theorem sampNew_any (n batch steps dl cap:Nat) (A:Option Addr) (ds:List Nat) (w:World) (hr:Rd w w.heap.size A (uCells ds)) (hdl:dl=ds.length) (hl:dl≤1000000000) (hn:1≤n∧n≤1000) (hb:1≤batch∧batch≤n) (hst:steps≤1000) (hd:pcnt steps (n / batch)*(n-1)≤dl) :
  Calls Tryz.prog 63 #[.int .i64 n,.int .i64 batch,.int .i64 steps,.slice A dl cap] w fun e w'=>∃ gs,e=.returned (.tuple #[.pointer (some ⟨gs,0,none⟩),.int .i64 0])∧SampAt w' w.heap.size w'.heap.size gs n batch steps ds∧Below w.heap.size w w':=by
 have CB:Hid (∀ W:World,Calls Tryz.prog 39 #[.int .i64 (n-n % batch:Nat),.int .i64 batch] W fun e w'=>∃ v,e=.returned v∧OwnR w' W.heap.size v (epBs n batch)∧Below W.heap.size W w'):=K1 (fun W=>pblocks_any (n-n % batch) batch W (by omega) ⟨hb.1,by omega⟩)
 have HM:=K1 ((Mem.start w).alloc (.cells #[.int .i64 n] 3))
 have HDL:=K1 hdl
 have HRD:=K1 hr
 clear hdl hr
 obtain ⟨r,hr1⟩:∃ r,r=n % batch:=⟨_,rfl⟩
 have hr2:r<batch:=by rw [hr1];exact Nat.mod_lt _ hb.1
 obtain ⟨z,hz⟩:∃ z,z=n-r:=⟨_,rfl⟩
 rw [← hr1,← hz] at CB
 have e1:(n:Int).tmod (batch:Int)=(r:Int):=by rw [hr1];exact (Int.ofNat_tmod _ _).symm
 have e2:(n:Int)-(r:Int)=(z:Int):=by omega
 have w1:IntKind.i64.wrap (r:Int)=(r:Int):=IntWalk.i64_in _ (by omega)
 have w2:IntKind.i64.wrap (z:Int)=(z:Int):=IntWalk.i64_in _ (by omega)
 have hb0:¬ batch=0:=by omega
 have HZ:=K1 (And.intro hr1 hz)
 clear hr1 hz
 go_enter Tryz.func63,Tryz.ntmps63
 go_upto_region 5 with fail
 go_cut [10] from 13 (fun s10 W=>SampMade w n batch steps s10 W)
 case rest =>
  obtain ⟨bsx,gs,cb,Ab,rfl,hm,hcb,hgs,hlo⟩:=hcut
  have CD:=K1 (fun W (hW:Below w.heap.size w W)=>drawNew_any A dl cap ds W ((HRD.out.below hW).more hW.size) HDL.out hl)
  have CP:=K1 (fun W=>pcount_any steps (n / batch) W (by omega) ⟨Nat.div_pos hb.2 hb.1,by have:=Nat.div_le_self n batch;omega⟩)
  replace HM:=K1 hm
  have HEP:=K1 (epBs_len (n:=n) hb.1)
  have HGS:=K1 (And.intro hgs hlo)
  have HD:=K1 hd
  rw [← HEP.out] at CP
  clear hm hgs hlo CB HZ hd e1 e2 w1 w2
  go_wp2_with fail
  (with_reducible refine (CD.out _ (HM.out.bel 0 rfl)).mono ?_)
  rintro e w3 ⟨bs,Ad,cd,rfl,hm3,hbs,had⟩
  have hm4:=HM.out.join hm3 (fun c hc hm g hg=>by
   simp only [List.mem_cons,List.not_mem_nil,or_false] at hc
   rcases hc with rfl | rfl
   · obtain ⟨_,q,hq,rfl⟩:=hg;exact had q hq
   · exact absurd trivial hm)
  replace HM:=K1 (hm4.alloc (.cells #[.pointer (some ⟨bs,0,none⟩)] 205))
  have cx:=HM.out.cells 3 rfl
  have cg:=HM.out.cells 4 rfl
  clear hm3 hm4 CD
  go_wp2_with fail
  (with_reducible refine (CP.out _).mono ?_)
  rintro e' w4 ⟨rfl,rfl⟩
  have hE:pcnt steps (epBs n batch).length≤1000:=Nat.le_trans (pcnt_le _ _) hst
  generalize hnb:(epBs n batch).length=nb at *
  have HNB:=K1 hnb
  generalize hee:pcnt steps nb=E at *
  have HEE:=K1 hee
  clear hnb hee cx cg CP
  have hm5:Mem _ [.bel w.heap.size w,.rd Ab (rcells (epBs n batch)),.rd Ad (uCells ds),.obj w.heap.size (.cells #[.int .i64 n] 3 (0,0)),.obj w3.heap.size (.cells #[.pointer (some ⟨bs,0,none⟩)] 205 (0,0)),.obj bsx (.cells #[.pointer (some ⟨gs,0,none⟩)] 153 (0,0)),strB bs Ad dl cd 0,sampB gs batch steps Ab nb cb none 0 0]:=HM.out.pick [0,1,5,2,7,3,6,4] _ rfl (by decide)
  rw [HDL.out] at hm5
  have hm6:=(hm5.add (c:=.own w.heap.size 22 1 (.slice none 0 0) 0 (ordVals n [])) ⟨own_nil _ _ _ _,(HM.out.bel 0 rfl).size⟩ (fun _ _ _ _ g hg=>by cases hg)).add (c:=famCh (ordFam [])) (fam_local (fun a ha=>by cases ha)) (fun _ _ _ _ g hg=>by obtain ⟨a,ha,_⟩:=hg;cases ha)
  have HM0:=K1 hm6
  clear hm5 hm6 HM
  go_wp2_with fail
  refine name_wp fun W0 hW=>?_
  replace HM0:=K1 (hW.out.symm ▸ HM0.out)
  clear hW
  generalize hbsp:w3.heap.size=bsp at *
  clear hbsp
  go_loopw [57] (fun i wr=>∃ (e:Nat) (Ao:Option Addr) (co:Nat) (os:Ords),e≤E∧i=.int .i64 e∧Hid (Mem wr [.bel w.heap.size w,.rd Ab (rcells (epBs n batch)),.rd Ad (uCells ds),.obj w.heap.size (.cells #[.int .i64 n] 3 (0,0)),.obj bsp (.cells #[.pointer (some ⟨bs,0,none⟩)] 205 (0,0)),.obj bsx (.cells #[.pointer (some ⟨gs,0,none⟩)] 153 (0,0)),strB bs Ad ds.length cd (e*(n-1)),sampB gs batch steps Ab nb cb Ao e co,.own w.heap.size 22 1 (.slice Ao e co) e (ordVals n os),famCh (ordFam os)])∧Hid (os.map (fun o=>o.2.2)=ordersL ds n e∧∀ o∈os,n≤o.2.1∧∀ q:Addr,o.1=some q→w.heap.size≤q.block)) (fun i _=>E-(intOf i).toNat)
  case atStart=>exact ⟨0,none,0,[],Nat.zero_le _,rfl,K1 (by rw [Nat.zero_mul];exact HM0.out),K1 ⟨rfl,fun o ho=>by cases ho⟩⟩
  case round =>
   clear HM0
   obtain ⟨e,Ao,co,os,he,rfl,HM,HOS⟩:=hrel
   by_cases hlt:e<E
   · have hat:(e+1)*(n-1)≤ds.length:=by
      have h1:=HD.out
      have h2:(e+1)*(n-1)≤E*(n-1):=Nat.mul_le_mul_right _ (by omega)
      rw [← HEP.out,HEE.out,HDL.out] at h1
      omega
     have CE:=K1 (epoch_any wr w w.heap.size w.heap.size bsp bsx bs gs cd n batch steps nb cb e co Ad Ab Ao ds (epBs n batch) os HM.out HOS.out.1 HOS.out.2 hn hat (by rw [← HDL.out];exact hl) (by omega))
     clear hat
     go_wp2_with fail
     (with_reducible refine CE.out.mono ?_)
     rintro r' w5 ⟨rfl,Ao',co',os',hm',ho',hc'⟩
     have HM':=K1 hm'
     have HO':=K1 (And.intro ho' hc')
     clear hm' ho' hc' CE HM HOS
     go_wp2_with fail
     go_roundw
     case rel=>exact ⟨e+1,Ao',co',os',by omega,by go_num,HM',HO'⟩
     case measure=>simp [intOf];omega
   · have hE2:e=E:=by omega
     subst hE2
     have cx:=HM.out.cells 5 rfl
     have HF:=K1 (show SampAt wr w.heap.size wr.heap.size gs n batch steps ds∧Below w.heap.size w wr from by
      have ho:=HM.out.own 8 rfl
      refine ⟨⟨⟨HGS.out.1,HM.out.lt 7 rfl⟩,Ab,cb,Ao,co,os,?_,⟨HM.out.rd 1 rfl,HGS.out.2⟩,⟨rd_of_own ho,own_from_base ho⟩,fun o hoo=>⟨(HOS.out.2 o hoo).1,?_,(HOS.out.2 o hoo).2⟩,?_,?_,?_⟩,HM.out.bel 0 rfl⟩
      · rw [← HEP.out,HEE.out,HNB.out];exact HM.out.obj 7 rfl
      · exact HM.out.st 9 rfl (o.1,iCells o.2.2) (List.mem_map.2 ⟨o,hoo,rfl⟩)
      · rw [← HEP.out,HEE.out];exact HOS.out.1
      · rw [HNB.out];exact hcb
      · rw [← HEP.out,HEE.out];exact own_cap ho)
     clear HM HOS
     go_wp2_with fail
     go_ret2
     exact ⟨gs,rfl,HF.out.1,HF.out.2⟩
 case first =>
  go_wp2_with fail
  refine name_wp fun W0 hW=>?_
  replace HM:=K1 (show Mem W0.drew _ from (hW.out.symm ▸ HM.out:Mem W0 _).drew)
  clear hW
  go_region_held3 (fun w'=>w'.cell? ⟨w.heap.size,0,none⟩=some (.int .i64 n))
   (first
    | exact HM.out.cell 1 0 rfl rfl
    | exact (HM.out.alloc _).cell 1 0 rfl rfl
    | exact ((HM.out.alloc _).alloc _).cell 1 0 rfl rfl
    | exact ((HM.out.alloc _).set (i:=2) rfl _).cell 1 0 rfl rfl
    | exact (((HM.out.alloc _).alloc _).set (i:=3) rfl _).cell 1 0 rfl rfl
    | exact (((HM.out.alloc _).alloc _).set (i:=4) rfl _).cell 1 0 rfl rfl)
   ((go_at_call 39
     (with_reducible refine (CB.out _).mono ?_)
     rintro e w4 ⟨v,rfl,hv,hb⟩
     obtain ⟨A4,c4,rfl⟩:=own_slice hv
     have HC4:=K1 (own_cap hv)
     first
      | (have HLO:=K1 (fun q hq=>Nat.le_trans (HM.out.bel 0 rfl).size (own_from_base hv q hq))
         replace HM:=K1 (HM.out.push_rd hb (rd_of_own hv) (own_from_base hv))
         have cB:∀ o,((w4.alloc (.cells #[.pointer none] 153)).alloc o).cell? ⟨w4.heap.size,0,none⟩=some (.pointer none):=fun o=>((HM.out.alloc _).alloc o).cell 3 0 rfl rfl
         have fB:∀ o,((w4.alloc (.cells #[.pointer none] 153)).alloc o).frozen? ⟨w4.heap.size,0,none⟩=false:=fun o=>((HM.out.alloc _).alloc o).frozen 3 0 rfl)
      | (have HLO:=K1 (fun q hq=>Nat.le_trans ((HM.out.alloc _).bel 0 rfl).size (own_from_base hv q hq))
         replace HM:=K1 ((HM.out.alloc _).push_rd hb (rd_of_own hv) (own_from_base hv))
         have cB:∀ o,(w4.alloc o).cell? ⟨W0.heap.size,0,none⟩=some (.pointer none):=fun o=>(HM.out.alloc o).cell 2 0 rfl rfl
         have fB:∀ o,(w4.alloc o).frozen? ⟨W0.heap.size,0,none⟩=false:=fun o=>(HM.out.alloc o).frozen 2 0 rfl)
     clear hb hv CB))
  · have hsz:=(HM.out.bel 0 rfl).size
    go_wp2_with fail
    go_meet
    refine ⟨w4.heap.size+1,w4.heap.size,c4,A4,rfl,?_,HC4.out,hsz,HLO.out⟩
    have h:=((HM.out.alloc (.cells #[.int .i64 batch,.int .i64 steps,.slice A4 (epBs n batch).length c4,.slice none 0 0] 204)).alloc (.cells #[.pointer (some ⟨w4.heap.size,0,none⟩)] 153))
    simp only [World.size_alloc] at h
    exact h.pick [0,2,1,4,3] _ rfl (by decide)
  · have hsz:=(HM.out.bel 0 rfl).size
    go_wp2_with fail
    go_meet
    refine ⟨w4.heap.size,w4.heap.size+1,c4,A4,rfl,?_,HC4.out,by omega,HLO.out⟩
    have h:=((HM.out.alloc (.cells #[.pointer (some ⟨w4.heap.size+1,0,none⟩)] 153)).alloc (.cells #[.int .i64 batch,.int .i64 steps,.slice A4 (epBs n batch).length c4,.slice none 0 0] 204))
    simp only [World.size_alloc] at h
    exact h.pick [0,2,1,3,4] _ rfl (by decide)
  · have hsz:=(HM.out.bel 0 rfl).size
    go_wp2_with fail
    go_meet
    refine ⟨W0.heap.size,w4.heap.size,c4,A4,rfl,?_,HC4.out,hsz,HLO.out⟩
    have h:=((HM.out.alloc (.cells #[.int .i64 batch,.int .i64 steps,.slice A4 (epBs n batch).length c4,.slice none 0 0] 204)).set (i:=2) (j:=0) rfl (.pointer (some ⟨w4.heap.size,0,none⟩)))
    exact h.pick [0,3,1,2,4] _ rfl (by decide)
end Go.Proofs.YtdpojpcoghcieaaGreat
namespace Go.Proofs.YtdpojpcoghcieaaGreat
open Lib renaming hid → K1
open Go.RowKit
def subL {α:Type} (l:List α) (a b:Nat):List α:=(l.drop a).take (b-a)
theorem subL_len {α:Type} {l:List α} {a b:Nat} (h:a≤b) (hb:b≤l.length):(subL l a b).length=b-a:=by simp [subL];omega
theorem subL_at {α:Type} {l:List α} {a b j:Nat} (hj:j<b-a):(subL l a b)[j]?=l[a+j]?:=by
 simp [subL,hj]
theorem iCells_sub (l:List Nat) (a b:Nat):iCells (subL l a b)=subL (iCells l) a b:=by simp [iCells,subL,List.map_take,List.map_drop]
theorem iCells_len (l:List Nat):(iCells l).length=l.length:=by simp [iCells]
theorem Rd.sub {w:World} {B:Nat} {A:Option Addr} {vs:List Value} (h:Rd w B A vs) (l m:Nat) (hm:m≤vs.length) :
  Rd w B (if m=l then A else A.map fun p=>p.add l) (subL vs l m):=fun h0=>by
 have h1:l<m:=by simp [subL] at h0;omega
 obtain ⟨b,off,e,hb,hc⟩:=h (by omega)
 refine ⟨b,off+l,by rw [if_neg (by omega),e];simp [Addr.add],hb,fun j u hu=>?_⟩
 have hj:j<m-l:=by
  have:=(List.getElem?_eq_some_iff.1 hu).1
  simp [subL] at this;omega
 rw [subL_at hj] at hu
 rw [Nat.add_assoc]
 exact hc _ u hu
theorem blk_cells {w:World} {g:Nat} {cs:Array Value} {t:TypeId} (h:w.heap[g]?=some (.cells cs t (0,0))) (k:Nat):w.cell? ⟨g,k,none⟩=cs.toList[k]?:=by
 rw [blk_cell h,Array.getElem?_toList]
theorem shufL_len (ds:List Nat) (a n:Nat):(shufL ds a n).length=n:=permTo_len _ _ _
def viewL (ds:List Nat) (n batch t:Nat):List Nat:=subL (shufL ds (t / (n / batch)*(n-1)) n) (t % (n / batch)*batch) (t % (n / batch)*batch+batch)
def pieceL {α:Type} (l:List α) (i k:Nat):List α:=subL l (bnd l.length k i) (bnd l.length k (i+1))
def microL (ds:List Nat) (n batch t u k a mi:Nat):List Nat:=pieceL (pieceL (viewL ds n batch t) u k) a mi
set_option maxRecDepth 100000 in
theorem samSteps_any (w:World) (lo hi gs n batch steps:Nat) (ds:List Nat) (h:SampAt w lo hi gs n batch steps ds) :
  Calls Tryz.prog 240 #[.pointer (some ⟨gs,0,none⟩)] w fun e w'=>e=.returned (.int .i64 steps)∧w=w':=by
 obtain ⟨_,Ab,cb,Ao,co,os,h1,_⟩:=h
 have c1:=blk_cells h1
 clear h1
 go_enter Tryz.func240,Tryz.ntmps240
 go_wp2
 go_ret
 exact ⟨rfl,rfl⟩
set_option maxRecDepth 100000 in
theorem samEpoch_any (w:World) (lo hi gs n batch steps t:Nat) (ds:List Nat) (h:SampAt w lo hi gs n batch steps ds) (hb:1≤batch∧batch≤n) (ht:t<steps) (hs:steps≤1000) :
  Calls Tryz.prog 231 #[.pointer (some ⟨gs,0,none⟩),.int .i64 t] w fun e w'=>e=.returned (.tuple #[.int .i64 (t / (n / batch):Nat),.int .i64 (t % (n / batch):Nat),.bool true])∧Below w.heap.size w w':=by
 have CS:=K1 (samSteps_any w lo hi gs n batch steps ds h)
 obtain ⟨_,Ab,cb,Ao,co,os,h1,_⟩:=h
 rw [epBs_len hb.1] at h1
 have c1:=blk_cells h1
 clear h1
 have hnb:1≤n / batch:=Nat.div_pos hb.2 hb.1
 generalize n / batch=nb at *
 obtain ⟨q,hq⟩:∃ q,q=t / nb:=⟨_,rfl⟩
 obtain ⟨r,hr⟩:∃ r,r=t % nb:=⟨_,rfl⟩
 have hq1:q≤t:=hq ▸ Nat.div_le_self _ _
 have hr1:r≤t:=hr ▸ Nat.mod_le _ _
 have e1:(t:Int).tdiv (nb:Int)=(q:Int):=by rw [hq];exact (Int.ofNat_tdiv _ _).symm
 have e2:(t:Int).tmod (nb:Int)=(r:Int):=by rw [hr];exact (Int.ofNat_tmod _ _).symm
 have w1:IntKind.i64.wrap (q:Int)=(q:Int):=IntWalk.i64_in _ (by omega)
 have w2:IntKind.i64.wrap (r:Int)=(r:Int):=IntWalk.i64_in _ (by omega)
 have hz:¬ nb=0:=by omega
 rw [← hq,← hr]
 clear hq hr
 go_enter Tryz.func231,Tryz.ntmps231
 go_wp2_with fail
 (with_reducible refine CS.out.mono ?_)
 rintro e w1 ⟨rfl,rfl⟩
 clear CS
 go_wp2_with fail
 go_region
 go_wp2_with fail
 go_ret3
 exact ⟨rfl,below_drewN (Below.refl _ _) _⟩
theorem SampAt.step {w:World} {lo hi gs n batch steps:Nat} {ds:List Nat} (h:SampAt w lo hi gs n batch steps ds) (hh:hi≤w.heap.size) (hb:1≤batch∧batch≤n) {t:Nat} (ht:t<steps) :
  ∃ (Ab:Option Addr) (cb:Nat) (Ao:Option Addr) (co:Nat) (os:Ords) (A1:Option Addr) (c1:Nat),(∀ i,w.cell? ⟨gs,i,none⟩=([.int .i64 batch,.int .i64 steps,.slice Ab (n / batch) cb,.slice Ao (pcnt steps (n / batch)) co]:List Value)[i]?) ∧
    Rd w w.heap.size Ab (rcells (epBs n batch))∧(epBs n batch)[t % (n / batch)]?=some (t % (n / batch)*batch,t % (n / batch)*batch+batch)∧t % (n / batch)*batch+batch≤n ∧
    Rd w w.heap.size Ao (ordVals n os)∧(ordVals n os)[t / (n / batch)]?=some (.slice A1 n c1)∧n≤c1∧t / (n / batch)<pcnt steps (n / batch)∧Rd w w.heap.size A1 (iCells (shufL ds (t / (n / batch)*(n-1)) n))∧t % (n / batch)<n / batch:=by
 obtain ⟨_,Ab,cb,Ao,co,os,h1,h2,h3,h4,h5,h6,h7⟩:=h
 rw [epBs_len hb.1] at h1
 have hnb:1≤n / batch:=Nat.div_pos hb.2 hb.1
 have hr:t % (n / batch)<n / batch:=Nat.mod_lt _ hnb
 have hq:t / (n / batch)<pcnt steps (n / batch):=by
  unfold pcnt
  rw [if_neg (by omega)]
  have:=Nat.div_le_div_right (c:=n / batch) (show t≤steps-1 by omega)
  omega
 have hle:t % (n / batch)*batch+batch≤n:=by
  have h8:=Nat.mul_le_mul_right batch hr
  have h9:=Nat.div_mul_le_self n batch
  rw [Nat.succ_mul] at h8
  omega
 have hle2:t % (n / batch)*batch+batch≤n-n % batch:=by
  have h8:=Nat.mul_le_mul_right batch hr
  have h9:=Nat.div_add_mod n batch
  rw [Nat.succ_mul,Nat.mul_comm (n / batch)] at h8
  omega
 have hlen:os.length=pcnt steps (n / batch):=by
  have:=congrArg List.length h5
  simpa [ordersL] using this
 obtain ⟨o,ho⟩:∃ o,os[t / (n / batch)]?=some o:=⟨_,List.getElem?_eq_getElem (by omega)⟩
 have ho2:o.2.2=shufL ds (t / (n / batch)*(n-1)) n:=by
  have e:=congrArg (·[t / (n / batch)]?) h5
  simp only [List.getElem?_map,ho,ordersL,List.getElem?_range hq,Option.map_some,Option.some.injEq] at e
  exact e
 have hm:=List.mem_of_getElem? ho
 refine ⟨Ab,cb,Ao,co,os,o.1,o.2.1,blk_cells h1,h2.1.more hh,?_,hle,h3.1.more hh,?_,(h4 o hm).1,hq,?_,hr⟩
 · have hr2:t % (n / batch)<pcnt (n-n % batch) batch:=by
    have:=epBs_len (n:=n) hb.1
    rw [epBs,blocks_len] at this
    omega
   simp only [epBs,blocksL,List.getElem?_map,List.getElem?_range hr2,Option.map_some,blk1]
   rw [Nat.min_eq_left (by omega)]
 · simp [ordVals,ho]
 · rw [← ho2];exact (h4 o hm).2.1.more hh
set_option maxRecDepth 100000 in
theorem view_any (w:World) (lo hi gs n batch steps t:Nat) (ds:List Nat) (h:SampAt w lo hi gs n batch steps ds) (hh:hi≤w.heap.size) (hn:n≤1000) (hb:1≤batch∧batch≤n) (ht:t<steps) (hs:steps≤1000) :
  Calls Tryz.prog 222 #[.pointer (some ⟨gs,0,none⟩),.int .i64 t] w fun e w'=>∃ A,e=.returned (.slice A batch batch)∧Rd w' w'.heap.size A (iCells (viewL ds n batch t))∧Below w.heap.size w w':=by
 have CE:=K1 (samEpoch_any w lo hi gs n batch steps t ds h hb ht hs)
 obtain ⟨Ab,cb,Ao,co,os,A1,c1,h1,h2,h3,h4,h5,h6,h7,h8,h9,h10⟩:=h.step hh hb ht
 have hgs:gs<w.heap.size:=Nat.lt_of_lt_of_le h.in_.2 hh
 clear h
 unfold viewL
 generalize n / batch=nb at *
 generalize t / nb=q at *
 generalize hr:t % nb=r at *
 obtain ⟨x,hx⟩:∃ x,x=r*batch:=⟨_,rfl⟩
 obtain ⟨y,hy⟩:∃ y,y=x+batch:=⟨_,rfl⟩
 rw [← hx,← hy] at h3 h4
 rw [← hx,← hy,iCells_sub]
 have hl:(iCells (shufL ds (q*(n-1)) n)).length=n:=by rw [iCells_len,shufL_len]
 generalize iCells (shufL ds (q*(n-1)) n)=vs at *
 have HM:=K1 ((((Mem.start w).add_rd (i:=0) rfl h2).add_rd (i:=0) rfl h5).add_rd (i:=0) rfl h9)
 obtain ⟨b1,o1,rfl,_,_⟩:=h2 (by have:=(List.getElem?_eq_some_iff.1 h3).1;rw [rcells_len];omega)
 obtain ⟨b2,o2,rfl,_,_⟩:=h5 (by have:=(List.getElem?_eq_some_iff.1 h6).1;omega)
 have HX:=K1 (And.intro h3 (And.intro h6 (And.intro h4 hl)))
 clear h2 h3 h5 h6 h9 hl hr hx
 go_enter Tryz.func222,Tryz.ntmps222
 go_wp2_with fail
 (with_reducible refine CE.out.mono ?_)
 rintro e w1 ⟨rfl,hb1⟩
 replace HM:=K1 (HM.out.below hb1)
 have k1:∀ i,w1.cell? ⟨gs,i,none⟩=([.int .i64 batch,.int .i64 steps,.slice (some ⟨b1,o1,none⟩) nb cb,.slice (some ⟨b2,o2,none⟩) (pcnt steps nb) co]:List Value)[i]?:=fun i=>(hb1.cell hgs).trans (h1 i)
 have HB1:=K1 hb1
 obtain ⟨k2,k3⟩:=HM.out.range2 1 rfl HX.out.1
 clear hb1 CE h1
 go_wp2_with fail
 refine name_wp fun W hW=>?_
 have k4:∀ i,W.cell? ⟨gs,i,none⟩=([.int .i64 batch,.int .i64 steps,.slice (some ⟨b1,o1,none⟩) nb cb,.slice (some ⟨b2,o2,none⟩) (pcnt steps nb) co]:List Value)[i]?:=fun i=>by
  rw [hW.out];exact (((Below.refl w1.heap.size w1).alloc (Nat.le_refl _) _).cell (Nat.lt_of_lt_of_le hgs HB1.out.size)).trans (k1 i)
 replace HM:=K1 (HM.out.alloc_ hW.out)
 clear hW k1 k2 k3
 have k5:=HM.out.cells 4 rfl
 have k6:=HM.out.rdAt 2 rfl HX.out.2.1
 have hxy:x≤y:=by omega
 have hyc:y≤c1:=Nat.le_trans HX.out.2.2.1 h7
 have hqn:q<pcnt steps nb:=h8
 go_region
 go_wp2_with fail
 have hs:=(HM.out.drew.rd 3 rfl).sub x y (by rw [HX.out.2.2.2];omega)
 rw [if_neg (by omega),hy] at hs
 go_ret
 exact ⟨_,rfl,hs,(HM.out.drew.bel 0 rfl)⟩
theorem bnd_lt {n k i:Nat} (hi:i<k):bnd n k (i+1)≤n:=bnd_le (by omega) (by omega)
theorem pieceL_len {α:Type} {l:List α} {i k:Nat} (hi:i<k):(pieceL l i k).length=bnd l.length k (i+1)-bnd l.length k i:=subL_len (bnd_mono _ _ _) (bnd_lt hi)
theorem pieceL_le {α:Type} {l:List α} {i k:Nat} (hi:i<k):(pieceL l i k).length≤l.length:=by
 have:=bnd_lt (n:=l.length) hi
 rw [pieceL_len hi];omega
set_option maxRecDepth 100000 in
theorem piece_any (w:World) (A:Option Addr) (n cap i k:Nat) (l:List Nat) (hr:Rd w w.heap.size A (iCells l)) (hl:l.length=n) (hc:n≤cap) (hn:n≤1000) (hk:k≤1000) (hi:i<k) :
  Calls Tryz.prog 223 #[.slice A n cap,.int .i64 i,.int .i64 k] w fun e w'=>∃ A' m,e=.returned (.slice A' m m)∧(pieceL l i k).length=m∧Rd w' w'.heap.size A' (iCells (pieceL l i k))∧Below w.heap.size w w':=by
 have CE:=K1 (even_any n k w (by omega) ⟨by omega,hk⟩)
 have hlen:=pieceL_len (l:=l) hi
 have hp:iCells (pieceL l i k)=subL (iCells l) (bnd n k i) (bnd n k (i+1)):=by rw [pieceL,iCells_sub,hl]
 rw [hl] at hlen
 have h1:=bnd_mono n k i
 have h2:=bnd_lt (n:=n) hi
 have h3:(evenL n k)[i]?=some (bnd n k i,bnd n k (i+1)):=by simp [evenL,hi]
 have h4:=even_len n k
 rw [hlen,hp]
 have h5:(iCells l).length=n:=by rw [iCells_len,hl]
 generalize bnd n k i=x at *
 generalize bnd n k (i+1)=y at *
 generalize evenL n k=ev at *
 generalize iCells l=vs at *
 have HM:=K1 ((Mem.start w).add_rd (i:=0) rfl hr)
 have HX:=K1 (And.intro h3 (And.intro h4 h5))
 clear hlen hp h3 h4 h5 hr hl
 go_enter Tryz.func223,Tryz.ntmps223
 go_wp2_with fail
 (with_reducible refine CE.out.mono ?_)
 rintro e w1 ⟨v,rfl,hv,hb1⟩
 obtain ⟨A1,c1,rfl⟩:=own_slice hv
 replace HM:=K1 (HM.out.push_rd hb1 (rd_of_own hv) (own_from_base hv))
 clear hb1 hv CE
 obtain ⟨b1,o1,rfl,_,_⟩:=HM.out.rd 2 rfl (by have:=(List.getElem?_eq_some_iff.1 HX.out.1).1;rw [rcells_len];omega)
 obtain ⟨k2,k3⟩:=HM.out.range2 2 rfl HX.out.1
 have h6:=HX.out.2.1
 generalize ev.length=ne at *
 subst h6
 by_cases hxy:x=y
 · subst hxy
   go_wp2_with fail
   have hs:=(HM.out.alloc (.cells #[.int .i64 x,.int .i64 x] 47)).rd 1 rfl |>.sub x x (by rw [HX.out.2.2];omega)
   rw [if_pos rfl] at hs
   go_ret
   exact ⟨_,_,rfl,by omega,hs,(HM.out.alloc _).bel 0 rfl⟩
 have hlt:x<y:=by omega
 have hyx:¬ y=x:=by omega
 go_wp2_with fail
 have hs:=(HM.out.alloc (.cells #[.int .i64 x,.int .i64 y] 47)).rd 1 rfl |>.sub x y (by rw [HX.out.2.2];omega)
 rw [if_neg hyx] at hs
 go_ret
 exact ⟨_,_,rfl,by omega,hs,(HM.out.alloc _).bel 0 rfl⟩
theorem viewL_len {ds:List Nat} {n batch t:Nat} (h:t % (n / batch)*batch+batch≤n):(viewL ds n batch t).length=batch:=by
 rw [viewL,subL_len (by omega) (by rw [shufL_len];exact h)];omega
set_option maxRecDepth 100000 in
theorem micro_any (w:World) (lo hi gs n batch steps t u k a mi:Nat) (ds:List Nat) (h:SampAt w lo hi gs n batch steps ds) (hh:hi≤w.heap.size) (hn:n≤1000) (hb:1≤batch∧batch≤n) (ht:t<steps) (hs:steps≤1000) (hk:u<k∧k≤1000) (hm:a<mi∧mi≤1000) :
  Calls Tryz.prog 207 #[.pointer (some ⟨gs,0,none⟩),.int .i64 t,.int .i64 u,.int .i64 k,.int .i64 a,.int .i64 mi] w fun e w'=>∃ A c,e=.returned (.slice A (microL ds n batch t u k a mi).length c)∧w'.ownsRow w.heap.size 3 1 (.slice A (microL ds n batch t u k a mi).length c) (microL ds n batch t u k a mi).length (iCells (microL ds n batch t u k a mi))∧Below w.heap.size w w':=by
 have CV:=K1 (view_any w lo hi gs n batch steps t ds h hh hn hb ht hs)
 obtain ⟨_,_,_,_,_,_,_,_,_,_,h4,_⟩:=h.step hh hb ht
 have hvl:(viewL ds n batch t).length=batch:=viewL_len h4
 have CP1:=K1 (fun W A hr=>piece_any W A batch batch u k (viewL ds n batch t) hr hvl (Nat.le_refl _) (by omega) hk.2 hk.1)
 have hp1:=pieceL_le (l:=viewL ds n batch t) hk.1
 rw [hvl] at hp1
 unfold microL
 clear h h4
 generalize viewL ds n batch t=vl at *
 have CP2:=K1 (fun W A m (hr:Rd W W.heap.size A (iCells (pieceL vl u k))) hl hm2=>piece_any W A m m a mi (pieceL vl u k) hr hl (Nat.le_refl _) hm2 hm.2 hm.1)
 have hp2:=pieceL_le (l:=pieceL vl u k) hm.1
 generalize pieceL vl u k=p1 at *
 have CC:=K1 (fun W A m (hr:Rd W W.heap.size A (iCells (pieceL p1 a mi))) (hl:(pieceL p1 a mi).length=m) hm2=>cloneI_any A m m (iCells (pieceL p1 a mi)) W hr (by rw [iCells_len,hl,Nat.mul_one]) (by intro u hu;simp only [iCells,List.mem_map] at hu;obtain ⟨_,_,rfl⟩:=hu;rfl) hm2)
 generalize pieceL p1 a mi=p2 at *
 clear hvl
 go_enter Tryz.func207,Tryz.ntmps207
 go_wp2_with fail
 (with_reducible refine CV.out.mono ?_)
 rintro e w1 ⟨A1,rfl,hr1,hb1⟩
 go_wp2_with fail
 (with_reducible refine (CP1.out w1 A1 hr1).mono ?_)
 rintro e w2 ⟨A2,m2,rfl,hm2,hr2,hb2⟩
 have hb2':=hb1.trans (hb2.mono hb1.size)
 clear hr1 hb1 hb2 CV CP1
 go_wp2_with fail
 (with_reducible refine (CP2.out w2 A2 m2 hr2 hm2 (by omega)).mono ?_)
 rintro e w3 ⟨A3,m3,rfl,hm3,hr3,hb3⟩
 have hb3':=hb2'.trans (hb3.mono hb2'.size)
 clear hr2 hb2' hb3 CP2
 go_wp2_with fail
 (with_reducible refine (CC.out w3 A3 m3 hr3 hm3 (by omega)).mono ?_)
 rintro e w4 ⟨A4,c4,rfl,ho,hc,hb4⟩
 have hF:=own_from hb3'.size ho
 have hb4':=hb3'.trans (hb4.mono hb3'.size)
 clear hr3 hb3' hb4 CC
 go_wp2_with fail
 go_ret
 rw [hm3]
 exact ⟨A4,c4,rfl,hF,hb4'⟩
end Go.Proofs.YtdpojpcoghcieaaGreat
namespace Go.Proofs
open Go.Shelf
def Tryz.lays264_ren:Go.Shelf.Ren:=⟨fun | 264=>251 | n=>n,fun | 53=>141 | 46=>268 | n=>n,fun | n=>n⟩
theorem Tryz.lays264:Go.Proofs.Lays.n264 Tryz.prog Tryz.lays264_ren:={
 mixed:=by kernel_rfl
 f264:=Tryz.func251.trans (congrArg some (by kernel_rfl))
 t46:=Tryz.underlying268
 a46:=Tryz.isAgg268
 z46:=Tryz.sizeOf268
 v46:=Tryz.zeroValue268
 t53:=Tryz.underlying141
 a53:=Tryz.isAgg141
 z53:=Tryz.sizeOf141
 v53:=Tryz.zeroValue141 }
open Go.RowKit Go.Lib in
theorem Tryz.bits_Mul64 (x y:Nat) (hx:x<18446744073709551616) (hy:y<18446744073709551616) (w:World) :
  Calls Tryz.prog 251 #[.int .u64 x,.int .u64 y] w fun e w'=>e=.returned (.tuple #[.int .u64 ((x*y / 18446744073709551616:Nat):Int),.int .u64 ((x*y % 18446744073709551616:Nat):Int)])∧w'=w:=Any.bits_Mul64 Tryz.lays264 x y hx hy w
end Go.Proofs
