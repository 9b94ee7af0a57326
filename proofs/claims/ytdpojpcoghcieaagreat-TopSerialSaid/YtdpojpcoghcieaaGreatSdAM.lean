/- A part of the proof of TopSerial: Sampler, SampNew. Conditions: none. -/
import Derived.Deep.DeepCutAuto
import Derived.Test.YtdpojpcoghcieaaGreatSdAL
set_option maxHeartbeats 8000000
namespace Go.Proofs.YtdpojpcoghcieaaGreat
open Lib renaming hid → K1
open Go.RowKit
def famCh (l:List (Option Addr × List Value)):Ch:=.st (fun g=>∃ a∈l,0<a.2.length∧∃ p:Addr,a.1=some p∧p.block=g) (fun W=>∀ a∈l,Rd W W.heap.size a.1 a.2)
theorem fam_local {W:World} {l:List (Option Addr × List Value)} (h:∀ a∈l,Rd W W.heap.size a.1 a.2):(famCh l).Holds W:=by
 refine ⟨h,?_,?_⟩
 · rintro g ⟨a,ha,h0,p,hp,rfl⟩
   obtain ⟨b,off,e,hb,_⟩:=h a ha h0
   rw [hp] at e
   injection e with e
   subst e
   exact hb
 · intro W1 W2 hs hk h1 a ha h0
   obtain ⟨b,off,e,hb,hc⟩:=h1 a ha h0
   exact ⟨b,off,e,Nat.lt_of_lt_of_le hb hs,fun j u hu=>(World.cell?_of_block (w:=W1) (w':=W2) (a:=⟨b,off+j,none⟩) (hk b ⟨a,ha,h0,_,e,rfl⟩)).trans (hc j u hu)⟩
theorem Mem.reset {W:World} {L:List Ch} {c c':Ch} {i:Nat} (h:Mem W L) (hi:L[i]?=some c) (hc':c'.Holds W) (hm':¬ c'.mut) (hf:∀ g,c'.fp g→∃ (j:Nat) (d:Ch),L[j]?=some d∧¬ d.mut∧d.fp g):Mem W (L.set i c'):=by
 have old:∀ j d,j≠i→(L.set i c')[j]?=some d→L[j]?=some d:=fun j d hne hj=>by
  rw [List.getElem?_set_ne (Ne.symm hne)] at hj;exact hj
 have new:∀ d,(L.set i c')[i]?=some d→d=c':=fun d hd=>by
  rw [at_set hi] at hd;injection hd with hd;exact hd.symm
 constructor
 · intro j d hj
   by_cases hji:j=i
   · subst hji;rw [new d hj];exact hc'
   · exact h.holds j d (old j d hji hj)
 · intro j k a b hne hj hk hm g ha hb
   by_cases hji:j=i
   · subst hji
     rw [new a hj] at hm
     exact hm' hm
   · by_cases hki:k=i
     · subst hki
       rw [new b hk] at hb
       obtain ⟨l,d,hl,hd,hg⟩:=hf g hb
       have hj':=old j a hji hj
       refine h.sep j l a d (fun e=>?_) hj' hl hm g ha hg
       subst e
       rw [hj'] at hl
       injection hl with hl
       subst hl
       exact hd hm
     · exact h.sep j k a b hne (old j a hji hj) (old k b hki hk) hm g ha hb
theorem Mem.famSnoc {W:World} {L:List Ch} {l:List (Option Addr × List Value)} {A:Option Addr} {vs:List Value} {i j:Nat} (h:Mem W L) (hi:L[i]?=some (famCh l)) (hj:L[j]?=some (.rd A vs)):Mem W (L.set i (famCh (l++[(A,vs)]))):=by
 refine h.reset hi (fam_local fun a ha=>?_) (fun h=>h) ?_
 · rcases List.mem_append.1 ha with h1 | h1
   · exact h.st i hi a h1
   · simp at h1;subst h1;exact h.rd j hj
 · rintro g ⟨a,ha,h0,p,hp,rfl⟩
   rcases List.mem_append.1 ha with h1 | h1
   · exact ⟨i,_,hi,fun h=>h,a,h1,h0,p,hp,rfl⟩
   · simp at h1;subst h1;exact ⟨j,_,hj,fun h=>h,h0,p,hp,rfl⟩
abbrev Ords:=List (Option Addr × Nat × List Nat)
def ordersL (ds:List Nat) (n k:Nat):List (List Nat):=(List.range k).map fun i=>shufL ds (i*(n-1)) n
theorem ordersL_succ (ds:List Nat) (n k:Nat):ordersL ds n (k+1)=ordersL ds n k++[shufL ds (k*(n-1)) n]:=by simp [ordersL,List.range_succ]
def ordFam (os:Ords):List (Option Addr × List Value):=os.map fun o=>(o.1,iCells o.2.2)
def ordVals (n:Nat) (os:Ords):List Value:=os.map fun o=>.slice o.1 n o.2.1
theorem infoSI:(Tryz.prog.info? 22).map (fun i=>(i.zero,i.size,i.bytes))=some (some (.slice none 0 0),1,24):=by kernel_rfl
theorem rowSI:RowT Tryz.prog 101 22 1 24:=by
 obtain ⟨i0,hi,hz0,hz1,hz2⟩:=info_parts infoSI
 exact ⟨i0,_,Tryz.underlying101,hi,hz0,hz1,hz2,rfl,by decide,by decide⟩
def sampB (gs batch steps:Nat) (Ab:Option Addr) (nb cb:Nat) (Ao:Option Addr) (e co:Nat):Ch:=.obj gs (.cells #[.int .i64 batch,.int .i64 steps,.slice Ab nb cb,.slice Ao e co] 204 (0,0))
set_option maxRecDepth 100000 in
theorem epoch_any (w w0:World) (B0 bn bsp bsx bs gs cd n batch steps nb cb e co:Nat) (Ad Ab Ao:Option Addr) (ds:List Nat) (rs:List (Nat × Nat)) (os:Ords)
  (h:Mem w [.bel B0 w0,.rd Ab (rcells rs),.rd Ad (uCells ds),.obj bn (.cells #[.int .i64 n] 3 (0,0)),.obj bsp (.cells #[.pointer (some ⟨bs,0,none⟩)] 205 (0,0)),.obj bsx (.cells #[.pointer (some ⟨gs,0,none⟩)] 153 (0,0)),
   strB bs Ad ds.length cd (e*(n-1)),sampB gs batch steps Ab nb cb Ao e co,.own B0 22 1 (.slice Ao e co) e (ordVals n os),famCh (ordFam os)])
  (ho:os.map (fun o=>o.2.2)=ordersL ds n e) (hc:∀ o∈os,n≤o.2.1∧∀ q:Addr,o.1=some q→B0≤q.block) (hn:1≤n∧n≤1000) (hat:(e+1)*(n-1)≤ds.length) (hl:ds.length≤1000000000) (he:e≤1000000) :
  Calls Tryz.prog 105 #[.pointer (some ⟨bn,0,none⟩),.pointer (some ⟨bsp,0,none⟩),.pointer (some ⟨bsx,0,none⟩)] w fun r w'=>r=.returned (.bool true)∧∃ (Ao':Option Addr) (co':Nat) (os':Ords),
   Mem w' [.bel B0 w0,.rd Ab (rcells rs),.rd Ad (uCells ds),.obj bn (.cells #[.int .i64 n] 3 (0,0)),.obj bsp (.cells #[.pointer (some ⟨bs,0,none⟩)] 205 (0,0)),.obj bsx (.cells #[.pointer (some ⟨gs,0,none⟩)] 153 (0,0)),
    strB bs Ad ds.length cd ((e+1)*(n-1)),sampB gs batch steps Ab nb cb Ao' (e+1) co',.own B0 22 1 (.slice Ao' (e+1) co') (e+1) (ordVals n os'),famCh (ordFam os')] ∧
   os'.map (fun o=>o.2.2)=ordersL ds n (e+1)∧(∀ o∈os',n≤o.2.1∧∀ q:Addr,o.1=some q→B0≤q.block):=by
 have CS:=K1 (shuffle_any w _ h bs cd (e*(n-1)) n 6 2 Ad ds rfl rfl hn (by rw [Nat.succ_mul] at hat;exact hat) hl)
 have HO:=K1 (And.intro ho hc)
 have HBW:=K1 (show B0≤w.heap.size from (Nat.le_trans (h.holds 0 _ rfl).2 (h.bel 0 rfl).size))
 have c0:=h.cells 3 rfl
 have c1:=h.cells 4 rfl
 have HS:=K1 (show e*(n-1)+(n-1)=(e+1)*(n-1) by rw [Nat.succ_mul])
 clear h ho hc hat hl
 go_enter Tryz.func105,Tryz.ntmps105
 go_wp2_with fail
 (with_reducible refine CS.out.mono ?_)
 rintro r w1 ⟨A1,c1',rfl,hc1,hm1⟩
 have hlo1:∀ q:Addr,A1=some q→B0≤q.block:=fun q hq=>Nat.le_trans HBW.out (own_from_base (hm1.own _ at_last) q hq)
 have h2:=hm1.freeze at_last
 rw [set_last,HS.out] at h2
 have h3:=h2.famSnoc (i:=9) (j:=10) rfl rfl
 obtain ⟨os2,hos2⟩:∃ os2,os2=os++[(A1,c1',shufL ds (e*(n-1)) n)]:=⟨_,rfl⟩
 have e1:ordFam os++[(A1,iCells (shufL ds (e*(n-1)) n))]=ordFam os2:=by rw [hos2];simp [ordFam]
 have e2:ordVals n os2=ordVals n os++[.slice A1 n c1']:=by rw [hos2];simp [ordVals]
 have e3:os2.map (fun o=>o.2.2)=ordersL ds n (e+1)∧(∀ o∈os2,n≤o.2.1∧∀ q:Addr,o.1=some q→B0≤q.block):=by
  rw [hos2]
  refine ⟨by rw [ordersL_succ,List.map_append,HO.out.1];rfl,fun o ho=>?_⟩
  rcases List.mem_append.1 ho with h1 | h1
  · exact HO.out.2 o h1
  · simp at h1;subst h1;exact ⟨hc1,hlo1⟩
 rw [e1] at h3
 have HM:=K1 (show Mem w1 [.bel B0 w0,.rd Ab (rcells rs),.rd Ad (uCells ds),.obj bn (.cells #[.int .i64 n] 3 (0,0)),.obj bsp (.cells #[.pointer (some ⟨bs,0,none⟩)] 205 (0,0)),.obj bsx (.cells #[.pointer (some ⟨gs,0,none⟩)] 153 (0,0)),strB bs Ad ds.length cd ((e+1)*(n-1)),sampB gs batch steps Ab nb cb Ao e co,.own B0 22 1 (.slice Ao e co) e (ordVals n os),famCh (ordFam os2)] from h3.front 10)
 have HE:=K1 (And.intro e2 e3)
 clear hm1 h2 h3 c0 c1 CS e1 e2 e3 hos2
 go_wp2_with fail
 refine wp_region_spine 6 2 (fun W'=>W'.cell? ⟨bsx,0,none⟩=some (.pointer (some ⟨gs,0,none⟩))∧(∀ i,W'.cell? ⟨gs,i,none⟩=([.int .i64 batch,.int .i64 steps,.slice Ab nb cb,.slice Ao e co]:List Value)[i]?))
  (by kernel_rfl) (by kernel_rfl) (by kernel_rfl) (by intro d v c a w h;cases d <;> exact h) ⟨HM.out.drew.cell 5 0 rfl rfl,HM.out.drew.cells 7 rfl⟩ ?_
 apply Exists.intro
 apply And.intro
 · intro W' hS
   obtain ⟨s1,s2⟩:=hS
   simp only [List.take_succ_cons,List.take_zero]
   repeat still_step
   exact wpStill_nil rfl
 simp only [List.drop_succ_cons,List.drop_zero,List.take_succ_cons,List.take_zero]
 refine Spine.step ?_
 go_wp2_with fail
 refine name_behind fun W2 hW=>?_
 have HM2:=K1 (HM.out.drew.alloc_ hW.out)
 clear hW HM
 refine Behind.go ⟨HM2.out.cell 5 0 rfl rfl,HM2.out.cells 7 rfl⟩ (Spine.step ?_)
 go_wp2_with (at_builtin;refine wpList_append_mem rfl _ _ 101 rfl HM2.out 8 rowSI rfl rfl _ 1 _ [.slice A1 n c1'] rfl (HM2.out.box 10 rfl) rfl (by intro u hu;simp at hu;subst hu;rfl) (by omega) ?_;intro A' c' W3 hM3)
 have HM3:=K1 hM3
 clear hM3 HM2
 refine Behind.go ⟨HM3.out.cell 5 0 rfl rfl,HM3.out.cells 7 rfl⟩ (Spine.nil_ ?_)
 have k1:W3.cell? ⟨gs,3,none⟩=some (.slice Ao e co):=HM3.out.cell 7 3 rfl rfl
 have f1:W3.frozen? ⟨gs,3,none⟩=false:=HM3.out.frozen 7 3 rfl
 have HF:=K1 ((HM3.out.set (i:=7) (j:=3) rfl (.slice A' (e+1) c')).front 10)
 clear HM3
 go_wp2_with fail
 go_ret
 refine ⟨rfl,A',c',os2,?_,HE.out.2.1,HE.out.2.2⟩
 rw [HE.out.1]
 exact HF.out
theorem Mem.join {W W':World} {L M:List Ch} (h1:Mem W L) (h2:Mem W' (.bel W.heap.size W::M)) (hf:∀ c∈M,¬ c.mut→∀ g,c.fp g→W.heap.size≤g):Mem W' (L++M):=by
 have hb:=h2.bel 0 rfl
 have h1':=h1.below hb
 have hfr:∀ (j:Nat) (d:Ch),M[j]?=some d→∀ g,d.fp g→W.heap.size≤g:=fun j d hd g hg=>by
  by_cases hm:d.mut
  · rcases Nat.lt_or_ge g W.heap.size with h | h
    · exact absurd h (h2.sep (j+1) 0 d _ (by omega) (by simpa using hd) rfl hm g hg)
    · exact h
  · exact hf d (List.mem_of_getElem? hd) hm g hg
 have at_:∀ (i:Nat) (c:Ch),(L++M)[i]?=some c→(L[i]?=some c)∨(L.length≤i∧M[i-L.length]?=some c):=fun i c hc=>by
  rcases Nat.lt_or_ge i L.length with h | h
  · rw [List.getElem?_append_left h] at hc;exact .inl hc
  · rw [List.getElem?_append_right h] at hc;exact .inr ⟨h,hc⟩
 constructor
 · intro i c hc
   rcases at_ i c hc with h | ⟨_,h⟩
   · exact h1'.holds i c h
   · exact h2.holds (i-L.length+1) c (by simpa using h)
 · intro i j c d hne hc hd hm g hg1 hg2
   rcases at_ i c hc with h | ⟨hi,h⟩ <;> rcases at_ j d hd with k | ⟨hj,k⟩
   · exact h1'.sep i j c d hne h k hm g hg1 hg2
   · have:=hfr _ d k g hg2
     have:=Ch.lt (h1.holds i c h) hg1
     omega
   · have:=hfr _ c h g hg1
     have:=Ch.lt (h1.holds j d k) hg2
     omega
   · exact h2.sep (i-L.length+1) (j-L.length+1) c d (by omega) (by simpa using h) (by simpa using k) hm g hg1 hg2
def epBs (n batch:Nat):List (Nat × Nat):=blocksL (n-n % batch) batch
theorem epBs_len {n batch:Nat} (hb:1≤batch):(epBs n batch).length=n / batch:=by
 have h1:=Nat.div_add_mod n batch
 have h2:=Nat.mod_lt n hb
 rw [epBs,blocks_len]
 unfold pcnt
 have e:n-n % batch=batch*(n / batch):=by omega
 rw [e]
 generalize n / batch=q
 split
 · rename_i h
   rcases Nat.eq_zero_or_pos q with h3 | h3
   · exact h3.symm
   · have:=Nat.mul_pos hb h3;omega
 · rename_i h
   have h3:1≤q:=by
    rcases Nat.eq_zero_or_pos q with h3 | h3
    · subst h3;simp at h
    · exact h3
   obtain ⟨r,rfl⟩:∃ r,q=r+1:=⟨q-1,by omega⟩
   rw [Nat.mul_succ,show batch*r+batch-1=(batch-1)+batch*r by omega,Nat.add_mul_div_left _ _ hb,Nat.div_eq_of_lt (by omega)]
   omega
def SampMade (w:World) (n batch steps:Nat) (s10:Value) (W:World):Prop:=∃ bsx gs cb Ab,s10=.pointer (some ⟨bsx,0,none⟩) ∧
 Mem W [.bel w.heap.size w,.rd Ab (rcells (epBs n batch)),.obj w.heap.size (.cells #[.int .i64 n] 3 (0,0)),.obj bsx (.cells #[.pointer (some ⟨gs,0,none⟩)] 153 (0,0)),sampB gs batch steps Ab (epBs n batch).length cb none 0 0] ∧
 (epBs n batch).length≤cb∧w.heap.size≤gs∧(∀ q,Ab=some q→w.heap.size≤q.block)
structure SampAt (W:World) (lo hi gs n batch steps:Nat) (ds:List Nat):Prop where
 in_:lo≤gs∧gs<hi
 ex:∃ (Ab:Option Addr) (cb:Nat) (Ao:Option Addr) (co:Nat) (os:Ords),W.heap[gs]?=some (.cells #[.int .i64 batch,.int .i64 steps,.slice Ab (epBs n batch).length cb,.slice Ao (pcnt steps (n / batch)) co] 204 (0,0)) ∧
  RdIn W lo hi Ab (rcells (epBs n batch))∧RdIn W lo hi Ao (ordVals n os)∧(∀ o∈os,n≤o.2.1∧RdIn W lo hi o.1 (iCells o.2.2))∧os.map (fun o=>o.2.2)=ordersL ds n (pcnt steps (n / batch))∧(epBs n batch).length≤cb∧pcnt steps (n / batch)≤co
theorem SampAt.keep {W1 W2:World} {lo hi gs n batch steps:Nat} {ds:List Nat} (h:SampAt W1 lo hi gs n batch steps ds) (hk:∀ g,lo≤g→g<hi→W2.heap[g]?=W1.heap[g]?):SampAt W2 lo hi gs n batch steps ds:=by
 obtain ⟨h0,Ab,cb,Ao,co,os,h1,h2,h3,h4,h5⟩:=h
 exact ⟨h0,Ab,cb,Ao,co,os,(hk gs h0.1 h0.2).trans h1,h2.keep hk,h3.keep hk,fun o ho=>⟨(h4 o ho).1,(h4 o ho).2.keep hk⟩,h5⟩
set_option maxRecDepth 100000 in
theorem sampNew_any (n batch steps dl cap:Nat) (A:Option Addr) (ds:List Nat) (w:World) (hr:Rd w w.heap.size A (uCells ds)) (hdl:dl=ds.length) (hl:dl≤1000000000) (hn:1≤n∧n≤1000) (hb:1≤batch∧batch≤n) (hst:steps≤1000) (hd:pcnt steps (n / batch)*(n-1)≤dl) :
  Calls Tryz.prog 63 #[.int .i64 n,.int .i64 batch,.int .i64 steps,.slice A dl cap] w fun e w'=>∃ gs,e=.returned (.tuple #[.pointer (some ⟨gs,0,none⟩),.int .i64 0])∧SampAt w' w.heap.size w'.heap.size gs n batch steps ds∧Below w.heap.size w w':=by
 have CB:Hid (∀ W:World,Calls Tryz.prog 39 #[.int .i64 (n-n % batch:Nat),.int .i64 batch] W fun e w'=>∃ v,e=.returned v∧OwnR w' W.heap.size v (epBs n batch)∧Below W.heap.size W w'):=K1 (fun W=>pblocks_any (n-n % batch) batch W (by omega) ⟨hb.1,by omega⟩)
 have HM:=K1 ((Mem.start w).alloc (.cells #[.int .i64 n] 3))
 have HDL:=K1 hdl
 have HRD:=K1 hr
 clear hdl hr
 obtain ⟨r,hr1⟩:∃ r,r=n % batch:=⟨_,rfl⟩
 have hr2:r<batch:=by rw [hr1];exact Nat.mod_lt _ hb.1
 obtain ⟨z,hz⟩:∃ z,z=n-r:=⟨_,rfl⟩
 rw [← hr1,← hz] at CB
 have e1:(n:Int).tmod (batch:Int)=(r:Int):=by rw [hr1];exact (Int.ofNat_tmod _ _).symm
 have e2:(n:Int)-(r:Int)=(z:Int):=by omega
 have w1:IntKind.i64.wrap (r:Int)=(r:Int):=IntWalk.i64_in _ (by omega)
 have w2:IntKind.i64.wrap (z:Int)=(z:Int):=IntWalk.i64_in _ (by omega)
 have hb0:¬ batch=0:=by omega
 have HZ:=K1 (And.intro hr1 hz)
 clear hr1 hz
 go_enter Tryz.func63,Tryz.ntmps63
 go_upto_region 5 with fail
 go_cut [10] from 13 (fun s10 W=>SampMade w n batch steps s10 W)
 case rest =>
  obtain ⟨bsx,gs,cb,Ab,rfl,hm,hcb,hgs,hlo⟩:=hcut
  have CD:=K1 (fun W (hW:Below w.heap.size w W)=>drawNew_any A dl cap ds W ((HRD.out.below hW).more hW.size) HDL.out hl)
  have CP:=K1 (fun W=>pcount_any steps (n / batch) W (by omega) ⟨Nat.div_pos hb.2 hb.1,by have:=Nat.div_le_self n batch;omega⟩)
  replace HM:=K1 hm
  have HEP:=K1 (epBs_len (n:=n) hb.1)
  have HGS:=K1 (And.intro hgs hlo)
  have HD:=K1 hd
  rw [← HEP.out] at CP
  clear hm hgs hlo CB HZ hd e1 e2 w1 w2
  go_wp2_with fail
  (with_reducible refine (CD.out _ (HM.out.bel 0 rfl)).mono ?_)
  rintro e w3 ⟨bs,Ad,cd,rfl,hm3,hbs,had⟩
  have hm4:=HM.out.join hm3 (fun c hc hm g hg=>by
   simp only [List.mem_cons,List.not_mem_nil,or_false] at hc
   rcases hc with rfl | rfl
   · obtain ⟨_,q,hq,rfl⟩:=hg;exact had q hq
   · exact absurd trivial hm)
  replace HM:=K1 (hm4.alloc (.cells #[.pointer (some ⟨bs,0,none⟩)] 205))
  have cx:=HM.out.cells 3 rfl
  have cg:=HM.out.cells 4 rfl
  clear hm3 hm4 CD
  go_wp2_with fail
  (with_reducible refine (CP.out _).mono ?_)
  rintro e' w4 ⟨rfl,rfl⟩
  have hE:pcnt steps (epBs n batch).length≤1000:=Nat.le_trans (pcnt_le _ _) hst
  generalize hnb:(epBs n batch).length=nb at *
  have HNB:=K1 hnb
  generalize hee:pcnt steps nb=E at *
  have HEE:=K1 hee
  clear hnb hee cx cg CP
  have hm5:Mem _ [.bel w.heap.size w,.rd Ab (rcells (epBs n batch)),.rd Ad (uCells ds),.obj w.heap.size (.cells #[.int .i64 n] 3 (0,0)),.obj w3.heap.size (.cells #[.pointer (some ⟨bs,0,none⟩)] 205 (0,0)),.obj bsx (.cells #[.pointer (some ⟨gs,0,none⟩)] 153 (0,0)),strB bs Ad dl cd 0,sampB gs batch steps Ab nb cb none 0 0]:=HM.out.pick [0,1,5,2,7,3,6,4] _ rfl (by decide)
  rw [HDL.out] at hm5
  have hm6:=(hm5.add (c:=.own w.heap.size 22 1 (.slice none 0 0) 0 (ordVals n [])) ⟨own_nil _ _ _ _,(HM.out.bel 0 rfl).size⟩ (fun _ _ _ _ g hg=>by cases hg)).add (c:=famCh (ordFam [])) (fam_local (fun a ha=>by cases ha)) (fun _ _ _ _ g hg=>by obtain ⟨a,ha,_⟩:=hg;cases ha)
  have HM0:=K1 hm6
  clear hm5 hm6 HM
  go_wp2_with fail
  refine name_wp fun W0 hW=>?_
  replace HM0:=K1 (hW.out.symm ▸ HM0.out)
  clear hW
  generalize hbsp:w3.heap.size=bsp at *
  clear hbsp
  go_loopw [57] (fun i wr=>∃ (e:Nat) (Ao:Option Addr) (co:Nat) (os:Ords),e≤E∧i=.int .i64 e∧Hid (Mem wr [.bel w.heap.size w,.rd Ab (rcells (epBs n batch)),.rd Ad (uCells ds),.obj w.heap.size (.cells #[.int .i64 n] 3 (0,0)),.obj bsp (.cells #[.pointer (some ⟨bs,0,none⟩)] 205 (0,0)),.obj bsx (.cells #[.pointer (some ⟨gs,0,none⟩)] 153 (0,0)),strB bs Ad ds.length cd (e*(n-1)),sampB gs batch steps Ab nb cb Ao e co,.own w.heap.size 22 1 (.slice Ao e co) e (ordVals n os),famCh (ordFam os)])∧Hid (os.map (fun o=>o.2.2)=ordersL ds n e∧∀ o∈os,n≤o.2.1∧∀ q:Addr,o.1=some q→w.heap.size≤q.block)) (fun i _=>E-(intOf i).toNat)
  case atStart=>exact ⟨0,none,0,[],Nat.zero_le _,rfl,K1 (by rw [Nat.zero_mul];exact HM0.out),K1 ⟨rfl,fun o ho=>by cases ho⟩⟩
  case round =>
   clear HM0
   obtain ⟨e,Ao,co,os,he,rfl,HM,HOS⟩:=hrel
   by_cases hlt:e<E
   · have hat:(e+1)*(n-1)≤ds.length:=by
      have h1:=HD.out
      have h2:(e+1)*(n-1)≤E*(n-1):=Nat.mul_le_mul_right _ (by omega)
      rw [← HEP.out,HEE.out,HDL.out] at h1
      omega
     have CE:=K1 (epoch_any wr w w.heap.size w.heap.size bsp bsx bs gs cd n batch steps nb cb e co Ad Ab Ao ds (epBs n batch) os HM.out HOS.out.1 HOS.out.2 hn hat (by rw [← HDL.out];exact hl) (by omega))
     clear hat
     go_wp2_with fail
     (with_reducible refine CE.out.mono ?_)
     rintro r' w5 ⟨rfl,Ao',co',os',hm',ho',hc'⟩
     have HM':=K1 hm'
     have HO':=K1 (And.intro ho' hc')
     clear hm' ho' hc' CE HM HOS
     go_wp2_with fail
     go_roundw
     case rel=>exact ⟨e+1,Ao',co',os',by omega,by go_num,HM',HO'⟩
     case measure=>simp [intOf];omega
   · have hE2:e=E:=by omega
     subst hE2
     have cx:=HM.out.cells 5 rfl
     have HF:=K1 (show SampAt wr w.heap.size wr.heap.size gs n batch steps ds∧Below w.heap.size w wr from by
      have ho:=HM.out.own 8 rfl
      refine ⟨⟨⟨HGS.out.1,HM.out.lt 7 rfl⟩,Ab,cb,Ao,co,os,?_,⟨HM.out.rd 1 rfl,HGS.out.2⟩,⟨rd_of_own ho,own_from_base ho⟩,fun o hoo=>⟨(HOS.out.2 o hoo).1,?_,(HOS.out.2 o hoo).2⟩,?_,?_,?_⟩,HM.out.bel 0 rfl⟩
      · rw [← HEP.out,HEE.out,HNB.out];exact HM.out.obj 7 rfl
      · exact HM.out.st 9 rfl (o.1,iCells o.2.2) (List.mem_map.2 ⟨o,hoo,rfl⟩)
      · rw [← HEP.out,HEE.out];exact HOS.out.1
      · rw [HNB.out];exact hcb
      · rw [← HEP.out,HEE.out];exact own_cap ho)
     clear HM HOS
     go_wp2_with fail
     go_ret2
     exact ⟨gs,rfl,HF.out.1,HF.out.2⟩
 case first =>
  go_wp2_with fail
  refine name_wp fun W0 hW=>?_
  replace HM:=K1 (show Mem W0.drew _ from (hW.out.symm ▸ HM.out:Mem W0 _).drew)
  clear hW
  go_region_held3 (fun w'=>w'.cell? ⟨w.heap.size,0,none⟩=some (.int .i64 n))
   (first
    | exact HM.out.cell 1 0 rfl rfl
    | exact (HM.out.alloc _).cell 1 0 rfl rfl
    | exact ((HM.out.alloc _).alloc _).cell 1 0 rfl rfl
    | exact ((HM.out.alloc _).set (i:=2) rfl _).cell 1 0 rfl rfl
    | exact (((HM.out.alloc _).alloc _).set (i:=3) rfl _).cell 1 0 rfl rfl
    | exact (((HM.out.alloc _).alloc _).set (i:=4) rfl _).cell 1 0 rfl rfl)
   ((go_at_call 39
     (with_reducible refine (CB.out _).mono ?_)
     rintro e w4 ⟨v,rfl,hv,hb⟩
     obtain ⟨A4,c4,rfl⟩:=own_slice hv
     have HC4:=K1 (own_cap hv)
     first
      | (have HLO:=K1 (fun q hq=>Nat.le_trans (HM.out.bel 0 rfl).size (own_from_base hv q hq))
         replace HM:=K1 (HM.out.push_rd hb (rd_of_own hv) (own_from_base hv))
         have cB:∀ o,((w4.alloc (.cells #[.pointer none] 153)).alloc o).cell? ⟨w4.heap.size,0,none⟩=some (.pointer none):=fun o=>((HM.out.alloc _).alloc o).cell 3 0 rfl rfl
         have fB:∀ o,((w4.alloc (.cells #[.pointer none] 153)).alloc o).frozen? ⟨w4.heap.size,0,none⟩=false:=fun o=>((HM.out.alloc _).alloc o).frozen 3 0 rfl)
      | (have HLO:=K1 (fun q hq=>Nat.le_trans ((HM.out.alloc _).bel 0 rfl).size (own_from_base hv q hq))
         replace HM:=K1 ((HM.out.alloc _).push_rd hb (rd_of_own hv) (own_from_base hv))
         have cB:∀ o,(w4.alloc o).cell? ⟨W0.heap.size,0,none⟩=some (.pointer none):=fun o=>(HM.out.alloc o).cell 2 0 rfl rfl
         have fB:∀ o,(w4.alloc o).frozen? ⟨W0.heap.size,0,none⟩=false:=fun o=>(HM.out.alloc o).frozen 2 0 rfl)
     clear hb hv CB))
  · have hsz:=(HM.out.bel 0 rfl).size
    go_wp2_with fail
    go_meet
    refine ⟨w4.heap.size+1,w4.heap.size,c4,A4,rfl,?_,HC4.out,hsz,HLO.out⟩
    have h:=((HM.out.alloc (.cells #[.int .i64 batch,.int .i64 steps,.slice A4 (epBs n batch).length c4,.slice none 0 0] 204)).alloc (.cells #[.pointer (some ⟨w4.heap.size,0,none⟩)] 153))
    simp only [World.size_alloc] at h
    exact h.pick [0,2,1,4,3] _ rfl (by decide)
  · have hsz:=(HM.out.bel 0 rfl).size
    go_wp2_with fail
    go_meet
    refine ⟨w4.heap.size,w4.heap.size+1,c4,A4,rfl,?_,HC4.out,by omega,HLO.out⟩
    have h:=((HM.out.alloc (.cells #[.pointer (some ⟨w4.heap.size+1,0,none⟩)] 153)).alloc (.cells #[.int .i64 batch,.int .i64 steps,.slice A4 (epBs n batch).length c4,.slice none 0 0] 204))
    simp only [World.size_alloc] at h
    exact h.pick [0,2,1,3,4] _ rfl (by decide)
  · have hsz:=(HM.out.bel 0 rfl).size
    go_wp2_with fail
    go_meet
    refine ⟨W0.heap.size,w4.heap.size,c4,A4,rfl,?_,HC4.out,hsz,HLO.out⟩
    have h:=((HM.out.alloc (.cells #[.int .i64 batch,.int .i64 steps,.slice A4 (epBs n batch).length c4,.slice none 0 0] 204)).set (i:=2) (j:=0) rfl (.pointer (some ⟨w4.heap.size,0,none⟩)))
    exact h.pick [0,3,1,2,4] _ rfl (by decide)
end Go.Proofs.YtdpojpcoghcieaaGreat
