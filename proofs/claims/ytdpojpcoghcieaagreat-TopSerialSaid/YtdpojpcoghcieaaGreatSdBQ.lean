/- A part of the proof of TopSerial: RefGr14, RefTrain. Conditions: none. -/
import Derived.Test.YtdpojpcoghcieaaGreatSdBP
set_option maxHeartbeats 8000000
namespace Go.Proofs.YtdpojpcoghcieaaGreat
open Lib renaming hid → K1
open List renaming filterMap_cons → p1, filterMap_nil → p2, getElem?_cons_zero → p3, getElem?_cons_succ → p4
open Go.RowKit
theorem addTo_zero {l:List Int} {p:Nat} (h:l.length=p) (hi:In64 l):addTo 0 l (zeroL p) p=l:=by
 refine ext_getD (by rw [addTo_len];simp [zeroL,h]) fun j hj=>?_
 rw [addTo_len] at hj
 have hj:j<p:=by simpa [zeroL] using hj
 rw [addTo_getD _ _ _ _ (by simp [zeroL]),if_pos (by omega),zero_getD,Nat.sub_zero,Int.zero_add]
 exact w64_id (getD_in hi j)
theorem Inp.ex_at {i:Inp} (hi:i.Ok) {w:World} (ha:i.At w) {bd od:Nat} (hD:i.DA=some ⟨bd,od,none⟩) {j:Nat} (hj:j<i.r.n):∃ (e:Ex) (a b:Nat),i.r.dat[j]?=some (e.xs,e.ys)∧i.r.ns[0]?=some a∧i.r.ns[i.r.ns.length-1]?=some b∧e.xs.length=a∧e.ys.length=b∧In64 e.xs∧In64 e.ys∧a≤e.cx∧b≤e.cy ∧
  ∀ W,Below w.heap.size w W→W.cell? ⟨bd,od+j*2,none⟩=some (.slice e.ax a e.cx)∧W.cell? ⟨bd,od+j*2+1,none⟩=some (.slice e.ay b e.cy)∧Rd W W.heap.size e.ax (zC e.xs)∧Rd W W.heap.size e.ay (zC e.ys):=by
 obtain ⟨a,b,h1,h2,h3⟩:=hi.ex
 obtain ⟨e,he⟩:=get_some i.l j (by rw [hi.l.1];exact hj)
 have hm:=List.mem_of_getElem? he
 obtain ⟨e1,e2,e3,e4⟩:=h3 e hm
 have hx:=ha.l.2 e hm
 refine ⟨e,a,b,?_,h1,h2,e1,e2,e3,e4,by rw [← e1];exact hx.2.2.1,by rw [← e2];exact hx.2.2.2.1,fun W hb=>?_⟩
 · rw [← hi.l.2,List.getElem?_map,he];rfl
 · have ha':=ha.below hb
   obtain ⟨bd',od',hD',_,hc⟩:=ha'.l.at_ (by rw [hi.l.1];omega)
   rw [hD] at hD'
   injection hD' with hD'
   injection hD' with hD1 hD2
   subst hD1;subst hD2
   have:=hc j e he
   rw [e1,e2] at this
   have hx':=ha'.l.2 e hm
   exact ⟨this.1,this.2,hx'.1,hx'.2.1⟩
theorem Inp.rnet {i:Inp} (hi:i.Ok) {w:World} (ha:i.At w) {A:Option Addr} {cp:Nat} {ps:List Int} (hA:Rd w w.heap.size A (zC ps)) (hp:ps.length=i.r.p∧In64 ps):RNet w i.r.ns ps i.r.ns.length i.r.p i.cap cp i.r.c.sh i.A A :=
 ⟨hi.ns,rfl,hi.cap,ha.ns,hA,hp.1,hi.pn.symm,hi.c.sh.2,hp.2⟩
set_option maxRecDepth 100000 in
theorem rgrad14_any (w:World) (i:Inp) (hi:i.Ok) (ha:i.At w) (A:Option Addr) (cp:Nat) (ps:List Int) (hA:Rd w w.heap.size A (zC ps)) (hp:ps.length=i.r.p∧In64 ps) (B:Option Addr) (nb cb:Nat) (js:List Nat) (hB:Rd w w.heap.size B (iCells js)) (hjl:js.length=nb) (hj:∀ j∈js,j<i.r.n) (hnb:nb≤1000) :
  Calls Tryz.prog 33 #[.agg i.cells.toArray,.slice A i.r.p cp,.slice B nb cb] w fun e w'=>∃ g c,e=.returned (.tuple #[.slice g i.r.p c,.bool true])∧i.r.p≤c∧(∀ q,g=some q→w.heap.size≤q.block)∧Rd w' w'.heap.size g (zC (compG i.r.ns i.r.c.sh ps i.r.p (exD i.r.dat js) (zeroL i.r.p)))∧Below w.heap.size w w':=by
 have hp60:=hi.p
 have hn:=hi.n
 have hmk:=run_make_i64 i.r.p (by omega)
 have hm:=((((Mem.start w).add_rd (i:=0) rfl hA).add_rd (i:=0) rfl hB).alloc (.cells i.cells.toArray 29)).zero i.r.p (by omega)
 simp only [World.size_alloc] at hm
 have hm2:=hm.freeze (i:=4) rfl
 have HM:=K1 hm2
 have CN:=K1 (fun W=>rnet14_any W i A i.r.p cp)
 have CG:=K1 (fun W (hb:Below w.heap.size w W)=>(Inp.rnet hi (ha.below hb) (A:=A) (cp:=cp) (ps:=ps) ((hA.below hb).more hb.size) hp))
 obtain ⟨bd,od,hD,_,_⟩:=ha.l.at_ (by have:=hi.c.ba;have:=hi.c.k;rw [hi.l.1];omega)
 have HX:=K1 (fun j (hj:j<i.r.n)=>Inp.ex_at hi ha hD hj)
 have HI:=K1 hi
 have HP:=K1 hp
 have HJ:=K1 hj
 have HJL:=K1 hjl
 have hBn:0<nb→∃ b o,B=some ⟨b,o,none⟩:=fun h0=>by obtain ⟨b,o,e,_⟩:=hB (by rw [iCells_len,hjl];exact h0);exact ⟨b,o,e⟩
 dsimp only [Inp.cells] at *
 rw [hD] at HM CN ⊢
 clear hD hm hm2 hA hB hi ha hp hj hjl
 obtain ⟨p,hpe⟩:∃ p,p=i.r.p:=⟨_,rfl⟩
 have HG:=K1 (show ∀ (l:List (List Int × List Int)),(compG i.r.ns i.r.c.sh ps i.r.p l (zeroL i.r.p)).length=i.r.p∧In64 (compG i.r.ns i.r.c.sh ps i.r.p l (zeroL i.r.p)) from fun l=>⟨(compG_len _ _ _ _ _ _).trans (by simp [zeroL]),compG_in _ _ _ _ _ _ (zero_in _)⟩)
 go_enter Tryz.func33,Tryz.ntmps33
 go_wp2_with fail
 clear hmk
 have HM0:=K1 (show Mem _ [.bel w.heap.size w,.rd A (zC ps),.rd B (iCells js),.obj w.heap.size (.cells #[.slice i.A i.r.ns.length i.cap,.int .i64 i.r.c.sh,.int .i64 i.r.c.ra,.int .i64 i.r.c.mo,.int .i64 i.r.c.k,.int .i64 i.r.c.ba,.int .i64 i.r.c.mi,.int .i64 i.r.c.st,.int .i64 i.r.c.bu,.int .i64 i.r.c.s,.int .i64 i.r.c.wi,.int .i64 i.r.c.ca,.slice (some ⟨bd,od,none⟩) i.r.n i.dcap,.slice i.SA i.r.p i.scap,.slice i.RA i.r.ds.length i.rcap] 29 (0,0)),.rd (some ⟨w.heap.size+1,0,none⟩) (zC (compG i.r.ns i.r.c.sh ps i.r.p (exD i.r.dat (js.take 0)) (zeroL i.r.p)))] from HM.out)
 have HFR:=K1 (show ∀ q:Addr,(some ⟨w.heap.size+1,0,none⟩:Option Addr)=some q→w.heap.size≤q.block from fun q hq=>by cases hq;exact Nat.le_succ _)
 clear HM
 go_loopw [8,9,10] (fun s8 s9 _ wr=>∃ (k c:Nat) (G:Option Addr),k≤nb∧i.r.p≤c∧s8=.slice G i.r.p c∧s9=.int .i64 k∧Hid (∀ q:Addr,G=some q→w.heap.size≤q.block)∧Hid (Mem wr [.bel w.heap.size w,.rd A (zC ps),.rd B (iCells js),.obj w.heap.size (.cells #[.slice i.A i.r.ns.length i.cap,.int .i64 i.r.c.sh,.int .i64 i.r.c.ra,.int .i64 i.r.c.mo,.int .i64 i.r.c.k,.int .i64 i.r.c.ba,.int .i64 i.r.c.mi,.int .i64 i.r.c.st,.int .i64 i.r.c.bu,.int .i64 i.r.c.s,.int .i64 i.r.c.wi,.int .i64 i.r.c.ca,.slice (some ⟨bd,od,none⟩) i.r.n i.dcap,.slice i.SA i.r.p i.scap,.slice i.RA i.r.ds.length i.rcap] 29 (0,0)),.rd G (zC (compG i.r.ns i.r.c.sh ps i.r.p (exD i.r.dat (js.take k)) (zeroL i.r.p)))])) (fun _ s9 _ _=>nb-(intOf s9).toNat)
 case atStart=>exact ⟨0,_,_,Nat.zero_le _,Nat.le_refl _,rfl,rfl,HFR,HM0⟩
 case round =>
  clear HM0 HFR
  obtain ⟨k,c,G,hk,hc,rfl,rfl,HF,HM⟩:=hrel
  by_cases hlt:k<nb
  · obtain ⟨bB,oB,hBe⟩:=hBn (by omega)
    subst hBe
    obtain ⟨j,hjs⟩:=get_some js k (by rw [HJL.out];exact hlt)
    have hjn:=HJ.out j (List.mem_of_getElem? hjs)
    have e1:=HM.out.rdAt 2 rfl (show (iCells js)[k]?=some (.int .i64 j) by simp [iCells,hjs])
    have HT:=K1 (show exD i.r.dat (js.take (k+1))=exD i.r.dat (js.take k)++[(i.r.dat[j]?).getD ([],[])] by rw [List.take_add_one,hjs];simp [exD])
    obtain ⟨⟨ax,xs,cx,ay,ys,cy⟩,a,b,hdat,ha,hb,hxl,hyl,hxi,hyi,hcx,hcy,hW⟩:=HX.out j hjn
    dsimp only at hxl hyl hxi hyi hcx hcy hW hdat
    rw [hdat] at HT
    have HW:=K1 hW
    have HE:=K1 (And.intro ha (And.intro hb (And.intro hxl (And.intro hyl (And.intro hxi hyi)))))
    have gj1:¬ ((j:Int)<0):=by omega
    have gj2:decide ((j:Int)<0)=false:=decide_eq_false (by omega)
    have gj3:(j:Int)<(i.r.n:Int):=by omega
    have gj4:j<i.r.n:=hjn
    have hnb2:=hn.1
    clear hjs hW ha hb hxl hyl hxi hyi hdat hjn hcy
    have c3:=HM.out.cells 3 rfl
    go_wp2_with fail
    clear e1 c3
    refine name_wp fun W0 hW=>?_
    replace HM:=K1 (hW.out.symm ▸ HM.out)
    clear hW
    refine wp_region_stage (.reads [0,1,2,4,5,6,7,8,9,10,11,12,13,14,15] (.eff 3 (.eff 16 (.eff 17 (.eff 18 (.reads [19,20,21,22] .fin)))))) 23 (fun W'=>(∀ x,W'.cell? ⟨w.heap.size,x,none⟩=([.slice i.A i.r.ns.length i.cap,.int .i64 i.r.c.sh,.int .i64 i.r.c.ra,.int .i64 i.r.c.mo,.int .i64 i.r.c.k,.int .i64 i.r.c.ba,.int .i64 i.r.c.mi,.int .i64 i.r.c.st,.int .i64 i.r.c.bu,.int .i64 i.r.c.s,.int .i64 i.r.c.wi,.int .i64 i.r.c.ca,.slice (some ⟨bd,od,none⟩) i.r.n i.dcap,.slice i.SA i.r.p i.scap,.slice i.RA i.r.ds.length i.rcap]:List Value)[x]?)∧W'.cell? ⟨bd,od+j*2,none⟩=some (.slice ax a cx)∧W'.cell? ⟨bd,od+j*2+1,none⟩=some (.slice ay b cy))
     (by kernel_rfl) (by kernel_rfl) (by intro d v c a w h;cases d <;> exact h) ?_
    replace HM:=K1 HM.out.drew
    generalize W0.drew=V at *
    refine PlS.reads_ ⟨HM.out.cells 3 rfl,(HW.out _ (HM.out.bel 0 rfl)).1,(HW.out _ (HM.out.bel 0 rfl)).2.1⟩ (by kernel_rfl) ?_
    simp only [pickO,p1,p2,p3,p4]
    apply Exists.intro
    apply And.intro
    · intro W' hS
      obtain ⟨s0,s1,s2⟩:=hS
      repeat still_step
      exact wpStill_nil rfl
    refine PlS.eff_ ?_
    simp only [pickO,p1,p2,p3,p4]
    go_wp2_with fail
    refine (CN.out _).mono ?_
    rintro e w5 ⟨rfl,hb5⟩
    replace HM:=K1 (HM.out.below hb5)
    clear hb5
    go_wp2_with fail
    refine After.go ⟨HM.out.cells 3 rfl,(HW.out _ (HM.out.bel 0 rfl)).1,(HW.out _ (HM.out.bel 0 rfl)).2.1⟩ ?_
    refine PlS.eff_ ?_
    simp only [pickO,p1,p2,p3,p4]
    have CGk:=K1 (rgrad09_any _ _ _ _ _ _ _ _ _ _ _ _ _ _ _ _ _ (CG.out _ (HM.out.bel 0 rfl)) (HW.out _ (HM.out.bel 0 rfl)).2.2.1 HE.out.2.2.1 HE.out.1 HE.out.2.2.2.2.1 hcx (HW.out _ (HM.out.bel 0 rfl)).2.2.2 HE.out.2.2.2.1 HE.out.2.1 (cy:=cy))
    go_wp2_with fail
    refine CGk.out.mono ?_
    rintro e w6 ⟨A6,c6,rfl,ho6,hb6⟩
    replace HM:=K1 (HM.out.push_rd hb6 (rd_of_own ho6) (own_from_base ho6))
    have hc6:=own_cap ho6
    clear ho6 hb6 CGk
    go_wp2_with fail
    refine After.go ⟨HM.out.cells 3 rfl,(HW.out _ (HM.out.bel 0 rfl)).1,(HW.out _ (HM.out.bel 0 rfl)).2.1⟩ ?_
    refine PlS.eff_ ?_
    simp only [pickO,p1,p2,p3,p4]
    go_wp2_with fail
    refine name_after fun W7 hW=>?_
    replace HM:=K1 (HM.out.alloc_ hW.out)
    clear hW
    refine After.go ⟨HM.out.cells 3 rfl,(HW.out _ (HM.out.bel 0 rfl)).1,(HW.out _ (HM.out.bel 0 rfl)).2.1⟩ ?_
    refine PlS.eff_ ?_
    simp only [pickO,p1,p2,p3,p4]
    have hrl:(rgradL i.r.ns ps i.r.c.sh xs ys).length=i.r.p:=by rw [rgradL_len];exact HI.out.pn.symm
    have CS:=K1 (rsum_any W7 _ 2 2 i.r.p [⟨G,c,compG i.r.ns i.r.c.sh ps i.r.p (exD i.r.dat (js.take k)) (zeroL i.r.p)⟩,⟨A6,c6,rgradL i.r.ns ps i.r.c.sh xs ys⟩] (by have:=HM.out.box 6 rfl;simpa [lyVals,hrl,(HG.out (exD i.r.dat (js.take k))).1] using this) (by intro x hx;simp only [lyFam,List.map_cons,List.map_nil,List.mem_cons,List.not_mem_nil,or_false] at hx;rcases hx with rfl | rfl;exact HM.out.rd 4 rfl;exact HM.out.rd 5 rfl) rfl (by omega) (by intro x hx;simp only [List.mem_cons,List.not_mem_nil,or_false] at hx;rcases hx with rfl | rfl;exact (HG.out _).1;exact hrl) (by omega))
    have HS:=K1 (show sumTo [⟨G,c,compG i.r.ns i.r.c.sh ps i.r.p (exD i.r.dat (js.take k)) (zeroL i.r.p)⟩,⟨A6,c6,rgradL i.r.ns ps i.r.c.sh xs ys⟩] i.r.p 2=compG i.r.ns i.r.c.sh ps i.r.p (exD i.r.dat (js.take (k+1))) (zeroL i.r.p) by rw [HT.out,compG_snoc];show addTo 0 _ (addTo 0 _ (zeroL i.r.p) i.r.p) i.r.p=_;rw [grad_eq i.r.c.sh HI.out.ns HP.out.2 (by rw [HP.out.1];exact HI.out.pn) (by rw [HE.out.1];exact HE.out.2.2.1) (by rw [HE.out.2.1];exact HE.out.2.2.2.1)];congr 1;exact addTo_zero (HG.out _).1 (HG.out _).2)
    rw [HS.out] at CS
    clear hrl HS
    go_wp2_with fail
    refine CS.out.mono ?_
    rintro e w8 ⟨g8,rfl,hm8⟩
    have hb8:=hm8.bel 0 rfl
    have ho8:=hm8.own 1 rfl
    have HF8:=K1 (show ∀ q:Addr,(some ⟨g8,0,none⟩:Option Addr)=some q→w.heap.size≤q.block from fun q hq=>Nat.le_trans (HM.out.bel 0 rfl).size (own_from_base ho8 q hq))
    replace HM:=K1 (HM.out.push_rd hb8 (rd_of_own ho8) (own_from_base ho8))
    clear hm8 hb8 ho8 CS
    go_wp2_with fail
    refine After.go ⟨HM.out.cells 3 rfl,(HW.out _ (HM.out.bel 0 rfl)).1,(HW.out _ (HM.out.bel 0 rfl)).2.1⟩ ?_
    refine PlS.reads_ ⟨HM.out.cells 3 rfl,(HW.out _ (HM.out.bel 0 rfl)).1,(HW.out _ (HM.out.bel 0 rfl)).2.1⟩ (by kernel_rfl) ?_
    simp only [pickO,p1,p2,p3,p4]
    apply Exists.intro
    apply And.intro
    · intro W' hS
      clear hS
      repeat still_step
      exact wpStill_nil rfl
    refine PlS.fin_ ?_
    replace HM:=K1 (HM.out.pick [0,1,2,3,7] [.bel w.heap.size w,.rd A (zC ps),.rd (some ⟨bB,oB,none⟩) (iCells js),.obj w.heap.size (.cells #[.slice i.A i.r.ns.length i.cap,.int .i64 i.r.c.sh,.int .i64 i.r.c.ra,.int .i64 i.r.c.mo,.int .i64 i.r.c.k,.int .i64 i.r.c.ba,.int .i64 i.r.c.mi,.int .i64 i.r.c.st,.int .i64 i.r.c.bu,.int .i64 i.r.c.s,.int .i64 i.r.c.wi,.int .i64 i.r.c.ca,.slice (some ⟨bd,od,none⟩) i.r.n i.dcap,.slice i.SA i.r.p i.scap,.slice i.RA i.r.ds.length i.rcap] 29 (0,0)),.rd (some ⟨g8,0,none⟩) (zC (compG i.r.ns i.r.c.sh ps i.r.p (exD i.r.dat (js.take (k+1))) (zeroL i.r.p)))] rfl (by decide))
    go_wp2_with fail
    go_roundw
    case rel=>exact ⟨k+1,_,_,by omega,Nat.le_refl _,rfl,by go_num,HF8,HM⟩
    case measure=>simp [intOf];omega
  · have hkn:k=nb:=by omega
    subst hkn
    go_wp2_with fail
    go_ret2
    have hr:=HM.out.rd 4 rfl
    rw [List.take_of_length_le (by rw [HJL.out];exact Nat.le_refl _)] at hr
    exact ⟨_,_,rfl,hc,HF.out,hr,HM.out.bel 0 rfl⟩
theorem infoS13:(Tryz.prog.info? 66).map (fun i=>(i.zero,i.size,i.bytes))=some (some (.agg #[.slice none 0 0,.slice none 0 0]),2,48):=by kernel_rfl
theorem rowS13:RowT Tryz.prog 40 66 2 48:=by
 obtain ⟨i0,hi,hz0,hz1,hz2⟩:=info_parts infoS13
 exact ⟨i0,_,Tryz.underlying40,hi,hz0,hz1,hz2,rfl,by decide,by decide⟩
theorem serS_in (r:Rn) {st:List Int} (h:In64 st):∀ t,In64 (serS r st t).1∧In64 (serS r st t).2
 | 0=>⟨h,zero_in _⟩
 | t+1=>by
   refine ⟨fun z hz=>?_,fun z hz=>?_⟩
   · obtain ⟨i,_,rfl⟩:=List.mem_map.1 hz
     exact wrap64_in _
   · obtain ⟨i,_,rfl⟩:=List.mem_map.1 hz
     exact wrap64_in _
theorem batG_len (r:Rn) (P:List Int) (t:Nat):(batG r P t).length=r.p∧In64 (batG r P t):=⟨(compG_len _ _ _ _ _ _).trans (by simp [zeroL]),compG_in _ _ _ _ _ _ (zero_in _)⟩
theorem view_lt {ds:List Nat} {n batch t:Nat} (hn:1≤n):∀ x∈viewL ds n batch t,x<n:=fun x hx=>permTo_lt hn _ _ x (subL_mem hx)
def SerOk (i:Inp) (n:Nat) (ss:List Ex):Prop:=ss.map Ex.nums=(List.range n).map (serS i.r i.st)
theorem SerOk.len {i:Inp} {n:Nat} {ss:List Ex} (h:SerOk i n ss):ss.length=n:=by simpa using congrArg List.length h
theorem SerOk.snoc {i:Inp} {n:Nat} {ss:List Ex} (h:SerOk i n ss) {e:Ex} (h1:e.xs=(serS i.r i.st n).1) (h2:e.ys=(serS i.r i.st n).2):SerOk i (n+1) (ss++[e]):=by
 have h:ss.map Ex.nums=_:=h
 show (ss++[e]).map Ex.nums=_
 rw [List.map_append,h,List.range_succ,List.map_append]
 simp [Ex.nums,h1,h2]
set_option maxRecDepth 100000 in
theorem rtrain_any (w:World) (i:Inp) (hi:i.Ok) (ha:i.At w) (CI:∀ W,Below w.heap.size w W→Calls Tryz.prog 22 #[.agg i.cells.toArray] W fun e w'=>e=.returned (.int .i64 0)∧Below W.heap.size W w') :
  Calls Tryz.prog 12 #[.agg i.cells.toArray] w fun e w'=>∃ A c ss,e=.returned (.tuple #[.slice A (i.r.c.st+1) c,.int .i64 0])∧SerOk i (i.r.c.st+1) ss∧Mem w' [.bel w.heap.size w,.rd A (exCells ss),famCh (exFam ss)]:=by
 have hp60:=hi.p
 have hst:=hi.c.st
 have hn1:1≤i.r.n:=by have:=hi.c.ba;have:=hi.c.k;have:=hi.n;omega
 have hn2:=hi.n.1
 have hbn:=hi.n.2
 have hba:=hi.c.ba
 have CI:=K1 CI
 have CS:=K1 (fun W (h:Rd W W.heap.size i.SA (zC i.st))=>rstart_any W i.SA i.r.p i.scap i.st h (by omega))
 have CM:=K1 (fun W (hb:Below w.heap.size w W)=>rsamp14_any W i hi (ha.below hb))
 have CG:=K1 (fun W (hb:Below w.heap.size w W)=>rgrad14_any W i hi (ha.below hb))
 have CR:=K1 (fun W=>rrule14_any W i)
 have CB:=K1 (fun W co t Ao (h:RSamp W i.r.n i.r.c.ba i.r.c.st Ao i.r.ds) (ht:t<i.r.c.st)=>rbatch_any W i.r.n i.r.c.ba i.r.c.st co t Ao i.r.ds h (by have:=hi.c.k;omega) hn2 ht (by omega))
 have HI:=K1 hi
 have HST:=K1 hi.st.1
 have HR:=K1 (show (⟨i.r.c.ra,i.r.c.mo,i.r.c.sh⟩:Ru).Ok from hi.ru)
 have HIN:=K1 (serS_in i.r hi.st.2)
 have HLN:=K1 (serS_len i.r hi.st.1)
 have HVL:=K1 (fun x=>view_lt (ds:=i.r.ds) (n:=i.r.n) (batch:=i.r.c.ba) (t:=x) hn1)
 have hm:=((Mem.start w).add_rd (i:=0) rfl ha.st).alloc (.cells i.cells.toArray 29)
 have HM:=K1 hm
 dsimp only [Inp.cells,rsC,Inp.conf] at *
 clear hm hi ha
 obtain ⟨E,hE⟩:∃ E,E=pcnt i.r.c.st (i.r.n / i.r.c.ba):=⟨_,rfl⟩
 rw [← hE] at CM CB
 clear hE
 go_enter Tryz.func12,Tryz.ntmps12
 have c2:=HM.out.cells 2 rfl
 go_wp2_with fail
 refine (CI.out _ (HM.out.bel 0 rfl)).mono ?_
 rintro e w1 ⟨rfl,hb⟩
 replace HM:=K1 (HM.out.below hb)
 clear hb CI c2
 have c2:=HM.out.cells 2 rfl
 go_wp2_with fail
 refine (CS.out _ (HM.out.rd 1 rfl)).mono ?_
 rintro e w2 ⟨gz,rfl,hgz,_,hz,hb⟩
 have HM2:=K1 ((HM.out.push_rd hb hz (fun q hq=>by cases hq;exact hgz)).alloc (.cells #[.slice i.SA i.r.p i.scap,.slice (some ⟨gz,0,none⟩) i.r.p i.r.p] 66))
 clear HM hb hz hgz CS c2
 have c2:=HM2.out.cells 2 rfl
 have c4:=HM2.out.cells 4 rfl
 have hm3:=((HM2.out.row2 (e:=66) (v:=.slice i.SA i.r.p i.scap) (u:=.slice (some ⟨gz,0,none⟩) i.r.p i.r.p) rfl).lower (i:=5) (base':=w.heap.size) rfl (by have:=(HM2.out.bel 0 rfl).size;exact this)).add (c:=famCh (exFam [])) (fam_local (fun a ha=>by cases ha)) (fun _ _ _ _ g hg=>by obtain ⟨a,ha,_⟩:=hg;cases ha)
 simp only [World.size_alloc] at hm3
 have hm4:=(hm3.famSnoc (i:=6) (j:=1) rfl rfl).famSnoc (i:=6) (j:=3) rfl rfl
 have HM3:=K1 (hm4.pick [0,2,4,5,6] [.bel w.heap.size w,.obj w.heap.size (.cells #[.slice i.A i.r.ns.length i.cap,.int .i64 i.r.c.sh,.int .i64 i.r.c.ra,.int .i64 i.r.c.mo,.int .i64 i.r.c.k,.int .i64 i.r.c.ba,.int .i64 i.r.c.mi,.int .i64 i.r.c.st,.int .i64 i.r.c.bu,.int .i64 i.r.c.s,.int .i64 i.r.c.wi,.int .i64 i.r.c.ca,.slice i.DA i.r.n i.dcap,.slice i.SA i.r.p i.scap,.slice i.RA i.r.ds.length i.rcap] 29 (0,0)),.obj w2.heap.size (.cells #[.slice i.SA i.r.p i.scap,.slice (some ⟨gz,0,none⟩) i.r.p i.r.p] 66 (0,0)),.own w.heap.size 66 2 (.slice (some ⟨w2.heap.size+1,0,none⟩) 1 1) 1 [.slice i.SA i.r.p i.scap,.slice (some ⟨gz,0,none⟩) i.r.p i.r.p],famCh [(i.SA,zC i.st),(some ⟨gz,0,none⟩,zC (zeroL i.r.p))]] rfl (by decide))
 clear HM2 hm3 hm4
 have c1:=HM3.out.cells 1 rfl
 go_wp2_with fail
 clear c1 c2 c4
 refine (CM.out _ (HM3.out.bel 0 rfl)).mono ?_
 rintro e w5 ⟨Ao,co,rfl,hs,hb⟩
 have HM5:=K1 ((HM3.out.push (c:=rsCh _ _ _ _ _ Ao i.r.ds) hb (rsCh_holds hs (Nat.le_refl _)) (fun g hg=>hg.1)).alloc (.cells #[.int .i64 i.r.n,.int .i64 i.r.c.ba,.int .i64 i.r.c.st,.slice Ao E co] 103))
 clear HM3 hs hb CM
 go_wp2_with fail
 have HS0:=K1 (show SerOk i (0+1) [⟨i.SA,i.st,i.scap,some ⟨gz,0,none⟩,zeroL i.r.p,i.r.p⟩] from rfl)
 generalize hg5:w2.heap.size=g5 at *
 generalize hg7:w5.heap.size=g7 at *
 clear hg5 hg7
 have HE0:=K1 (show exCells [⟨i.SA,i.st,i.scap,some ⟨gz,0,none⟩,zeroL i.r.p,i.r.p⟩]=[.slice i.SA i.r.p i.scap,.slice (some ⟨gz,0,none⟩) i.r.p i.r.p] by simp [exCells,Ex.cells,zeroL,HST.out])
 go_loopw [6,8,9,10] (fun s6 s8 _ _ wr=>∃ (t:Nat) (A AP AM:Option Addr) (c cP cM lo hi:Nat) (ss:List Ex),t≤i.r.c.st∧s6=.slice A (t+1) c∧s8=.int .i64 t∧Hid (SerOk i (t+1) ss∧ss[t]?=some ⟨AP,(serS i.r i.st t).1,cP,AM,(serS i.r i.st t).2,cM⟩)∧Hid (Mem wr [.bel w.heap.size w,.obj w.heap.size (.cells #[.slice i.A i.r.ns.length i.cap,.int .i64 i.r.c.sh,.int .i64 i.r.c.ra,.int .i64 i.r.c.mo,.int .i64 i.r.c.k,.int .i64 i.r.c.ba,.int .i64 i.r.c.mi,.int .i64 i.r.c.st,.int .i64 i.r.c.bu,.int .i64 i.r.c.s,.int .i64 i.r.c.wi,.int .i64 i.r.c.ca,.slice i.DA i.r.n i.dcap,.slice i.SA i.r.p i.scap,.slice i.RA i.r.ds.length i.rcap] 29 (0,0)),.obj g5 (.cells #[.slice AP i.r.p cP,.slice AM i.r.p cM] 66 (0,0)),.own w.heap.size 66 2 (.slice A (t+1) c) (t+1) (exCells ss),famCh (exFam ss),rsCh lo hi i.r.n i.r.c.ba i.r.c.st Ao i.r.ds,.obj g7 (.cells #[.int .i64 i.r.n,.int .i64 i.r.c.ba,.int .i64 i.r.c.st,.slice Ao E co] 103 (0,0))])) (fun _ s8 _ _ _=>i.r.c.st-(intOf s8).toNat)
 case atStart=>exact ⟨0,_,_,_,_,_,_,_,_,[⟨i.SA,i.st,i.scap,some ⟨gz,0,none⟩,zeroL i.r.p,i.r.p⟩],Nat.zero_le _,rfl,rfl,K1 ⟨HS0.out,rfl⟩,K1 (by rw [HE0.out];exact HM5.out)⟩
 case round =>
  clear HM5 HS0
  obtain ⟨t,A,AP,AM,c,cP,cM,lo,hi,ss,ht,rfl,rfl,HS,HM⟩:=hrel
  have c1:=HM.out.cells 1 rfl
  by_cases hlt:t<i.r.c.st
  · have HP:=K1 (show (serS i.r i.st t).1.length=i.r.p∧(serS i.r i.st t).2.length=i.r.p∧In64 (serS i.r i.st t).1∧In64 (serS i.r i.st t).2 from ⟨(HLN.out t).1,(HLN.out t).2,HIN.out t⟩)
    have HFP:=K1 (show ∀ (W:World) (M:List Ch),Mem W M→M[4]?=some (famCh (exFam ss))→Rd W W.heap.size AP (zC (serS i.r i.st t).1)∧Rd W W.heap.size AM (zC (serS i.r i.st t).2) from fun W M h hM=>⟨h.st 4 hM _ (exFam_x (List.mem_of_getElem? HS.out.2)),h.st 4 hM _ (exFam_y (List.mem_of_getElem? HS.out.2))⟩)
    have gt:t<i.r.c.st:=hlt
    go_wp2_with fail
    clear c1
    refine name_wp fun W0 hW=>?_
    replace HM:=K1 (hW.out.symm ▸ HM.out)
    clear hW
    refine wp_region_stage (.reads [0,1,2,3,4] (.eff 5 (.eff 6 (.reads [7,8,9,10,11] .fin)))) 12 (fun W'=>(∀ x,W'.cell? ⟨w.heap.size,x,none⟩=([.slice i.A i.r.ns.length i.cap,.int .i64 i.r.c.sh,.int .i64 i.r.c.ra,.int .i64 i.r.c.mo,.int .i64 i.r.c.k,.int .i64 i.r.c.ba,.int .i64 i.r.c.mi,.int .i64 i.r.c.st,.int .i64 i.r.c.bu,.int .i64 i.r.c.s,.int .i64 i.r.c.wi,.int .i64 i.r.c.ca,.slice i.DA i.r.n i.dcap,.slice i.SA i.r.p i.scap,.slice i.RA i.r.ds.length i.rcap]:List Value)[x]?)∧(∀ x,W'.cell? ⟨g5,x,none⟩=([.slice AP i.r.p cP,.slice AM i.r.p cM]:List Value)[x]?)∧(∀ x,W'.cell? ⟨g7,x,none⟩=([.int .i64 i.r.n,.int .i64 i.r.c.ba,.int .i64 i.r.c.st,.slice Ao E co]:List Value)[x]?))
     (by kernel_rfl) (by kernel_rfl) (by intro d v c a w h;cases d <;> exact h) ?_
    replace HM:=K1 HM.out.drew
    generalize W0.drew=V at *
    refine PlS.reads_ ⟨HM.out.cells 1 rfl,HM.out.cells 2 rfl,HM.out.cells 6 rfl⟩ (by kernel_rfl) ?_
    simp only [pickO,p1,p2,p3,p4]
    apply Exists.intro
    apply And.intro
    · intro W' hS
      obtain ⟨s0,s1,s2⟩:=hS
      repeat still_step
      exact wpStill_nil rfl
    refine PlS.eff_ ?_
    simp only [pickO,p1,p2,p3,p4]
    go_wp2_with fail
    refine (CB.out _ _ _ _ (HM.out.rsamp (i:=5) rfl) hlt).mono ?_
    rintro e w7 ⟨A1,c1,rfl,hc1,hr1,hb⟩
    replace HM:=K1 (HM.out.below hb)
    have HR1:=K1 hr1
    clear hb hr1
    go_wp2_with fail
    refine After.go ⟨HM.out.cells 1 rfl,HM.out.cells 2 rfl,HM.out.cells 6 rfl⟩ ?_
    refine PlS.eff_ ?_
    simp only [pickO,p1,p2,p3,p4]
    have hvl:(viewL i.r.ds i.r.n i.r.c.ba t).length=i.r.c.ba:=viewL_len (HM.out.rsamp (i:=5) rfl |>.step (by have:=HI.out.c.k;omega) hlt).choose_spec.choose_spec.choose_spec.1
    have CGk:=K1 (CG.out _ (HM.out.bel 0 rfl) AP cP (serS i.r i.st t).1 (HFP.out _ _ HM.out rfl).1 ⟨HP.out.1,HP.out.2.2.1⟩ A1 i.r.c.ba c1 (viewL i.r.ds i.r.n i.r.c.ba t) HR1.out hvl (HVL.out t) (by omega))
    go_wp2_with fail
    refine CGk.out.mono ?_
    rintro e w8 ⟨G,cG,rfl,hcG,hfG,hrG,hb⟩
    replace HM:=K1 (HM.out.push_rd hb hrG (fun q hq=>hfG q hq))
    clear hb hrG hfG CGk HR1 hvl
    go_wp2_with fail
    refine After.go ⟨HM.out.cells 1 rfl,HM.out.cells 2 rfl,HM.out.cells 6 rfl⟩ ?_
    refine PlS.reads_ ⟨HM.out.cells 1 rfl,HM.out.cells 2 rfl,HM.out.cells 6 rfl⟩ (by kernel_rfl) ?_
    simp only [pickO,p1,p2,p3,p4]
    apply Exists.intro
    apply And.intro
    · intro W' hS
      clear hS
      repeat still_step
      exact wpStill_nil rfl
    refine PlS.fin_ ?_
    go_wp2_with fail
    refine name_wp fun W1 hW=>?_
    replace HM:=K1 (hW.out.symm ▸ HM.out)
    clear hW
    refine wp_region_stage (.reads [0,1,4] (.two 2 3 (.eff 3 (.eff 5 (.reads [6,7,8] (.eff 9 .fin)))) (.eff 2 (.eff 5 (.reads [6,7,8] (.eff 9 .fin)))))) 10 (fun W'=>(∀ x,W'.cell? ⟨w.heap.size,x,none⟩=([.slice i.A i.r.ns.length i.cap,.int .i64 i.r.c.sh,.int .i64 i.r.c.ra,.int .i64 i.r.c.mo,.int .i64 i.r.c.k,.int .i64 i.r.c.ba,.int .i64 i.r.c.mi,.int .i64 i.r.c.st,.int .i64 i.r.c.bu,.int .i64 i.r.c.s,.int .i64 i.r.c.wi,.int .i64 i.r.c.ca,.slice i.DA i.r.n i.dcap,.slice i.SA i.r.p i.scap,.slice i.RA i.r.ds.length i.rcap]:List Value)[x]?))
     (by kernel_rfl) (by kernel_rfl) (by intro d v c a w h;cases d <;> exact h) ?_
    replace HM:=K1 HM.out.drew
    generalize W1.drew=V1 at *
    refine PlS.reads_ (HM.out.cells 1 rfl) (by kernel_rfl) ?_
    simp only [pickO,p1,p2,p3,p4]
    apply Exists.intro
    apply And.intro
    · intro W' hS
      repeat still_step
      exact wpStill_nil rfl
    refine PlS.two_ ?_ ?_
    · refine PlS.eff_ ?_
      simp only [pickO,p1,p2,p3,p4]
      go_wp2_with fail
      refine (CR.out _).mono ?_
      rintro e w9 ⟨rfl,hb⟩
      replace HM:=K1 (HM.out.below hb)
      clear hb
      go_wp2_with fail
      refine After.go (HM.out.cells 1 rfl) ?_
      refine PlS.eff_ ?_
      simp only [pickO,p1,p2,p3,p4]
      have c2:=HM.out.cells 2 rfl
      go_wp2_with fail
      clear c2
      refine After.go (HM.out.cells 1 rfl) ?_
      refine PlS.eff_ ?_
      simp only [pickO,p1,p2,p3,p4]
      have CNk:=K1 (rnext13_any _ i.r.c.ra i.r.c.mo i.r.c.sh i.r.p cP cM cG AP AM G (serS i.r i.st t).1 (serS i.r i.st t).2 (batG i.r (serS i.r i.st t).1 t) (HFP.out _ _ HM.out rfl).1 (HFP.out _ _ HM.out rfl).2 (HM.out.rd 7 rfl) ⟨HP.out.1,HP.out.2.1,(batG_len _ _ _).1⟩ ⟨HP.out.2.2.1,HP.out.2.2.2,(batG_len _ _ _).2⟩ (by omega) HR.out.q HR.out.ra HR.out.mo)
      go_wp2_with fail
      refine CNk.out.mono ?_
      rintro e w10 ⟨AP2,cP2,AM2,cM2,rfl,h1,h2,hm⟩
      have hm7:=HM.out.front 7
      have HM8:=K1 (hm7.join hm (fun c hc hmu g hg=>by simp only [List.mem_cons,List.not_mem_nil,or_false] at hc;rcases hc with rfl | rfl <;> exact absurd trivial hmu))
      clear hm hm7 CNk
      replace HM:=K1 ((HM8.out.freeze (i:=7) rfl).freeze (i:=8) rfl)
      clear HM8
      go_wp2_with fail
      refine After.go (HM.out.cells 1 rfl) ?_
      refine PlS.reads_ (HM.out.cells 1 rfl) (by kernel_rfl) ?_
      simp only [pickO,p1,p2,p3,p4]
      apply Exists.intro
      apply And.intro
      · intro W' hS
        clear hS
        repeat still_step
        exact wpStill_nil rfl
      refine PlS.eff_ ?_
      simp only [pickO,p1,p2,p3,p4]
      have c2:=HM.out.cells 2 rfl
      have f2:=fun j=>HM.out.frozen 2 j rfl
      have hf:=HM.out.fill (i:=2) rfl [.slice AP2 i.r.p cP2,.slice AM2 i.r.p cM2] rfl
      simp only [World.setCells,Nat.zero_add] at hf
      have HF:=K1 hf
      clear hf HM
      go_wp2_with fail
      clear c2 f2
      refine After.go (HF.out.cells 1 rfl) ?_
      refine PlS.fin_ ?_
      have c2:=HF.out.cells 2 rfl
      have hm3:=HF.out.alloc (.cells #[.slice AP2 i.r.p cP2,.slice AM2 i.r.p cM2] 66)
      simp only [World.size_setCell] at hm3
      have HM3:=K1 hm3
      clear HF hm3
      have HE:=K1 (exCells_snoc ss ⟨AP2,(serS i.r i.st (t+1)).1,cP2,AM2,(serS i.r i.st (t+1)).2,cM2⟩)
      have HFM:=K1 (exFam_snoc ss ⟨AP2,(serS i.r i.st (t+1)).1,cP2,AM2,(serS i.r i.st (t+1)).2,cM2⟩)
      have HL1:=K1 (HLN.out (t+1))
      go_wp2_with (at_builtin;refine wpList_append_mem (n:=t+1) rfl _ _ 40 rfl HM3.out 3 rowS13 rfl rfl _ 1 _ [.slice AP2 i.r.p cP2,.slice AM2 i.r.p cM2] rfl (HM3.out.box 9 rfl) rfl (by intro u hu;simp at hu;rcases hu with rfl | rfl <;> rfl) (by omega) ?_;intro A' c' W4 hM4;have HM4:=K1 ((hM4.famSnoc (i:=4) (j:=7) rfl rfl).famSnoc (i:=4) (j:=8) rfl rfl |>.front 7);clear hM4 HM3)
      clear c2
      go_roundw
      case rel =>
       refine ⟨t+1,A',AP2,AM2,c',cP2,cM2,lo,hi,ss++[⟨AP2,(serS i.r i.st (t+1)).1,cP2,AM2,(serS i.r i.st (t+1)).2,cM2⟩],by omega,rfl,by go_num,K1 ⟨HS.out.1.snoc rfl rfl,?_⟩,K1 ?_⟩
       · rw [List.getElem?_append_right (by rw [HS.out.1.len];exact Nat.le_refl _),HS.out.1.len,Nat.sub_self];rfl
       · rw [HE.out,HFM.out];dsimp only;rw [HL1.out.1,HL1.out.2];exact HM4.out
      case measure=>simp [intOf];omega
    · refine PlS.eff_ ?_
      simp only [pickO,p1,p2,p3,p4]
      have c2:=HM.out.cells 2 rfl
      go_wp2_with fail
      clear c2
      refine After.go (HM.out.cells 1 rfl) ?_
      refine PlS.eff_ ?_
      simp only [pickO,p1,p2,p3,p4]
      go_wp2_with fail
      refine (CR.out _).mono ?_
      rintro e w9 ⟨rfl,hb⟩
      replace HM:=K1 (HM.out.below hb)
      clear hb
      go_wp2_with fail
      refine After.go (HM.out.cells 1 rfl) ?_
      refine PlS.eff_ ?_
      simp only [pickO,p1,p2,p3,p4]
      have CNk:=K1 (rnext13_any _ i.r.c.ra i.r.c.mo i.r.c.sh i.r.p cP cM cG AP AM G (serS i.r i.st t).1 (serS i.r i.st t).2 (batG i.r (serS i.r i.st t).1 t) (HFP.out _ _ HM.out rfl).1 (HFP.out _ _ HM.out rfl).2 (HM.out.rd 7 rfl) ⟨HP.out.1,HP.out.2.1,(batG_len _ _ _).1⟩ ⟨HP.out.2.2.1,HP.out.2.2.2,(batG_len _ _ _).2⟩ (by omega) HR.out.q HR.out.ra HR.out.mo)
      go_wp2_with fail
      refine CNk.out.mono ?_
      rintro e w10 ⟨AP2,cP2,AM2,cM2,rfl,h1,h2,hm⟩
      have hm7:=HM.out.front 7
      have HM8:=K1 (hm7.join hm (fun c hc hmu g hg=>by simp only [List.mem_cons,List.not_mem_nil,or_false] at hc;rcases hc with rfl | rfl <;> exact absurd trivial hmu))
      clear hm hm7 CNk
      replace HM:=K1 ((HM8.out.freeze (i:=7) rfl).freeze (i:=8) rfl)
      clear HM8
      go_wp2_with fail
      refine After.go (HM.out.cells 1 rfl) ?_
      refine PlS.reads_ (HM.out.cells 1 rfl) (by kernel_rfl) ?_
      simp only [pickO,p1,p2,p3,p4]
      apply Exists.intro
      apply And.intro
      · intro W' hS
        clear hS
        repeat still_step
        exact wpStill_nil rfl
      refine PlS.eff_ ?_
      simp only [pickO,p1,p2,p3,p4]
      have c2:=HM.out.cells 2 rfl
      have f2:=fun j=>HM.out.frozen 2 j rfl
      have hf:=HM.out.fill (i:=2) rfl [.slice AP2 i.r.p cP2,.slice AM2 i.r.p cM2] rfl
      simp only [World.setCells,Nat.zero_add] at hf
      have HF:=K1 hf
      clear hf HM
      go_wp2_with fail
      clear c2 f2
      refine After.go (HF.out.cells 1 rfl) ?_
      refine PlS.fin_ ?_
      have c2:=HF.out.cells 2 rfl
      have hm3:=HF.out.alloc (.cells #[.slice AP2 i.r.p cP2,.slice AM2 i.r.p cM2] 66)
      simp only [World.size_setCell] at hm3
      have HM3:=K1 hm3
      clear HF hm3
      have HE:=K1 (exCells_snoc ss ⟨AP2,(serS i.r i.st (t+1)).1,cP2,AM2,(serS i.r i.st (t+1)).2,cM2⟩)
      have HFM:=K1 (exFam_snoc ss ⟨AP2,(serS i.r i.st (t+1)).1,cP2,AM2,(serS i.r i.st (t+1)).2,cM2⟩)
      have HL1:=K1 (HLN.out (t+1))
      go_wp2_with (at_builtin;refine wpList_append_mem (n:=t+1) rfl _ _ 40 rfl HM3.out 3 rowS13 rfl rfl _ 1 _ [.slice AP2 i.r.p cP2,.slice AM2 i.r.p cM2] rfl (HM3.out.box 9 rfl) rfl (by intro u hu;simp at hu;rcases hu with rfl | rfl <;> rfl) (by omega) ?_;intro A' c' W4 hM4;have HM4:=K1 ((hM4.famSnoc (i:=4) (j:=7) rfl rfl).famSnoc (i:=4) (j:=8) rfl rfl |>.front 7);clear hM4 HM3)
      clear c2
      go_roundw
      case rel =>
       refine ⟨t+1,A',AP2,AM2,c',cP2,cM2,lo,hi,ss++[⟨AP2,(serS i.r i.st (t+1)).1,cP2,AM2,(serS i.r i.st (t+1)).2,cM2⟩],by omega,rfl,by go_num,K1 ⟨HS.out.1.snoc rfl rfl,?_⟩,K1 ?_⟩
       · rw [List.getElem?_append_right (by rw [HS.out.1.len];exact Nat.le_refl _),HS.out.1.len,Nat.sub_self];rfl
       · rw [HE.out,HFM.out];dsimp only;rw [HL1.out.1,HL1.out.2];exact HM4.out
      case measure=>simp [intOf];omega
  · have hkn:t=i.r.c.st:=by omega
    have HTS:=K1 hkn
    clear hkn
    have gt:¬ t<i.r.c.st:=hlt
    go_wp2_with fail
    go_ret2
    have hm:=(HM.out.freeze (i:=3) rfl).pick [0,3,4] [.bel w.heap.size w,.rd A (exCells ss),famCh (exFam ss)] rfl (by decide)
    exact ⟨A,⟨c,by rw [← HTS.out];rfl⟩,ss,by rw [← HTS.out];exact HS.out.1,hm⟩
end Go.Proofs.YtdpojpcoghcieaaGreat
