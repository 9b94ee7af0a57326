/- A part of the proof of TopSerial: Form, Stage. Conditions: none. -/
import Derived.Test.YtdpojpcoghcieaaGreatSdAQ
set_option maxHeartbeats 8000000
namespace Go.Proofs.YtdpojpcoghcieaaGreat
open Lib renaming hid → K1
open Go.RowKit
def offN (ns:List Nat):Nat→Nat
 | 0=>0
 | k+1=>offN ns k+ns[k+1]?.getD 0*ns[k]?.getD 0+ns[k+1]?.getD 0
def midN (ns:List Nat) (k:Nat):Nat:=offN ns k+ns[k+1]?.getD 0*ns[k]?.getD 0
theorem offN_succ (ns:List Nat) (k:Nat):offN ns (k+1)=midN ns k+ns[k+1]?.getD 0:=rfl
def wRs (ns:List Nat) (n:Nat):List (Nat × Nat):=(List.range n).map fun k=>(offN ns k,midN ns k)
def bRs (ns:List Nat) (n:Nat):List (Nat × Nat):=(List.range n).map fun k=>(midN ns k,offN ns (k+1))
theorem wRs_len (ns:List Nat) (n:Nat):(wRs ns n).length=n:=by simp [wRs]
theorem bRs_len (ns:List Nat) (n:Nat):(bRs ns n).length=n:=by simp [bRs]
theorem wRs_at {ns:List Nat} {n k:Nat} (h:k<n):(wRs ns n)[k]?=some (offN ns k,midN ns k):=by simp [wRs,h]
theorem bRs_at {ns:List Nat} {n k:Nat} (h:k<n):(bRs ns n)[k]?=some (midN ns k,offN ns (k+1)):=by simp [bRs,h]
theorem offN_mono (ns:List Nat):∀ {i j:Nat},i≤j→offN ns i≤offN ns j
 | i,0,h=>by rw [Nat.le_zero.1 h];exact Nat.le_refl _
 | i,j+1,h=>by
   rcases Nat.lt_or_ge i (j+1) with h1 | h1
   · have:=offN_mono ns (show i≤j by omega)
     rw [offN_succ,midN]
     omega
   · rw [show i=j+1 by omega];exact Nat.le_refl _
abbrev castL (ns:List Nat):List Int:=ns.map fun n:Nat=>(n:Int)
theorem castL_at {ns:List Nat} {k a:Nat} (h:ns[k]?=some a):(castL ns)[k]?=some (a:Int):=by simp [h]
theorem lo_nat (ns:List Nat):∀ k,k<ns.length→lo (castL ns) k=(offN ns k:Int)
 | 0,h=>by
   match ns with
   | []=>simp at h
   | a::r=>simp [lo,offN,cnt]
 | k+1,h=>by
   obtain ⟨a,ha⟩:=get_some ns k (by omega)
   obtain ⟨b,hb⟩:=get_some ns (k+1) h
   rw [lo_succ (castL ns) k a b (castL_at ha) (castL_at hb),lo_nat ns k (by omega),offN,ha,hb]
   simp
theorem mid_nat (ns:List Nat) (k:Nat) (h:k+1<ns.length):mid (castL ns) k=(midN ns k:Int):=by
 obtain ⟨a,ha⟩:=get_some ns k (by omega)
 obtain ⟨b,hb⟩:=get_some ns (k+1) h
 rw [mid_eq (castL ns) k a b (castL_at ha) (castL_at hb),lo_nat ns k (by omega),midN,ha,hb]
 simp
theorem wcells_nat (ns:List Nat):∀ n,n+1≤ns.length→wcells (castL ns) n=rcells (wRs ns n)
 | 0,_=>rfl
 | n+1,h=>by
   rw [wcells,wcells_nat ns n (by omega),lo_nat ns n (by omega),mid_nat ns n h,wRs,wRs,List.range_succ,List.map_append]
   simp [rcells]
theorem bcells_nat (ns:List Nat):∀ n,n+1≤ns.length→bcells (castL ns) n=rcells (bRs ns n)
 | 0,_=>rfl
 | n+1,h=>by
   rw [bcells,bcells_nat ns n (by omega),mid_nat ns n h,lo_nat ns (n+1) h,bRs,bRs,List.range_succ,List.map_append]
   simp [rcells]
theorem cnt_nat (ns:List Nat) (h:1≤ns.length):cnt (castL ns)=(offN ns (ns.length-1):Int):=by
 rw [← lo_nat ns (ns.length-1) (by omega)]
 unfold lo
 rw [List.take_of_length_le (by simp;omega)]
structure FormAt (W:World) (lo hi g:Nat) (ns:List Nat):Prop where
 in_:lo≤g∧g<hi
 ex:∃ As cs Aw cw Ab cb,W.heap[g]?=some (.cells #[.slice As ns.length cs,.slice Aw (ns.length-1) cw,.slice Ab (ns.length-1) cb,.int .i64 (offN ns (ns.length-1):Nat)] 199 (0,0)) ∧
  RdIn W lo hi As (iCells ns)∧RdIn W lo hi Aw (rcells (wRs ns (ns.length-1)))∧RdIn W lo hi Ab (rcells (bRs ns (ns.length-1)))∧ns.length≤cs∧ns.length-1≤cw∧ns.length-1≤cb
theorem FormAt.keep {W1 W2:World} {lo hi g:Nat} {ns:List Nat} (h:FormAt W1 lo hi g ns) (hk:∀ g,lo≤g→g<hi→W2.heap[g]?=W1.heap[g]?):FormAt W2 lo hi g ns:=by
 obtain ⟨h0,As,cs,Aw,cw,Ab,cb,h1,h2,h3,h4,h5⟩:=h
 exact ⟨h0,As,cs,Aw,cw,Ab,cb,(hk g h0.1 h0.2).trans h1,h2.keep hk,h3.keep hk,h4.keep hk,h5⟩
theorem FormAt.below {W1 W2:World} {lo hi g:Nat} {ns:List Nat} (h:FormAt W1 lo hi g ns) (hh:hi≤W1.heap.size) (hb:Below W1.heap.size W1 W2):FormAt W2 lo hi g ns:=h.keep fun g _ h2=>hb.block g (by omega)
theorem FormAt.of_from {W:World} {lo g:Nat} {ns:List Nat} (h:ShapeFrom W lo g (castL ns)) (h1:1≤ns.length):FormAt W lo W.heap.size g ns:=by
 obtain ⟨hg,As,Aw,Ab,cs,cw,cb,hh,o1,o2,o3⟩:=h
 rw [cnt_nat ns h1,show (castL ns).length=ns.length by simp] at hh
 rw [show (castL ns).length=ns.length by simp] at o1 o2 o3
 rw [wcells_nat ns (ns.length-1) (by omega)] at o2
 rw [bcells_nat ns (ns.length-1) (by omega)] at o3
 rw [← iCells_rd] at o1
 exact ⟨⟨hg,blk_lt hh⟩,As,cs,Aw,cw,Ab,cb,hh,⟨rd_of_own o1,own_from_base o1⟩,⟨rd_of_own o2,own_from_base o2⟩,⟨rd_of_own o3,own_from_base o3⟩,own_cap o1,own_cap o2,own_cap o3⟩
theorem formCount_any (W:World) (lo hi g:Nat) (ns:List Nat) (h:FormAt W lo hi g ns) :
  Calls Tryz.prog 61 #[.pointer (some ⟨g,0,none⟩)] W fun e w'=>e=.returned (.int .i64 (offN ns (ns.length-1):Nat))∧W=w':=by
 obtain ⟨_,As,cs,Aw,cw,Ab,cb,hg,_⟩:=h
 have c0:=blk_cells hg
 clear hg
 generalize offN ns (ns.length-1)=cn at *
 generalize ns.length-1=n1 at *
 generalize ns.length=n at *
 go_enter Tryz.func61,Tryz.ntmps61
 go_wp2
 go_ret
 exact ⟨rfl,rfl⟩
theorem formLinks_any (W:World) (lo hi g:Nat) (ns:List Nat) (h:FormAt W lo hi g ns) :
  Calls Tryz.prog 216 #[.pointer (some ⟨g,0,none⟩)] W fun e w'=>e=.returned (.int .i64 (ns.length-1:Nat))∧W=w':=by
 obtain ⟨_,As,cs,Aw,cw,Ab,cb,hg,_⟩:=h
 have c0:=blk_cells hg
 clear hg
 generalize offN ns (ns.length-1)=cn at *
 generalize ns.length-1=n1 at *
 generalize ns.length=n at *
 go_enter Tryz.func216,Tryz.ntmps216
 go_wp2
 go_ret
 exact ⟨rfl,rfl⟩
theorem formSizes_any (W:World) (lo hi g:Nat) (ns:List Nat) (h:FormAt W lo hi g ns) (hh:hi≤W.heap.size) (hl:ns.length≤1000) :
  Calls Tryz.prog 215 #[.pointer (some ⟨g,0,none⟩)] W fun e w'=>∃ A c,e=.returned (.slice A ns.length c)∧w'.ownsRow W.heap.size 3 1 (.slice A ns.length c) ns.length (iCells ns)∧Below W.heap.size W w':=by
 obtain ⟨_,As,cs,Aw,cw,Ab,cb,hg,hs,_⟩:=h
 have c0:=blk_cells hg
 have CC:=K1 (cloneI_any As ns.length cs (iCells ns) W (hs.rd hh) (by rw [iCells_len,Nat.mul_one]) (iCells_one ns) (by omega))
 clear hg hs
 generalize offN ns (ns.length-1)=cn at *
 generalize ns.length-1=n1 at *
 generalize ns.length=n at *
 go_enter Tryz.func215,Tryz.ntmps215
 go_wp2_with fail
 (with_reducible refine CC.out.mono ?_)
 rintro e w1 ⟨A4,c4,rfl,ho,hc,hb4⟩
 go_wp2_with fail
 go_ret
 exact ⟨_,_,rfl,ho,hb4⟩
theorem formWeights_any (W:World) (lo hi g k:Nat) (ns:List Nat) (h:FormAt W lo hi g ns) (hh:hi≤W.heap.size) (hl:ns.length≤1000) (hk:k<ns.length-1) :
  Calls Tryz.prog 217 #[.pointer (some ⟨g,0,none⟩),.int .i64 k] W fun e w'=>e=.returned (.agg #[.int .i64 (offN ns k),.int .i64 (midN ns k)])∧Below W.heap.size W w':=by
 have CL:=K1 (fun W' (hb:Below W.heap.size W W')=>formLinks_any W' lo hi g ns (h.below hh hb))
 obtain ⟨_,As,cs,Aw,cw,Ab,cb,hg,_,hw,_⟩:=h
 have HM:=K1 ((((Mem.start W).add_rd (i:=0) rfl (hw.rd hh)).more (i:=0) (c:=.bel W.heap.size W) (d:=.st (fun x=>x=g) (fun W=>W.heap[g]?=some _)) rfl (fun h=>h) ⟨hg,fun x hx=>by cases hx;exact blk_lt hg,fun W1 W2 _ h1 h2=>(h1 g rfl).trans h2⟩ (fun h=>h) (fun x hx=>by cases hx;exact blk_lt hg)).alloc (.cells #[.int .i64 0,.int .i64 0] 47))
 obtain ⟨b1,o1,rfl,_,_⟩:=hw.1 (by rw [rcells_len,wRs_len];omega)
 clear hg hw
 have hat:=wRs_at (ns:=ns) hk
 have HAT:=K1 hat
 generalize wRs ns (ns.length-1)=rs at *
 generalize offN ns (ns.length-1)=cn at *
 have hl1:ns.length-1≤1000:=by omega
 generalize ns.length-1=n1 at *
 generalize ns.length=n at *
 generalize offN ns k=x at *
 generalize midN ns k=y at *
 clear hat
 have hkk:¬ ((n1:Int)≤(k:Int)):=by omega
 go_enter Tryz.func217,Tryz.ntmps217
 go_wp2_with fail
 (with_reducible refine (CL.out _ (HM.out.bel 0 rfl)).mono ?_)
 rintro e w1 ⟨rfl,rfl⟩
 have c0:=blk_cells (HM.out.st 2 rfl)
 obtain ⟨c1,c2⟩:=HM.out.range2 1 rfl HAT.out
 go_wp2_with fail
 refine bodyPost_ret (v:=.agg #[.int .i64 x,.int .i64 y]) ?_ rfl ⟨rfl,?_⟩
 · simp [results,Tryz.results217,go_sem]
 · exact (Below.refl _ _).alloc (Nat.le_refl _) _
theorem formBiases_any (W:World) (lo hi g k:Nat) (ns:List Nat) (h:FormAt W lo hi g ns) (hh:hi≤W.heap.size) (hl:ns.length≤1000) (hk:k<ns.length-1) :
  Calls Tryz.prog 218 #[.pointer (some ⟨g,0,none⟩),.int .i64 k] W fun e w'=>e=.returned (.agg #[.int .i64 (midN ns k),.int .i64 (offN ns (k+1))])∧Below W.heap.size W w':=by
 have CL:=K1 (fun W' (hb:Below W.heap.size W W')=>formLinks_any W' lo hi g ns (h.below hh hb))
 obtain ⟨_,As,cs,Aw,cw,Ab,cb,hg,_,_,hw,_⟩:=h
 have HM:=K1 ((((Mem.start W).add_rd (i:=0) rfl (hw.rd hh)).more (i:=0) (c:=.bel W.heap.size W) (d:=.st (fun x=>x=g) (fun W=>W.heap[g]?=some _)) rfl (fun h=>h) ⟨hg,fun x hx=>by cases hx;exact blk_lt hg,fun W1 W2 _ h1 h2=>(h1 g rfl).trans h2⟩ (fun h=>h) (fun x hx=>by cases hx;exact blk_lt hg)).alloc (.cells #[.int .i64 0,.int .i64 0] 47))
 obtain ⟨b1,o1,rfl,_,_⟩:=hw.1 (by rw [rcells_len,bRs_len];omega)
 clear hg hw
 have hat:=bRs_at (ns:=ns) hk
 have HAT:=K1 hat
 generalize bRs ns (ns.length-1)=rs at *
 generalize offN ns (ns.length-1)=cn at *
 have hl1:ns.length-1≤1000:=by omega
 generalize ns.length-1=n1 at *
 generalize ns.length=n at *
 generalize offN ns (k+1)=x at *
 generalize midN ns k=y at *
 clear hat
 have hkk:¬ ((n1:Int)≤(k:Int)):=by omega
 go_enter Tryz.func218,Tryz.ntmps218
 go_wp2_with fail
 (with_reducible refine (CL.out _ (HM.out.bel 0 rfl)).mono ?_)
 rintro e w1 ⟨rfl,rfl⟩
 have c0:=blk_cells (HM.out.st 2 rfl)
 obtain ⟨c1,c2⟩:=HM.out.range2 1 rfl HAT.out
 go_wp2_with fail
 refine bodyPost_ret (v:=.agg #[.int .i64 y,.int .i64 x]) ?_ rfl ⟨rfl,?_⟩
 · simp [results,Tryz.results218,go_sem]
 · exact (Below.refl _ _).alloc (Nat.le_refl _) _
inductive Pl where
 | fin
 | reads (is:List Nat) (next:Pl)
 | eff (k:Nat) (next:Pl)
 | two (k m:Nat) (n1 n2:Pl)
 | three (k m r:Nat) (n1 n2 n3:Pl)
 | cut (next:Pl)
def Pl.count:Pl→Nat
 | .fin=>0
 | .reads is n=>is.length+n.count
 | .eff _ n=>n.count+1
 | .two _ _ n1 _=>n1.count+1
 | .three _ _ _ n1 _ _=>n1.count+1
 | .cut n=>n.count
def Pl.okB (md:Region.Mode) (ops:Array Oper):Pl→Nat→Array Bool→Bool
 | .fin,_,listed=>(Region.ready md ops listed).isEmpty
 | .reads is n,t,listed=>is.all (fun i=>decide (i<ops.size) && (List.range ops.size).all (fun j=>decide (j<t) || Region.waitsFor md ops j i)) && (readsI md ops is listed).2 && n.okB md ops t (readsI md ops is listed).1
 | .eff k n,t,listed=>decide (k<ops.size) && decide (Region.ready md ops listed=[k]) && n.okB md ops t (listed.setIfInBounds k true)
 | .two k m n1 n2,t,listed=>decide (k<ops.size) && decide (m<ops.size) && decide (Region.ready md ops listed=[k,m]) && decide (n1.count=n2.count) && n1.okB md ops t (listed.setIfInBounds k true) && n2.okB md ops t (listed.setIfInBounds m true)
 | .three k m r n1 n2 n3,t,listed=>decide (k<ops.size) && decide (m<ops.size) && decide (r<ops.size) && decide (Region.ready md ops listed=[k,m,r]) && decide (n1.count=n2.count) && decide (n1.count=n3.count) && n1.okB md ops t (listed.setIfInBounds k true) && n2.okB md ops t (listed.setIfInBounds m true) && n3.okB md ops t (listed.setIfInBounds r true)
 | .cut n,t,listed=>(List.range t).all (fun j=>listed.getD j true) && (Region.ready md ops listed).all (fun j=>decide (t≤j)) && n.okB md ops ops.size listed
section
variable {P:Program} {l:List Oper} {Q:Exit→Act→World→Prop}
def After (Q:Exit→Act→World→Prop) (K:Act→World→Prop) (e:Exit) (a:Act) (w:World):Prop :=
 match e with | .normal=>K a w | e=>Q e a w
def Owe (k t:Nat) (S:World→Prop) (w:World):Prop:=k<t→S w
def PlS (P:Program) (l:List Oper) (Q:Exit→Act→World→Prop):Pl→Nat→(World→Prop)→Act→World→Prop
 | .fin,_,_,a,w=>Q .normal a w
 | .reads is n,t,S,a,w=>S w∧dstB a.tmps.size (pickO l is)=true∧∃ a',(∀ W,S W→wpStill P l.toArray W (fun x=>x=a') (pickO l is) a)∧PlS P l Q n t S a' w
 | .eff k n,t,S,a,w=>∃ S':World→Prop,(∀ W,S' W→S W)∧wpList P l.toArray (After Q fun a' w'=>Owe k t S' w'∧PlS P l Q n t S' a' w') (pickO l [k]) a w
 | .two k m n1 n2,t,S,a,w =>
   (∃ S':World→Prop,(∀ W,S' W→S W)∧wpList P l.toArray (After Q fun a' w'=>Owe k t S' w'∧PlS P l Q n1 t S' a' w') (pickO l [k]) a w) ∧
   (∃ S':World→Prop,(∀ W,S' W→S W)∧wpList P l.toArray (After Q fun a' w'=>Owe m t S' w'∧PlS P l Q n2 t S' a' w') (pickO l [m]) a w)
 | .three k m r n1 n2 n3,t,S,a,w =>
   (∃ S':World→Prop,(∀ W,S' W→S W)∧wpList P l.toArray (After Q fun a' w'=>Owe k t S' w'∧PlS P l Q n1 t S' a' w') (pickO l [k]) a w) ∧
   (∃ S':World→Prop,(∀ W,S' W→S W)∧wpList P l.toArray (After Q fun a' w'=>Owe m t S' w'∧PlS P l Q n2 t S' a' w') (pickO l [m]) a w) ∧
   (∃ S':World→Prop,(∀ W,S' W→S W)∧wpList P l.toArray (After Q fun a' w'=>Owe r t S' w'∧PlS P l Q n3 t S' a' w') (pickO l [r]) a w)
 | .cut n,_,_,a,w=>∃ S':World→Prop,PlS P l Q n l.toArray.size S' a w
theorem AnyT.weaken {md:Region.Mode} {ops:Array Oper} {S S':World→Prop} {t:Nat} (h:∀ W,S' W→S W):∀ (fuel:Nat) (listed:Array Bool) (a:Act) (w:World),AnyT P md ops Q S' t fuel listed a w→AnyT P md ops Q S t fuel listed a w
 | 0,_,_,_,hh=>hh
 | fuel+1,_,_,_,hh=>⟨hh.1,fun i hi=>wpOp_mono (fun a' w' h'=>⟨fun hlt=>h _ (h'.1 hlt),AnyT.weaken h fuel _ a' w' h'.2⟩) (hh.2 i hi)⟩
section
variable {ops:Array Oper} {md:Region.Mode} {S:World→Prop} {t:Nat}
theorem AnyT.readsT_ (hsel:Region.noSelect ops=true) (hQ:∀ d v c a w,Q (.panic c) (a.put d v) w→Q (.panic c) a w) {a':Act} {w:World} (hS:S w) :
  ∀ (is:List Nat) (l:List Oper) (fuel:Nat) (listed:Array Bool) (a:Act),is.map (fun i=>ops[i]?)=l.map some→(readsI md ops is listed).2=true→(∀ i∈is,∀ j,t≤j→j<ops.size→Region.waitsFor md ops j i=true)→dstB a.tmps.size l=true →
  (∀ W,S W→wpStill P ops W (fun x=>x=a') l a)→AnyT P md ops Q S t fuel (readsI md ops is listed).1 a' w→AnyT P md ops Q S t (l.length+fuel) listed a w
 | [],[],fuel,listed,a,_,_,_,_,hR,H=>by
   have:a=a':=hR w hS
   subst this
   simpa [readsI] using H
 | [],_::_,_,_,_,hl,_,_,_,_,_=>by simp at hl
 | _::_,[],_,_,_,hl,_,_,_,_,_=>by simp at hl
 | k::is,o::l,fuel,listed,a,hl,hB,ht,hD,hR,H=>by
   simp only [List.map_cons,List.cons.injEq] at hl
   obtain ⟨h0,hl⟩:=hl
   simp only [readsI,Bool.and_eq_true] at hB H
   obtain ⟨⟨hr,hf⟩,hB'⟩:=hB
   simp only [dstB,Bool.and_eq_true] at hD
   obtain ⟨hd1,hd2⟩:=hD
   cases hod:o.dst with
   | none=>rw [hod] at hd1;cases hd1
   | some d =>
     rw [hod] at hd1
     simp only [Bool.and_eq_true,decide_eq_true_eq,List.all_eq_true,bne_iff_ne,ne_eq] at hd1
     have get:∀ W,S W→∃ v,YieldsAt P ops W o v a∧wpStill P ops W (fun x=>x=a') l (a.put o.dst v)∧a'.tmps[d]?=some v:=fun W hW=>by
      have hst:stOp P ops W k (wpStill P ops W (fun x=>x=a') l) a:=by unfold stOp;simp only [h0];exact hR W hW
      obtain ⟨v,hy,hK⟩:=yieldsAt_of_stOp h0 hst
      refine ⟨v,hy,hK,?_⟩
      rw [(still_keep d l _ (fun o' ho'=>hd1.2 o' ho') hK).1,hod]
      simp [Act.put,hd1.1]
     obtain ⟨v,hy,hK,hv⟩:=get w hS
     have hYA:YA P ops S o v a:=fun W hW=>by
      obtain ⟨u,hyu,_,hu⟩:=get W hW
      rw [hv] at hu
      injection hu with hu
      subst hu
      exact hyu
     have hsz:(a.put o.dst v).tmps.size=a.tmps.size:=by rw [hod];simp [Act.put]
     rw [show (o::l).length+fuel=(l.length+fuel)+1 by simp;omega]
     refine AnyT.first h0 (Region.noSelect_spec hsel) (hQ _ _) (ht k (List.mem_cons_self ..)) _ _ _ _ (Region.free_spec h0 hf) (by simpa using hr) hYA hS ?_
     refine AnyT.readsT_ hsel hQ hS is l fuel _ _ hl hB' (fun i hi=>ht i (List.mem_cons_of_mem _ hi)) (by rw [hsz];exact hd2) (fun W hW=>?_) H
     obtain ⟨u,hyu,hKu,hu⟩:=get W hW
     rw [hv] at hu
     injection hu with hu
     subst hu
     exact hKu
end
theorem wpOp_after {i:Nat} {K:Act→World→Prop} {a:Act} {w:World} (hi:i<l.length) (h:wpList P l.toArray (After Q K) (pickO l [i]) a w):Go.wpOp P l.toArray Q i K a w:=by
 obtain ⟨o,ho⟩:=get_some l i hi
 have hp:pickO l [i]=[o]:=by simp [pickO,ho]
 rw [hp] at h
 unfold Go.wpOp
 have ho':l.toArray[i]?=some o:=by simp [ho]
 simp only [ho']
 unfold wpList at h
 have hlo:LetsOut (After Q K)→LetsOut Q:=fun ⟨a,w,h⟩=>⟨a,w,h⟩
 split
 · rename_i hw
   rw [if_pos hw] at h
   rcases h with h | ⟨h1,h2⟩
   · exact .inl (upon_end (K:=K) (fun _ _ _ h=>h) hlo h)
   · exact .inr ⟨h1,hlo h2⟩
 · rename_i hw
   rw [if_neg hw] at h
   exact h
theorem AnyT.pl (hsel:Region.noSelect l.toArray=true) (hQ:∀ d v c a w,Q (.panic c) (a.put d v) w→Q (.panic c) a w) :
  ∀ (pl:Pl) (t:Nat) (S:World→Prop) (listed:Array Bool) (a:Act) (w:World),pl.okB .any l.toArray t listed=true→PlS P l Q pl t S a w→AnyT P .any l.toArray Q S t pl.count listed a w
 | .fin,_,_,listed,a,w,hB,h=>⟨by simpa [Pl.okB] using hB,h⟩
 | .reads is n,t,S,listed,a,w,hB,h=>by
   simp only [Pl.okB,Bool.and_eq_true] at hB
   obtain ⟨⟨h1,h2⟩,h3⟩:=hB
   obtain ⟨hS,hd,a',hR,hn⟩:=h
   have h1':=fun i hi=>(Bool.and_eq_true _ _ ▸ List.all_eq_true.1 h1 i hi)
   have hi:=pickO_map (l:=l) (is:=is) (List.all_eq_true.2 fun i hi=>by simpa using (h1' i hi).1)
   have e1:(pickO l is).length=is.length:=by have:=congrArg List.length hi;simpa using this.symm
   have hn':=AnyT.pl hsel hQ n t S _ a' w h3 hn
   have:=AnyT.readsT_ hsel hQ (a':=a') hS is (pickO l is) n.count listed a (by simpa using hi) h2 (fun i hi j hj hjs=>by
    have:=List.all_eq_true.1 (h1' i hi).2 j (List.mem_range.2 hjs)
    rw [Bool.or_eq_true,decide_eq_true_eq] at this
    rcases this with h | h
    · omega
    · exact h) hd hR hn'
   rwa [e1] at this
 | .eff k n,t,S,listed,a,w,hB,h=>by
   simp only [Pl.okB,Bool.and_eq_true,decide_eq_true_eq] at hB
   obtain ⟨⟨h1,h2⟩,h3⟩:=hB
   obtain ⟨S',hm,hw⟩:=h
   refine ⟨fun h0=>(by rw [h2] at h0;cases h0),fun i hi=>?_⟩
   rw [h2] at hi
   obtain rfl:i=k:=by simpa using hi
   exact wpOp_mono (fun a' w' h'=>⟨fun hlt=>hm _ (h'.1 hlt),AnyT.weaken hm _ _ _ _ (AnyT.pl hsel hQ n t S' _ a' w' h3 h'.2)⟩) (wpOp_after (by simpa using h1) hw)
 | .two k m n1 n2,t,S,listed,a,w,hB,h=>by
   simp only [Pl.okB,Bool.and_eq_true,decide_eq_true_eq] at hB
   obtain ⟨⟨⟨⟨⟨h1,h2⟩,h3⟩,h4⟩,h5⟩,h6⟩:=hB
   obtain ⟨⟨S1,m1,w1⟩,S2,m2,w2⟩:=h
   refine ⟨fun h0=>(by rw [h3] at h0;cases h0),fun i hi=>?_⟩
   rw [h3] at hi
   rcases (by simpa using hi:i=k∨i=m) with rfl | rfl
   · exact wpOp_mono (fun a' w' h'=>⟨fun hlt=>m1 _ (h'.1 hlt),AnyT.weaken m1 _ _ _ _ (AnyT.pl hsel hQ n1 t S1 _ a' w' h5 h'.2)⟩) (wpOp_after (by simpa using h1) w1)
   · refine wpOp_mono (fun a' w' h'=>⟨fun hlt=>m2 _ (h'.1 hlt),?_⟩) (wpOp_after (by simpa using h2) w2)
     have:=AnyT.weaken m2 _ _ _ _ (AnyT.pl hsel hQ n2 t S2 _ a' w' h6 h'.2)
     rw [← h4] at this
     exact this
 | .three k m r n1 n2 n3,t,S,listed,a,w,hB,h=>by
   simp only [Pl.okB,Bool.and_eq_true,decide_eq_true_eq] at hB
   obtain ⟨⟨⟨⟨⟨⟨⟨⟨h1,h2⟩,h3⟩,h4⟩,h5⟩,h6⟩,h7⟩,h8⟩,h9⟩:=hB
   obtain ⟨⟨S1,m1,w1⟩,⟨S2,m2,w2⟩,S3,m3,w3⟩:=h
   refine ⟨fun h0=>(by rw [h4] at h0;cases h0),fun i hi=>?_⟩
   rw [h4] at hi
   rcases (by simpa using hi:i=k∨i=m∨i=r) with rfl | rfl | rfl
   · exact wpOp_mono (fun a' w' h'=>⟨fun hlt=>m1 _ (h'.1 hlt),AnyT.weaken m1 _ _ _ _ (AnyT.pl hsel hQ n1 t S1 _ a' w' h7 h'.2)⟩) (wpOp_after (by simpa using h1) w1)
   · refine wpOp_mono (fun a' w' h'=>⟨fun hlt=>m2 _ (h'.1 hlt),?_⟩) (wpOp_after (by simpa using h2) w2)
     have:=AnyT.weaken m2 _ _ _ _ (AnyT.pl hsel hQ n2 t S2 _ a' w' h8 h'.2)
     rw [← h5] at this
     exact this
   · refine wpOp_mono (fun a' w' h'=>⟨fun hlt=>m3 _ (h'.1 hlt),?_⟩) (wpOp_after (by simpa using h3) w3)
     have:=AnyT.weaken m3 _ _ _ _ (AnyT.pl hsel hQ n3 t S3 _ a' w' h9 h'.2)
     rw [← h6] at this
     exact this
 | .cut n,t,S,listed,a,w,hB,h=>by
   simp only [Pl.okB,Bool.and_eq_true] at hB
   obtain ⟨⟨h1,h2⟩,h3⟩:=hB
   obtain ⟨S',hn⟩:=h
   have:=AnyT.pl hsel hQ n _ S' _ a w h3 hn
   exact AnyT.of_any _ _ _ _ (fun j hj=>by simpa using List.all_eq_true.1 h2 j hj) (fun j ok hok hlt=>List.all_eq_true.1 h1 j (List.mem_range.2 hlt)) (AnyT.any _ _ _ _ this)
def stageB (l:List Oper) (pl:Pl) (t:Nat):Bool:=Region.noSelect l.toArray && pl.okB .any l.toArray t (Array.replicate l.toArray.size false) && decide (pl.count=l.toArray.size)
theorem wp_region_stage {id:Nat} {a:Act} {w:World} (pl:Pl) (t:Nat) (S:World→Prop) (hm:P.follows .mixedOrders=true) (hB:stageB l pl t=true)
  (hQ:∀ d v c a w,Q (.panic c) (a.put d v) w→Q (.panic c) a w) (h:PlS P l Q pl t S a w.drew):(Code.region id l.toArray true).wp P Q a w:=by
 simp only [stageB,Bool.and_eq_true,decide_eq_true_eq] at hB
 obtain ⟨⟨h1,h2⟩,h3⟩:=hB
 refine wp_region_any hm ?_
 have H:=AnyT.pl h1 hQ pl t S _ a w.drew h2 h
 rw [h3] at H
 exact AnyT.any _ _ _ _ H
section
variable {t:Nat} {S:World→Prop} {a:Act} {w:World}
theorem PlS.fin_ (h:Q .normal a w):PlS P l Q .fin t S a w:=h
theorem PlS.reads_ {is:List Nat} {n:Pl} (hS:S w) (hd:dstB a.tmps.size (pickO l is)=true) (h:∃ a',(∀ W,S W→wpStill P l.toArray W (fun x=>x=a') (pickO l is) a)∧PlS P l Q n t S a' w):PlS P l Q (.reads is n) t S a w:=⟨hS,hd,h⟩
theorem PlS.eff_ {k:Nat} {n:Pl} (h:wpList P l.toArray (After Q fun a' w'=>Owe k t S w'∧PlS P l Q n t S a' w') (pickO l [k]) a w):PlS P l Q (.eff k n) t S a w:=⟨S,fun _ h=>h,h⟩
theorem PlS.two_ {k m:Nat} {n1 n2:Pl} (h1:PlS P l Q (.eff k n1) t S a w) (h2:PlS P l Q (.eff m n2) t S a w):PlS P l Q (.two k m n1 n2) t S a w:=⟨h1,h2⟩
theorem PlS.three_ {k m r:Nat} {n1 n2 n3:Pl} (h1:PlS P l Q (.eff k n1) t S a w) (h2:PlS P l Q (.eff m n2) t S a w) (h3:PlS P l Q (.eff r n3) t S a w):PlS P l Q (.three k m r n1 n2 n3) t S a w:=⟨h1,h2,h3⟩
theorem After.go {k:Nat} {n:Pl} (hS:S w) (h:PlS P l Q n t S a w):After Q (fun a' w'=>Owe k t S w'∧PlS P l Q n t S a' w') .normal a w:=⟨fun _=>hS,h⟩
theorem After.last {k:Nat} {n:Pl} (hk:t≤k) (h:PlS P l Q n t S a w):After Q (fun a' w'=>Owe k t S w'∧PlS P l Q n t S a' w') .normal a w:=⟨fun hlt=>absurd hlt (by omega),h⟩
end
theorem name_after {K:Act→World→Prop} {e:Exit} {a:Act} {w:World} (h:∀ W,Hid (W=w)→After Q K e a W):After Q K e a w:=h w (K1 rfl)
end
end Go.Proofs.YtdpojpcoghcieaaGreat
