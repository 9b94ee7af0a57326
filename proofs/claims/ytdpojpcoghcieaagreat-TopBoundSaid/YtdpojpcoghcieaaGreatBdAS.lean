/- A part of the proof of TopBound: Order, Draw, Many, RingSeg, RingSegment. Conditions: none. -/
import Derived.Test.YtdpojpcoghcieaaGreatBdAR
set_option maxHeartbeats 8000000
namespace Go.Proofs.YtdpojpcoghcieaaGreat
open Go.RowKit
section
variable {P:Program} {ops:Array Oper} {Q:Exit→Act→World→Prop} {md:Region.Mode} {S:World→Prop} {t:Nat}
def readsI (md:Region.Mode) (ops:Array Oper):List Nat→Array Bool→Array Bool × Bool
 | [],listed=>(listed,true)
 | k::r,listed=>let x:=readsI md ops r (listed.setIfInBounds k true)
   (x.1,(Region.ready md ops listed).contains k && Region.free md ops listed k && x.2)
def seqI (md:Region.Mode) (ops:Array Oper):List Nat→Array Bool→Array Bool × Bool
 | [],listed=>(listed,true)
 | k::r,listed=>let x:=seqI md ops r (listed.setIfInBounds k true)
   (x.1,decide (Region.ready md ops listed=[k]) && x.2)
theorem AnyT.readsI_ (hsel:Region.noSelect ops=true) (hQ:∀ d v c a w,Q (.panic c) (a.put d v) w→Q (.panic c) a w) {a':Act} {w:World} (hS:S w) (ht:ops.size≤t) :
  ∀ (is:List Nat) (l:List Oper) (fuel:Nat) (listed:Array Bool) (a:Act),is.map (fun i=>ops[i]?)=l.map some→(readsI md ops is listed).2=true→dstB a.tmps.size l=true →
  (∀ W,S W→wpStill P ops W (fun x=>x=a') l a)→AnyT P md ops Q S t fuel (readsI md ops is listed).1 a' w→AnyT P md ops Q S t (l.length+fuel) listed a w
 | [],[],fuel,listed,a,_,_,_,hR,H=>by
   have:a=a':=hR w hS
   subst this
   simpa [readsI] using H
 | [],_::_,_,_,_,hl,_,_,_,_=>by simp at hl
 | _::_,[],_,_,_,hl,_,_,_,_=>by simp at hl
 | k::is,o::l,fuel,listed,a,hl,hB,hD,hR,H=>by
   simp only [List.map_cons,List.cons.injEq] at hl
   obtain ⟨h0,hl⟩:=hl
   simp only [readsI,Bool.and_eq_true] at hB H
   obtain ⟨⟨hr,hf⟩,hB'⟩:=hB
   simp only [dstB,Bool.and_eq_true] at hD
   obtain ⟨hd1,hd2⟩:=hD
   cases hod:o.dst with
   | none=>rw [hod] at hd1;cases hd1
   | some d =>
     rw [hod] at hd1
     simp only [Bool.and_eq_true,decide_eq_true_eq,List.all_eq_true,bne_iff_ne,ne_eq] at hd1
     have get:∀ W,S W→∃ v,YieldsAt P ops W o v a∧wpStill P ops W (fun x=>x=a') l (a.put o.dst v)∧a'.tmps[d]?=some v:=fun W hW=>by
      have hst:stOp P ops W k (wpStill P ops W (fun x=>x=a') l) a:=by unfold stOp;simp only [h0];exact hR W hW
      obtain ⟨v,hy,hK⟩:=yieldsAt_of_stOp h0 hst
      refine ⟨v,hy,hK,?_⟩
      rw [(still_keep d l _ (fun o' ho'=>hd1.2 o' ho') hK).1,hod]
      simp [Act.put,hd1.1]
     obtain ⟨v,hy,hK,hv⟩:=get w hS
     have hYA:YA P ops S o v a:=fun W hW=>by
      obtain ⟨u,hyu,_,hu⟩:=get W hW
      rw [hv] at hu
      injection hu with hu
      subst hu
      exact hyu
     have hsz:(a.put o.dst v).tmps.size=a.tmps.size:=by rw [hod];simp [Act.put]
     rw [show (o::l).length+fuel=(l.length+fuel)+1 by simp;omega]
     refine AnyT.first h0 (Region.noSelect_spec hsel) (hQ _ _) (fun j hj hjs=>by omega) _ _ _ _ (Region.free_spec h0 hf) (by simpa using hr) hYA hS ?_
     refine AnyT.readsI_ hsel hQ hS ht is l fuel _ _ hl hB' (by rw [hsz];exact hd2) (fun W hW=>?_) H
     obtain ⟨u,hyu,hKu,hu⟩:=get W hW
     rw [hv] at hu
     injection hu with hu
     subst hu
     exact hKu
theorem AnyT.spineI {rest:List Oper} {fuel:Nat}:∀ (ms:List Nat) (l:List Oper) (listed:Array Bool) (a:Act) (w:World),ms.map (fun i=>ops[i]?)=l.map some→(seqI md ops ms listed).2=true →
  (∀ a w,wpList P ops Q rest a w→AnyT P md ops Q S t fuel (seqI md ops ms listed).1 a w)→Spine P ops Q S rest l a w→AnyT P md ops Q S t (l.length+fuel) listed a w
 | [],[],listed,a,w,_,_,H,h=>by simpa [seqI] using H a w h
 | [],_::_,_,_,_,hl,_,_,_=>by simp at hl
 | _::_,[],_,_,_,hl,_,_,_=>by simp at hl
 | k::ms,o::l,listed,a,w,hl,hB,H,h=>by
   simp only [List.map_cons,List.cons.injEq] at hl
   obtain ⟨h0,hl⟩:=hl
   simp only [seqI,Bool.and_eq_true,decide_eq_true_eq] at hB H
   rw [show (o::l).length+fuel=(l.length+fuel)+1 by simp;omega]
   refine ⟨fun h1=>(by rw [hB.1] at h1;cases h1),fun i hi=>?_⟩
   rw [hB.1] at hi
   obtain rfl:i=k:=by simpa using hi
   refine wpOp_mono (fun a' w' h'=>⟨fun _=>h'.1,AnyT.spineI ms l _ a' w' hl hB.2 H h'.2⟩) (?_:Go.wpOp P ops Q i (fun a' w'=>S w'∧Spine P ops Q S rest l a' w') a w)
   refine wpOp_of_single h0 (?_:wpList P ops (Behind P ops Q S rest l) [o] a w)
   have e:(Behind P ops Q S rest l)=(fun e a' w'=>match e with | .normal=>S w'∧Spine P ops Q S rest l a' w' | e=>Q e a' w'):=by
    funext e a' w'
    cases e <;> rfl
   rw [e]
   exact h
def orderB (ops:Array Oper) (is ms:List Nat):Bool :=
 let r:=readsI .any ops is (Array.replicate ops.size false)
 let s:=seqI .any ops ms r.1
 Region.noSelect ops && r.2 && s.2 && (Region.ready .any ops s.1).isEmpty && decide (is.length+ms.length=ops.size)
theorem wp_region_order {id:Nat} {a:Act} {w:World} {l:List Oper} (is ms:List Nat) (li lm:List Oper) (S:World→Prop) (hm:P.follows .mixedOrders=true) (hB:orderB l.toArray is ms=true) (hD:dstB a.tmps.size li=true)
  (hi:is.map (fun i=>l[i]?)=li.map some) (hms:ms.map (fun i=>l[i]?)=lm.map some)
  (hQ:∀ d v c a w,Q (.panic c) (a.put d v) w→Q (.panic c) a w) (hS:S w.drew)
  (hRT:∃ a',(∀ W,S W→wpStill P l.toArray W (fun x=>x=a') li a)∧Spine P l.toArray Q S [] lm a' w.drew):(Code.region id l.toArray true).wp P Q a w:=by
 obtain ⟨a',hR,hT⟩:=hRT
 simp only [orderB,Bool.and_eq_true,decide_eq_true_eq] at hB
 obtain ⟨⟨⟨⟨hsel,h1⟩,h2⟩,h3⟩,h4⟩:=hB
 have e1:li.length=is.length:=by have:=congrArg List.length hi;simpa using this.symm
 have e2:lm.length=ms.length:=by have:=congrArg List.length hms;simpa using this.symm
 refine wp_region_any hm ?_
 have H:AnyT P .any l.toArray Q S l.toArray.size (li.length+(lm.length+0)) (Array.replicate l.toArray.size false) a w.drew:=by
  refine AnyT.readsI_ hsel hQ (a':=a') hS (Nat.le_refl _) is li _ _ a (by simpa using hi) h1 hD hR ?_
  exact AnyT.spineI (rest:=[]) ms lm _ a' _ (by simpa using hms) h2 (fun a w h=>⟨by simpa using h3,h⟩) hT
 rw [show li.length+(lm.length+0)=l.toArray.size by rw [e1,e2];simpa using h4] at H
 exact AnyT.any _ _ _ _ H
def pickO (l:List Oper) (is:List Nat):List Oper:=is.filterMap fun i=>l[i]?
theorem pickO_map {l:List Oper}:∀ {is:List Nat},is.all (fun i=>decide (i<l.length))=true→is.map (fun i=>l[i]?)=(pickO l is).map some
 | [],_=>rfl
 | i::r,h=>by
   simp only [List.all_cons,Bool.and_eq_true,decide_eq_true_eq] at h
   obtain ⟨o,ho⟩:=get_some l i h.1
   have ih:=pickO_map h.2
   unfold pickO at ih ⊢
   rw [List.map_cons,List.filterMap_cons,ho,ih]
   rfl
theorem wp_region_reads {id:Nat} {a:Act} {w:World} {l:List Oper} (is ms:List Nat) (S:World→Prop) (hm:P.follows .mixedOrders=true) (hB:orderB l.toArray is ms=true)
  (hI:(is++ms).all (fun i=>decide (i<l.length))=true) (hD:dstB a.tmps.size (pickO l is)=true)
  (hQ:∀ d v c a w,Q (.panic c) (a.put d v) w→Q (.panic c) a w) (hS:S w.drew)
  (hRT:∃ a',(∀ W,S W→wpStill P l.toArray W (fun x=>x=a') (pickO l is) a)∧Spine P l.toArray Q S [] (pickO l ms) a' w.drew):(Code.region id l.toArray true).wp P Q a w:=by
 rw [List.all_append,Bool.and_eq_true] at hI
 exact wp_region_order is ms _ _ S hm hB hD (pickO_map hI.1) (pickO_map hI.2) hQ hS hRT
end
end Go.Proofs.YtdpojpcoghcieaaGreat
namespace Go.Proofs.YtdpojpcoghcieaaGreat
open Lib renaming hid → K1
open Go.RowKit
def strB (bs:Nat) (Ad:Option Addr) (n cd at_:Nat):Ch:=.obj bs (.cells #[.slice Ad n cd,.int .i64 at_] 252 (0,0))
def uCells (ds:List Nat):List Value:=ds.map fun d:Nat=>.int .u64 (d:Int)
def iCells (l:List Nat):List Value:=l.map fun d:Nat=>.int .i64 (d:Int)
theorem iCells_one (l:List Nat):∀ u∈iCells l,u.oneCell'=true:=fun u hu=>by
 obtain ⟨z,_,rfl⟩:=List.mem_map.1 hu
 rfl
theorem iCells_rd (l:List Nat):iCells l=(l.map fun x:Nat=>(x:Int)).map (Value.int .i64):=by simp [iCells]
theorem drawNew_any (A:Option Addr) (n cap:Nat) (ds:List Nat) (w:World) (hr:Rd w w.heap.size A (uCells ds)) (hn:n=ds.length) (hl:n≤1000000000) :
  Calls Tryz.prog 104 #[.slice A n cap] w fun e w'=>∃ bs Ad cd,e=.returned (.pointer (some ⟨bs,0,none⟩))∧Mem w' [.bel w.heap.size w,.rd Ad (uCells ds),strB bs Ad n cd 0]∧w.heap.size≤bs∧(∀ q:Addr,Ad=some q→w.heap.size≤q.block):=by
 have C:=K1 (cloneU_any A n cap (uCells ds) w hr (by simp [uCells,hn]) (by intro u hu;obtain ⟨z,_,rfl⟩:=List.mem_map.1 hu;rfl) hl)
 clear hr hn
 go_enter Tryz.func104,Tryz.ntmps104
 go_wp2_with fail
 (with_reducible refine C.out.mono ?_)
 rintro e w1 ⟨A',c',rfl,hv,_,hb⟩
 have hs:=hb.size
 have HM:=K1 (((Mem.start w).push_rd hb (rd_of_own hv) (own_from_base hv)).alloc (.cells #[.slice A' n c',.int .i64 0] 252))
 have HS:=K1 (And.intro hs (own_from_base hv))
 clear hv hb hs
 go_wp2
 go_ret
 exact ⟨w1.heap.size,A',c',rfl,HM.out,HS.out.1,HS.out.2⟩
theorem drawLeft_any (w:World) (bs n cd at_:Nat) (Ad:Option Addr) (h:∀ i,w.cell? ⟨bs,i,none⟩=([.slice Ad n cd,.int .i64 at_]:List Value)[i]?) (h1:at_≤n) (h2:n≤1000000000) :
  Calls Tryz.prog 156 #[.pointer (some ⟨bs,0,none⟩)] w fun e w'=>e=.returned (.int .i64 (n-at_:Nat))∧∃ q,w'=w.drewN q:=by
 have HS:=K1 (show ((n:Int)-at_)=((n-at_:Nat):Int) by omega)
 have e1:IntKind.i64.wrap ((n:Int)-at_)=(n:Int)-at_:=IntWalk.i64_in _ (by omega)
 go_enter Tryz.func156,Tryz.ntmps156
 go_wp2_with fail
 go_quiet (fail)
 go_wp2
 go_ret
 exact ⟨ret_int HS.out,_,rfl⟩
set_option maxRecDepth 100000 in
theorem drawNext_any (w:World) (L:List Ch) (h:Mem w L) (bs cd at_ n d ib ir:Nat) (Ad:Option Addr) (ds:List Nat) (hb:L[ib]?=some (strB bs Ad ds.length cd at_)) (hr:L[ir]?=some (.rd Ad (uCells ds))) (hd:ds[at_]?=some d) (hn:1≤n∧n≤1048576) (hl:ds.length≤1000000000) :
  Calls Tryz.prog 158 #[.pointer (some ⟨bs,0,none⟩),.int .i64 n] w fun e w'=>e=.returned (.tuple #[.int .i64 (d % n:Nat),.bool true])∧Mem w' (L.set ib (strB bs Ad ds.length cd (at_+1))):=by
 have hlt:=(List.getElem?_eq_some_iff.1 hd).1
 have CL:=K1 (fun W hW=>drawLeft_any W bs ds.length cd at_ Ad hW (by omega) hl)
 have H0:=K1 h
 have HB:=K1 hb
 have HR:=K1 hr
 obtain ⟨b,off,rfl⟩:∃ b off,Ad=some ⟨b,off,none⟩:=by
  obtain ⟨b,off,e,_⟩:=h.rd ir hr (by simp [uCells];omega)
  exact ⟨b,off,e⟩
 have HD:=K1 (show (uCells ds)[at_]?=some (.int .u64 d) by simp [uCells,hd])
 obtain ⟨q,hq⟩:∃ q,q=d % n:=⟨_,rfl⟩
 rw [← hq]
 have hqn:q<n:=by rw [hq];exact Nat.mod_lt _ (by omega)
 have e1:(d:Int).tmod (n:Int)=(q:Int):=by rw [hq];exact (Int.ofNat_tmod _ _).symm
 have e2:(d:Int) % (n:Int)=(q:Int):=by rw [hq];exact (Int.natCast_emod _ _).symm
 generalize hdl:ds.length=dl at *
 have HDL:=K1 hdl
 have c0:=h.cells ib hb
 have hn0:¬ n=0:=by omega
 clear h hb hr hd hq hdl
 go_enter Tryz.func158,Tryz.ntmps158
 go_wp2_with fail
 (with_reducible refine (CL.out _ c0).mono ?_)
 rintro e w1 ⟨rfl,q0,rfl⟩
 clear c0 CL
 replace H0:=K1 (H0.out.drewN q0)
 generalize w.drewN q0=W1 at *
 obtain ⟨lf,hlf⟩:∃ lf,lf=dl-at_:=⟨_,rfl⟩
 rw [← hlf]
 have hlf2:((lf:Int) == 0)=false:=beq_eq_false_iff_ne.2 (by omega)
 clear hlf
 have c0:=H0.out.cells ib HB.out
 have c1:=H0.out.rdAt ir HR.out HD.out
 go_wp2_with fail
 go_quiet (fail)
 have f1:(W1.drewN nq).frozen? ⟨bs,1,none⟩=false:=(H0.out.drewN nq).frozen ib 1 HB.out
 go_wp2_with fail
 go_ret2
 refine ⟨rfl,?_⟩
 have hf:=((H0.out.drewN nq).set (j:=1) HB.out (.int .i64 ((at_:Int)+1)))
 have e3:strB bs (some ⟨b,off,none⟩) dl cd (at_+1)=.obj bs (.cells (#[.slice (some ⟨b,off,none⟩) dl cd,.int .i64 at_].setIfInBounds 1 (.int .i64 ((at_:Int)+1))) 252 (0,0)):=by
  simp [strB]
 rw [e3]
 exact hf
def drawsAt (ds bnds:List Nat) (at_ k:Nat):List Nat:=(List.range k).map fun i=>(ds[at_+i]?.getD 0) % (bnds[i]?.getD 1)
theorem drawsAt_succ (ds bnds:List Nat) (at_ k:Nat):drawsAt ds bnds at_ (k+1)=drawsAt ds bnds at_ k++[(ds[at_+k]?.getD 0) % (bnds[k]?.getD 1)]:=by simp [drawsAt,List.range_succ]
theorem drawsAt_len (ds bnds:List Nat) (at_ k:Nat):(drawsAt ds bnds at_ k).length=k:=by simp [drawsAt]
theorem manyTest_any (x:Int) (w:World):Calls Tryz.prog 157 #[.int .i64 x] w fun e w'=>e=.returned (.bool (decide (x<1)))∧w=w':=by
 go_enter Tryz.func157,Tryz.ntmps157
 go_wp2
 go_ret
 exact ⟨rfl,rfl⟩
theorem idxMany_none (A:Option Addr) (cap n:Nat) (zs:List Nat) (w:World) (hr:Rd w w.heap.size A (iCells zs)) (hn:n=zs.length) (hm:n≤1000000) (hz:∀ z∈zs,1≤z) :
  Calls Tryz.prog 136 #[.slice A n cap,.func (.func 157) #[] #[]] w fun e w'=>e=.returned (.int .i64 (-1))∧w=w':=by
 have Hall:=K1 hz
 have HN:=K1 hn
 have HR:=K1 hr
 clear hz hn hr
 go_enter Tryz.func136,Tryz.ntmps136
 go_wp2
 go_loop [5,8] (fun j i=>∃ k:Nat,k≤n∧i=.int .i64 k) (fun _ i=>n-(intOf i).toNat)
 case atStart=>exact ⟨0,Nat.zero_le _,rfl⟩
 case round =>
  obtain ⟨k,hk,rfl⟩:=hrel
  by_cases hlt:k<n
  · obtain ⟨b,off,rfl,_,hc⟩:=HR.out (by simp [iCells];have:=HN.out;omega)
    obtain ⟨z,hz⟩:=get_some zs k (by have:=HN.out;omega)
    have c1:w.cell? ⟨b,off+k,none⟩=some (.int .i64 z):=hc _ _ (by simp [iCells,hz])
    have ok1:=Hall.out z (List.mem_of_getElem? hz)
    have ok2:decide ((z:Int)<1)=false:=by simp;omega
    have HZ:=K1 hz
    clear hz hc
    go_wp2_with (go_at_call 157;refine (manyTest_any _ _).mono ?_;rintro e w' ⟨rfl,rfl⟩)
    go_round
    case rel=>exact ⟨k+1,by omega,by go_num⟩
    case measure=>simp [intOf];omega
  · go_wp2
    go_ret
    exact ⟨rfl,rfl⟩
theorem hasMany_no (A:Option Addr) (cap n:Nat) (zs:List Nat) (w:World) (hr:Rd w w.heap.size A (iCells zs)) (hn:n=zs.length) (hm:n≤1000000) (hz:∀ z∈zs,1≤z) :
  Calls Tryz.prog 97 #[.slice A n cap,.func (.func 157) #[] #[]] w fun e w'=>e=.returned (.bool false)∧w=w':=by
 have C:=K1 (idxMany_none A cap n zs w hr hn hm hz)
 clear hr hn hz
 go_enter Tryz.func97,Tryz.ntmps97
 go_wp2_with (go_at_call 136;refine C.out.mono ?_;rintro e w' ⟨rfl,rfl⟩)
 go_ret
 exact ⟨rfl,rfl⟩
theorem set_last {X:List Ch} {c d:Ch}:(X++[c]).set X.length d=X++[d]:=by simp
theorem set_app_set {X B:List Ch} {i:Nat} {a b c:Ch} (h:X[i]?=some a):(X.set i b++B).set i c=X.set i c++B:=by rw [set_app (at_set h),List.set_set]
set_option maxRecDepth 100000 in
theorem many_any (w:World) (L:List Ch) (h:Mem w L) (bs cd at_ m cb ib ir ix:Nat) (Ad Ab:Option Addr) (ds bnds:List Nat) (hb:L[ib]?=some (strB bs Ad ds.length cd at_)) (hr:L[ir]?=some (.rd Ad (uCells ds))) (hx:L[ix]?=some (.rd Ab (iCells bnds)))
  (hm:m=bnds.length) (hcb:m≤cb) (hm2:m≤1000) (hat:at_+m≤ds.length) (hbn:∀ z∈bnds,1≤z∧z≤1048576) (hl:ds.length≤1000000000) :
  Calls Tryz.prog 138 #[.pointer (some ⟨bs,0,none⟩),.slice Ab m cb] w fun e w'=>∃ A c,e=.returned (.tuple #[.slice A m c,.bool true])∧m≤c∧Mem w' (L.set ib (strB bs Ad ds.length cd (at_+m))++[.own w.heap.size 3 1 (.slice A m c) m (iCells (drawsAt ds bnds at_ m))]):=by
 have CL:=K1 (fun W hW=>drawLeft_any W bs ds.length cd at_ Ad hW (by omega) hl)
 have CH:=K1 (fun W (hW:Mem W L)=>hasMany_no Ab cb m bnds W (hW.rd ix hx) hm (by omega) (fun z hz=>(hbn z hz).1))
 have CN:=K1 (fun (k d z:Nat) (W:World) (M:List Ch) (hM:Mem W M) (h1:M[ib]?=some (strB bs Ad ds.length cd (at_+k))) (h2:M[ir]?=some (.rd Ad (uCells ds))) (hd:ds[at_+k]?=some d) (hz:z∈bnds)=>drawNext_any W M hM bs cd (at_+k) z d ib ir Ad ds h1 h2 hd (hbn z hz) hl)
 have H0:=K1 h
 have HB:=K1 hb
 have HR:=K1 hr
 have HX:=K1 hx
 have HQ:=K1 (And.intro hbn hm)
 have c0:=h.cells ib hb
 have HLD:=K1 (show ∃ dl:Nat,ds.length=dl∧at_+m≤dl from ⟨_,rfl,hat⟩)
 clear h hb hr hx hbn
 generalize hdl:ds.length=dl at *
 have HDL:=K1 hdl
 clear hdl HLD hm
 go_enter Tryz.func138,Tryz.ntmps138
 go_wp2_with fail
 (with_reducible refine (CL.out _ c0).mono ?_)
 rintro e w1 ⟨rfl,q0,rfl⟩
 have hle:¬ (dl-at_<m):=by omega
 have hle2:decide (dl-at_<m)=false:=by simp;omega
 generalize dl-at_=lf at *
 go_wp2_with fail
 (with_reducible refine (CH.out _ (H0.out.drewN q0)).mono ?_)
 rintro e w1 ⟨rfl,rfl⟩
 have HM0:=K1 (show Mem (w.drewN q0) (L.set ib (strB bs Ad dl cd (at_+0))++[.own w.heap.size 3 1 (.slice none 0 0) 0 (iCells (drawsAt ds bnds at_ 0))]) by
  rw [Nat.add_zero,set_same HB.out]
  exact (H0.out.drewN q0).add (c:=.own w.heap.size 3 1 (.slice none 0 0) 0 (iCells (drawsAt ds bnds at_ 0))) ⟨own_nil _ _ _ _,Nat.le_refl _⟩ (fun _ _ _ _ g hg=>by cases hg))
 generalize w.drewN q0=W0 at *
 clear c0 H0 CH CL
 go_wp2_with fail
 go_loopw [6,26] (fun s6 i wr=>∃ (k:Nat) (A:Option Addr) (c:Nat),k≤m∧s6=.slice A k c∧i=.int .i64 k∧Hid (Mem wr (L.set ib (strB bs Ad dl cd (at_+k))++[.own w.heap.size 3 1 (.slice A k c) k (iCells (drawsAt ds bnds at_ k))]))) (fun _ i _=>m-(intOf i).toNat)
 case atStart=>exact ⟨0,none,0,Nat.zero_le _,rfl,rfl,HM0⟩
 case round =>
  clear HM0
  obtain ⟨k,A,c,hk,rfl,rfl,HM⟩:=hrel
  have hnx:=idx_ne HB.out HX.out (by simp [strB])
  have hnr:=idx_ne HB.out HR.out (by simp [strB])
  by_cases hlt:k<m
  · obtain ⟨z,hz⟩:=get_some bnds k (by have:=HQ.out.2;omega)
    obtain ⟨d,hd⟩:=get_some ds (at_+k) (by have:=HDL.out;omega)
    obtain ⟨b1,o1,rfl⟩:∃ b off,Ab=some ⟨b,off,none⟩:=by
     obtain ⟨b,off,e,_⟩:=HM.out.rd ix (at_l (at_ne hnx HX.out)) (by simp [iCells];have:=HQ.out.2;omega)
     exact ⟨b,off,e⟩
    have cz:=HM.out.rdAt ix (at_l (at_ne hnx HX.out)) (j:=k) (u:=.int .i64 z) (by simp [iCells,hz])
    have HS:Hid (drawsAt ds bnds at_ (k+1)=drawsAt ds bnds at_ k++[d % z]):=K1 (by rw [drawsAt_succ,hd,hz];rfl)
    have HDZ:=K1 (And.intro hd (List.mem_of_getElem? hz))
    clear hd hz
    go_wp2_with fail
    refine (CN.out k d z wr _ HM.out (at_l (at_set HB.out)) (at_l (at_ne hnr HR.out)) HDZ.out.1 HDZ.out.2).mono ?_
    rintro e w2 ⟨rfl,hm2⟩
    rw [set_app_set HB.out] at hm2
    have HM2:=K1 hm2
    clear hm2 HM cz
    obtain ⟨v,hv⟩:∃ v,v=d % z:=⟨_,rfl⟩
    rw [← hv] at HS ⊢
    clear hv
    have HM3:=K1 (HM2.out.alloc (.cells #[.int .i64 v] 3))
    clear HM2
    go_wp2_with (at_builtin;refine wpList_append_mem rfl _ _ 22 rfl HM3.out (L.set ib (strB bs Ad dl cd (at_+k+1))).length rowCI (at_l at_last) rfl _ 1 _ [.int .i64 v] rfl (HM3.out.box _ at_last) rfl (by intro u hu;simp at hu;subst hu;rfl) (by omega) ?_;intro A' c' W4 hM4)
    have h5:=Mem.setl hM4 at_last
    rw [set_last] at h5
    have HM5:=K1 h5
    clear h5 hM4 HM3
    go_wp2_with fail
    go_roundw
    case rel =>
     refine ⟨k+1,A',c',by omega,rfl,by go_num,?_⟩
     have e1:iCells (drawsAt ds bnds at_ (k+1))=iCells (drawsAt ds bnds at_ k)++[.int .i64 v]:=by rw [HS.out];simp [iCells]
     rw [e1]
     exact HM5
    case measure=>simp [intOf];omega
  · have hkm:k=m:=by omega
    subst hkm
    have HF:=K1 HM.out
    clear HM
    go_wp2_with fail
    go_ret2
    exact ⟨A,c,rfl,own_cap (HF.out.own _ at_last),HF.out⟩
theorem range_snoc_cells (k:Nat):iCells (List.range (k+1))=iCells (List.range k)++[.int .i64 k]:=by simp [iCells,List.range_succ]
theorem identity_any (n:Nat) (w:World) (hn:n≤1000000) :
  Calls Tryz.prog 139 #[.int .i64 n] w fun e w'=>∃ A c,e=.returned (.slice A n c)∧w'.ownsRow w.heap.size 3 1 (.slice A n c) n (iCells (List.range n))∧Below w.heap.size w w':=by
 have HM0:=K1 ((Mem.start w).add (c:=.own w.heap.size 3 1 (.slice none 0 0) 0 (iCells (List.range 0))) ⟨own_nil _ _ _ _,Nat.le_refl _⟩ (fun _ _ _ _ g hg=>by cases hg))
 go_enter Tryz.func139,Tryz.ntmps139
 go_wp2_with fail
 go_loopw [3,6] (fun s3 i wr=>∃ (k:Nat) (A:Option Addr) (c:Nat),k≤n∧s3=.slice A k c∧i=.int .i64 k∧Hid (Mem wr [.bel w.heap.size w,.own w.heap.size 3 1 (.slice A k c) k (iCells (List.range k))])) (fun _ i _=>n-(intOf i).toNat)
 case atStart=>exact ⟨0,none,0,Nat.zero_le _,rfl,rfl,HM0⟩
 case round =>
  clear HM0
  obtain ⟨k,A,c,hk,rfl,rfl,HM⟩:=hrel
  by_cases hlt:k<n
  · have HM3:=K1 (HM.out.alloc (.cells #[.int .i64 k] 3))
    clear HM
    go_wp2_with (at_builtin;refine wpList_append_mem rfl _ _ 22 rfl HM3.out 1 rowCI rfl rfl _ 1 _ [.int .i64 k] rfl (HM3.out.box 2 rfl) rfl (by intro u hu;simp at hu;subst hu;rfl) (by omega) ?_;intro A' c' W4 hM4)
    have HM5:=K1 (hM4.front 2)
    clear hM4 HM3
    go_wp2_with fail
    go_roundw
    case rel =>
     refine ⟨k+1,A',c',by omega,rfl,by go_num,?_⟩
     rw [range_snoc_cells]
     exact HM5
    case measure=>simp [intOf];omega
  · have hkm:k=n:=by omega
    subst hkm
    have HF:=K1 HM.out
    clear HM
    go_wp2_with fail
    go_ret
    exact ⟨A,c,rfl,HF.out.own 1 rfl,HF.out.bel 0 rfl⟩
structure Jb where
 step:Nat
 bucket:Nat
 lo:Nat
 hi:Nat
 workers:Nat
 chunk:Nat
def Jb.cells (j:Jb):List Value:=[.int .i64 j.step,.int .i64 j.bucket,.int .i64 j.lo,.int .i64 j.hi,.int .i64 j.workers,.int .i64 j.chunk]
def segS (k w ph r:Nat):Nat:=(w+ph+k-r) % k
def segR (k w ph r:Nat):Nat:=segS k ((w+k-1) % k) ph r
theorem segS_lt {k w ph r:Nat} (hk:1≤k):segS k w ph r<k:=Nat.mod_lt _ hk
theorem segR_lt {k w ph r:Nat} (hk:1≤k):segR k w ph r<k:=Nat.mod_lt _ hk
theorem around_any (j:Jb) (z:Int) (m:Nat) (w:World) (hz:z=(m:Int)-j.workers) (hk:1≤j.workers∧j.workers≤1000) (hm:m≤10000) :
  Calls Tryz.prog 173 #[.agg j.cells.toArray,.int .i64 z] w fun e w'=>e=.returned (.int .i64 (m % j.workers:Nat))∧Below w.heap.size w w':=by
 obtain ⟨step,bucket,lo,hi,k,chunk⟩:=j
 dsimp only at hz hk ⊢
 obtain ⟨q,hq⟩:∃ q:Nat,q=m % k:=⟨_,rfl⟩
 have hne:¬ ((k:Int)=0):=by omega
 have hk2:=hk.2
 have hk1:=hk.1
 rw [← hq]
 have hB:=K1 ((Below.refl w.heap.size w).alloc (Nat.le_refl _) (.cells (Jb.cells ⟨step,bucket,lo,hi,k,chunk⟩).toArray 277))
 simp only [Jb.cells] at hB ⊢
 rcases Nat.lt_or_ge m k with hlt | hge
 · have e0:q=m:=by rw [hq];exact Nat.mod_eq_of_lt hlt
   rcases Nat.eq_zero_or_pos m with h0 | h0
   · have e1:z.tmod (k:Int)=0:=by rw [hz,h0,show ((0:Nat):Int)-k=- (k:Int) by omega,Int.neg_tmod,Int.tmod_self];rfl
     have HQ:=K1 (show (0:Int)=q by omega)
     clear hz hq e0
     go_enter Tryz.func173,Tryz.ntmps173
     go_wp2
     go_ret
     exact ⟨ret_int HQ.out,hB.out⟩
   · have e1:z.tmod (k:Int)=z:=by
      rw [show z=- (- z) by omega,Int.neg_tmod,Int.tmod_eq_of_lt (by omega) (by omega)]
     have hz1:z<0:=by omega
     have hz2:-10000≤z:=by omega
     have HQ:=K1 (show z+k=q by omega)
     clear hz hq e0
     go_enter Tryz.func173,Tryz.ntmps173
     go_wp2
     go_ret
     exact ⟨ret_int HQ.out,hB.out⟩
 · have e1:z.tmod (k:Int)=q:=by
    obtain ⟨d,hd⟩:∃ d:Nat,d=m-k:=⟨_,rfl⟩
    rw [hz,show (m:Int)-k=(d:Nat) by omega,hq,← Int.ofNat_tmod]
    congr 1
    rw [show m=d+k by omega,Nat.add_mod_right]
   have hz1:0≤z:=by omega
   have hz2:z≤10000:=by omega
   have hq2:0≤(q:Int):=by omega
   clear hz hq
   go_enter Tryz.func173,Tryz.ntmps173
   go_wp2
   go_ret
   exact ⟨rfl,hB.out⟩
theorem scatter_any (j:Jb) (u r:Nat) (w:World) (hk:1≤j.workers∧j.workers≤1000) (hw:u<j.workers) (hr:r<j.workers) :
  Calls Tryz.prog 171 #[.agg j.cells.toArray,.int .i64 u,.int .i64 r] w fun e w'=>e=.returned (.int .i64 (segS j.workers u 0 r:Nat))∧Below w.heap.size w w':=by
 have C:=K1 (fun W=>around_any j ((u:Int)-r) (u+0+j.workers-r) W (by omega) hk (by omega))
 have hB:=K1 ((Below.refl w.heap.size w).alloc (Nat.le_refl _) (.cells j.cells.toArray 277))
 obtain ⟨step,bucket,lo,hi,k,chunk⟩:=j
 dsimp only [Jb.cells] at hk hw hr C hB ⊢
 go_enter Tryz.func171,Tryz.ntmps171
 go_wp2_with fail
 (with_reducible refine (C.out _).mono ?_)
 rintro e w1 ⟨rfl,hb⟩
 have HB:=K1 (hB.out.trans (hb.mono (by simp)))
 clear hb
 go_wp2_with fail
 go_ret
 exact ⟨rfl,HB.out⟩
theorem gather_any (j:Jb) (u r:Nat) (w:World) (hk:1≤j.workers∧j.workers≤1000) (hw:u<j.workers) (hr:r<j.workers) :
  Calls Tryz.prog 172 #[.agg j.cells.toArray,.int .i64 u,.int .i64 r] w fun e w'=>e=.returned (.int .i64 (segS j.workers u 1 r:Nat))∧Below w.heap.size w w':=by
 have C:=K1 (fun W=>around_any j ((u:Int)+1-r) (u+1+j.workers-r) W (by omega) hk (by omega))
 have hB:=K1 ((Below.refl w.heap.size w).alloc (Nat.le_refl _) (.cells j.cells.toArray 277))
 obtain ⟨step,bucket,lo,hi,k,chunk⟩:=j
 dsimp only [Jb.cells] at hk hw hr C hB ⊢
 go_enter Tryz.func172,Tryz.ntmps172
 go_wp2_with fail
 (with_reducible refine (C.out _).mono ?_)
 rintro e w1 ⟨rfl,hb⟩
 have HB:=K1 (hB.out.trans (hb.mono (by simp)))
 clear hb
 go_wp2_with fail
 go_ret
 exact ⟨rfl,HB.out⟩
theorem of_0 (W:World):(Instr.index 288 (.agg #[.func (.func 171) #[] #[],.func (.func 172) #[] #[]]) (.int .i64 0)).run Tryz.prog W=.ok (.func (.func 171) #[] #[]) W:=by kernel_rfl
theorem of_1 (W:World):(Instr.index 288 (.agg #[.func (.func 171) #[] #[],.func (.func 172) #[] #[]]) (.int .i64 1)).run Tryz.prog W=.ok (.func (.func 172) #[] #[]) W:=by kernel_rfl
set_option maxRecDepth 100000 in
theorem segment_send (j:Jb) (u ph r:Nat) (w:World) (hk:1≤j.workers∧j.workers≤1000) (hw:u<j.workers) (hr:r+1<j.workers) (hp:ph≤1) :
  Calls Tryz.prog 165 #[.agg j.cells.toArray,.int .i64 u,.int .i64 ph,.int .i64 r,.bool true] w fun e w'=>e=.returned (.tuple #[.int .i64 (segS j.workers u ph r:Nat),.bool true])∧Below w.heap.size w w':=by
 have hB:=K1 ((Below.refl w.heap.size w).alloc (Nat.le_refl _) (.cells j.cells.toArray 277))
 have C0:=K1 (fun W=>scatter_any j u r W hk hw (by omega))
 have C1:=K1 (fun W=>gather_any j u r W hk hw (by omega))
 obtain ⟨step,bucket,lo,hi,k,chunk⟩:=j
 dsimp only [Jb.cells] at hk hw hr hB C0 C1 ⊢
 have hr2:¬ ((k:Int)-1≤r):=by omega
 have i0:=of_0
 have i1:=of_1
 rcases (show ph=0∨ph=1 by omega) with rfl | rfl
 · go_enter Tryz.func165,Tryz.ntmps165
   go_wp2_with fail
   (with_reducible refine (C0.out _).mono ?_)
   rintro e w1 ⟨rfl,hb⟩
   have HB:=K1 (hB.out.trans (hb.mono (by simp)))
   clear hb
   go_wp2_with fail
   go_ret2
   exact ⟨rfl,HB.out⟩
 · go_enter Tryz.func165,Tryz.ntmps165
   go_wp2_with fail
   (with_reducible refine (C1.out _).mono ?_)
   rintro e w1 ⟨rfl,hb⟩
   have HB:=K1 (hB.out.trans (hb.mono (by simp)))
   clear hb
   go_wp2_with fail
   go_ret2
   exact ⟨rfl,HB.out⟩
set_option maxRecDepth 100000 in
theorem segment_recv (j:Jb) (u ph r:Nat) (w:World) (hk:1≤j.workers∧j.workers≤1000) (hw:u<j.workers) (hr:r+1<j.workers) (hp:ph≤1) :
  Calls Tryz.prog 165 #[.agg j.cells.toArray,.int .i64 u,.int .i64 ph,.int .i64 r,.bool false] w fun e w'=>e=.returned (.tuple #[.int .i64 (segR j.workers u ph r:Nat),.bool true])∧Below w.heap.size w w':=by
 have HM:=K1 ((Mem.start w).alloc (.cells j.cells.toArray 277)).drew
 have CA:=K1 (fun W=>around_any j ((u:Int)-1) (u+j.workers-1) W (by omega) hk (by omega))
 have hlt:(u+j.workers-1) % j.workers<j.workers:=Nat.mod_lt _ (by omega)
 have C0:=K1 (fun W=>scatter_any j ((u+j.workers-1) % j.workers) r W hk hlt (by omega))
 have C1:=K1 (fun W=>gather_any j ((u+j.workers-1) % j.workers) r W hk hlt (by omega))
 clear hlt
 obtain ⟨step,bucket,lo,hi,k,chunk⟩:=j
 dsimp only [Jb.cells] at hk hw hr HM C0 C1 CA ⊢
 unfold segR
 generalize (u+k-1) % k=x at *
 have hr2:¬ ((k:Int)-1≤r):=by omega
 have ew:IntKind.i64.wrap ((u:Int)-1)=(u:Int)-1:=IntWalk.i64_in _ (by omega)
 have i0:=of_0
 have i1:=of_1
 rcases (show ph=0∨ph=1 by omega) with rfl | rfl
 · go_enter Tryz.func165,Tryz.ntmps165
   go_wp2_with fail
   go_region_held3 (fun w'=>∀ i,w'.cell? ⟨w.heap.size,i,none⟩=(#[.int .i64 step,.int .i64 bucket,.int .i64 lo,.int .i64 hi,.int .i64 k,.int .i64 chunk]:Array Value)[i]?)
    (exact fun i=>blk_cell (HM.out.obj 1 rfl) i)
    (first
     | (go_at_call 173
        (with_reducible refine (CA.out _).mono ?_)
        rintro e w1 ⟨rfl,hb⟩
        replace HM:=K1 (HM.out.below hb)
        clear hb)
     | (go_at_call 171
        (with_reducible refine (C0.out _).mono ?_)
        rintro e w2 ⟨rfl,hb⟩
        replace HM:=K1 (HM.out.below hb)
        clear hb))
   go_wp2_with fail
   go_ret2
   exact ⟨rfl,HM.out.bel 0 rfl⟩
 · go_enter Tryz.func165,Tryz.ntmps165
   go_wp2_with fail
   go_region_held3 (fun w'=>∀ i,w'.cell? ⟨w.heap.size,i,none⟩=(#[.int .i64 step,.int .i64 bucket,.int .i64 lo,.int .i64 hi,.int .i64 k,.int .i64 chunk]:Array Value)[i]?)
    (exact fun i=>blk_cell (HM.out.obj 1 rfl) i)
    (first
     | (go_at_call 173
        (with_reducible refine (CA.out _).mono ?_)
        rintro e w1 ⟨rfl,hb⟩
        replace HM:=K1 (HM.out.below hb)
        clear hb)
     | (go_at_call 172
        (with_reducible refine (C1.out _).mono ?_)
        rintro e w2 ⟨rfl,hb⟩
        replace HM:=K1 (HM.out.below hb)
        clear hb))
   go_wp2_with fail
   go_ret2
   exact ⟨rfl,HM.out.bel 0 rfl⟩
end Go.Proofs.YtdpojpcoghcieaaGreat
