/- A part of the proof of TopBound: GiP, FewIn, Perm, CopyMem, Front. Conditions: none. -/
import Derived.Laws.CopyOwn
import Derived.Test.YtdpojpcoghcieaaGreatBdAZ
set_option maxHeartbeats 8000000
namespace Go.Proofs.YtdpojpcoghcieaaGreat
open Lib renaming hid → K1
open Go.RowKit
structure Gi where
 A:Option Addr
 cap:Nat
 zs:List Int
 DA:Option Addr
 dcap:Nat
 l:List Ex
 SA:Option Addr
 scap:Nat
 ss:List Int
 RA:Option Addr
 rcap:Nat
 ds:List Nat
 sh:Int
 ra:Int
 mo:Int
 wo:Int
 ba:Int
 mi:Int
 st:Int
 bu:Int
 ch:Int
 wi:Int
 ca:Int
def Gi.cf (g:Gi):List Value:=[.slice g.A g.zs.length g.cap,.int .i64 g.sh,.int .i64 g.ra,.int .i64 g.mo,.int .i64 g.wo,.int .i64 g.ba,.int .i64 g.mi,.int .i64 g.st,.int .i64 g.bu,.int .i64 g.ch,.int .i64 g.wi,.int .i64 g.ca]
def Gi.cells (g:Gi):List Value:=[.slice g.A g.zs.length g.cap,.int .i64 g.sh,.int .i64 g.ra,.int .i64 g.mo,.int .i64 g.wo,.int .i64 g.ba,.int .i64 g.mi,.int .i64 g.st,.int .i64 g.bu,.int .i64 g.ch,.int .i64 g.wi,.int .i64 g.ca,.slice g.DA g.l.length g.dcap,.slice g.SA g.ss.length g.scap,.slice g.RA g.ds.length g.rcap]
def Gi.pl (g:Gi):List Value:=[.slice g.A g.zs.length g.cap,.int .i64 g.sh,.int .i64 g.ra,.int .i64 g.mo,.int .i64 g.wo,.int .i64 g.ba,.int .i64 g.mi,.int .i64 g.st,.int .i64 g.bu,.int .i64 g.ch,.int .i64 g.wi,.int .i64 g.ca,.int .i64 g.ss.length]
def Gi.cc (g:Gi):Int:=confCode g.zs ⟨g.sh,0,0,g.wo,g.ba,g.mi,g.st,g.bu,g.ch,g.wi,g.ca⟩
def Gi.code (g:Gi):Int:=inCode g.cc g.zs g.st g.ba g.l g.ss.length g.ds.length
structure Gi.At (g:Gi) (w:World):Prop where
 z:RdI w w.heap.size g.A g.zs
 zc:g.zs.length≤g.cap
 zm:g.zs.length≤9223372036854775807
 l:RdE w w.heap.size g.DA g.l
 lm:g.l.length≤9223372036854775807
 ex:∀ e∈g.l,In64 e.xs∧In64 e.ys
 s:Rd w w.heap.size g.SA (zC g.ss)
 sm:g.ss.length≤9223372036854775807
 si:In64 g.ss
 d:Rd w w.heap.size g.RA (uCells g.ds)
 dm:g.ds.length≤9223372036854775807
 ra:-9223372036854775808≤g.ra∧g.ra≤9223372036854775807
 mo:-9223372036854775808≤g.mo∧g.mo≤9223372036854775807
theorem Gi.At.below {g:Gi} {w w':World} (h:g.At w) (hb:Below w.heap.size w w'):g.At w' :=
 ⟨(RdI.below h.z hb).more hb.size,h.zc,h.zm,(RdE.below h.l hb).more hb.size,h.lm,h.ex,(h.s.below hb).more hb.size,h.sm,h.si,(h.d.below hb).more hb.size,h.dm,h.ra,h.mo⟩
structure Gi.Small (g:Gi):Prop where
 code:g.code=0
 wo:g.wo≤6
 st:g.st≤5
 s:g.ss.length≤40
 l:g.l.length≤40
 mi:g.mi≤20
 d:g.ds.length≤2000
theorem refInput_any (A DA SA RA:Option Addr) (cap dcap sn scap rn rcap:Nat) (zs:List Int) (l:List Ex) (sh ra mo wo ba mi st bu ch wi ca:Int) (w:World) (hr:RdI w w.heap.size A zs) (hm:zs.length≤9223372036854775807)
  (hd:RdE w w.heap.size DA l) (hlm:l.length≤9223372036854775807) :
  Calls Tryz.prog 22 #[.agg #[.slice A zs.length cap,.int .i64 sh,.int .i64 ra,.int .i64 mo,.int .i64 wo,.int .i64 ba,.int .i64 mi,.int .i64 st,.int .i64 bu,.int .i64 ch,.int .i64 wi,.int .i64 ca,.slice DA l.length dcap,.slice SA sn scap,.slice RA rn rcap]] w (Coded w (inCode (confCode zs ⟨sh,0,0,wo,ba,mi,st,bu,ch,wi,ca⟩) zs st ba l sn rn)):=by
 by_cases h:confCode zs ⟨sh,0,0,wo,ba,mi,st,bu,ch,wi,ca⟩=0
 · exact refInput_good A DA SA RA cap dcap sn scap rn rcap zs l sh ra mo wo ba mi st bu ch wi ca w hr hm hd hlm h
 · exact refInput_bad A DA SA RA cap dcap sn scap rn rcap zs l sh ra mo wo ba mi st bu ch wi ca w hr hm h
def fewIn (n:Nat) (l:List Ex) (sn rn:Nat):Bool:=decide (n≤40) && exFew l && decide (sn≤600) && decide (rn≤2000)
theorem fewIn_any (A DA SA RA:Option Addr) (cap dcap sn scap rn rcap:Nat) (zs:List Int) (l:List Ex) (sh ra mo wo ba mi st bu ch wi ca:Int) (w:World)
  (hd:RdE w w.heap.size DA l) (hlm:l.length≤9223372036854775807) (hm:zs.length≤9223372036854775807) (hsm:sn≤9223372036854775807) (hrm:rn≤9223372036854775807) :
  Calls Tryz.prog 130 #[.agg #[.slice A zs.length cap,.int .i64 sh,.int .i64 ra,.int .i64 mo,.int .i64 wo,.int .i64 ba,.int .i64 mi,.int .i64 st,.int .i64 bu,.int .i64 ch,.int .i64 wi,.int .i64 ca,.slice DA l.length dcap,.slice SA sn scap,.slice RA rn rcap]] w fun e w'=>e=.returned (.bool (fewIn zs.length l sn rn))∧Below w.heap.size w w':=by
 have hb0:Below w.heap.size w (w.alloc (.cells #[.slice A zs.length cap,.int .i64 sh,.int .i64 ra,.int .i64 mo,.int .i64 wo,.int .i64 ba,.int .i64 mi,.int .i64 st,.int .i64 bu,.int .i64 ch,.int .i64 wi,.int .i64 ca,.slice DA l.length dcap,.slice SA sn scap,.slice RA rn rcap] 29)):=(Below.refl _ _).alloc (Nat.le_refl _) _
 have hI:=heap_alloc_new w (.cells #[.slice A zs.length cap,.int .i64 sh,.int .i64 ra,.int .i64 mo,.int .i64 wo,.int .i64 ba,.int .i64 mi,.int .i64 st,.int .i64 bu,.int .i64 ch,.int .i64 wi,.int .i64 ca,.slice DA l.length dcap,.slice SA sn scap,.slice RA rn rcap] 29)
 have C:=K1 (dataFew_any DA dcap l (w.alloc (.cells #[.slice A zs.length cap,.int .i64 sh,.int .i64 ra,.int .i64 mo,.int .i64 wo,.int .i64 ba,.int .i64 mi,.int .i64 st,.int .i64 bu,.int .i64 ch,.int .i64 wi,.int .i64 ca,.slice DA l.length dcap,.slice SA sn scap,.slice RA rn rcap] 29)) ((hd.below hb0).more hb0.size) hlm)
 clear hI
 by_cases h1:zs.length≤40
 · cases hf:exFew l
   · have hfin:Hid (fewIn zs.length l sn rn=false):=K1 (by simp [fewIn,hf])
     go_enter Tryz.func130,Tryz.ntmps130
     go_wp2_with (go_at_call 153;refine C.out.mono ?_;rintro e w1 ⟨rfl,q,rfl⟩;rw [hf])
     go_ret
     exact ⟨ret_bool (by first | exact hfin.out.symm | (rw [hfin.out];simp;omega)),below_drewN hb0 _⟩
   by_cases h2:sn≤600
   · by_cases h3:rn≤2000
     · have hfin:Hid (fewIn zs.length l sn rn=true):=K1 (by simp [fewIn,hf,h1,h2,h3])
       go_enter Tryz.func130,Tryz.ntmps130
       go_wp2_with (go_at_call 153;refine C.out.mono ?_;rintro e w1 ⟨rfl,q,rfl⟩;rw [hf])
       go_ret
       exact ⟨ret_bool (by first | exact hfin.out.symm | (rw [hfin.out];simp;omega)),below_drewN hb0 _⟩
     · have hfin:Hid (fewIn zs.length l sn rn=false):=K1 (by simp [fewIn,h3])
       go_enter Tryz.func130,Tryz.ntmps130
       go_wp2_with (go_at_call 153;refine C.out.mono ?_;rintro e w1 ⟨rfl,q,rfl⟩;rw [hf])
       go_ret
       exact ⟨ret_bool (by first | exact hfin.out.symm | (rw [hfin.out];simp;omega)),below_drewN hb0 _⟩
   · have hfin:Hid (fewIn zs.length l sn rn=false):=K1 (by simp [fewIn,h2])
     go_enter Tryz.func130,Tryz.ntmps130
     go_wp2_with (go_at_call 153;refine C.out.mono ?_;rintro e w1 ⟨rfl,q,rfl⟩;rw [hf])
     go_ret
     exact ⟨ret_bool (by first | exact hfin.out.symm | (rw [hfin.out];simp;omega)),below_drewN hb0 _⟩
 · have hfin:Hid (fewIn zs.length l sn rn=false):=K1 (by simp [fewIn,h1])
   go_enter Tryz.func130,Tryz.ntmps130
   go_wp2
   go_ret
   exact ⟨ret_bool hfin.out.symm,hb0⟩
theorem Mem.cons_iff {W:World} {c:Ch} {L:List Ch}:Mem W (c::L)↔c.Holds W∧Mem W L∧∀ d∈L,(c.mut∨d.mut)→∀ g,c.fp g→¬ d.fp g:=by
 constructor
 · intro h
   refine ⟨h.holds 0 c rfl,⟨fun i d hi=>h.holds (i+1) d hi,fun i j d e hne hi hj=>h.sep (i+1) (j+1) d e (by omega) hi hj⟩,fun d hd hm g hg hg2=>?_⟩
   obtain ⟨i,hi⟩:=List.getElem?_of_mem hd
   rcases hm with hm | hm
   · exact h.sep 0 (i+1) c d (by omega) rfl hi hm g hg hg2
   · exact h.sep (i+1) 0 d c (by omega) hi rfl hm g hg2 hg
 · rintro ⟨hc,hL,hs⟩
   constructor
   · intro i d hi
     cases i with
     | zero=>simp at hi;subst hi;exact hc
     | succ i=>exact hL.holds i d hi
   · intro i j d e hne hi hj hm g hg hg2
     cases i <;> cases j
     · omega
     · simp at hi;subst hi;exact hs e (List.mem_of_getElem? hj) (.inl hm) g hg hg2
     · simp at hj;subst hj;exact hs d (List.mem_of_getElem? hi) (.inr hm) g hg2 hg
     · exact hL.sep _ _ d e (by omega) hi hj hm g hg hg2
theorem Mem.perm {W:World} {L L':List Ch} (h:Mem W L) (hp:L.Perm L'):Mem W L':=by
 induction hp with
 | nil=>exact h
 | cons x hp ih =>
   obtain ⟨h1,h2,h3⟩:=Mem.cons_iff.1 h
   exact Mem.cons_iff.2 ⟨h1,ih h2,fun d hd=>h3 d (hp.mem_iff.2 hd)⟩
 | swap x y l =>
   obtain ⟨h1,h2,h3⟩:=Mem.cons_iff.1 h
   obtain ⟨k1,k2,k3⟩:=Mem.cons_iff.1 h2
   refine Mem.cons_iff.2 ⟨k1,Mem.cons_iff.2 ⟨h1,k2,fun d hd=>h3 d (List.mem_cons_of_mem _ hd)⟩,fun d hd hm g hg hg2=>?_⟩
   rcases List.mem_cons.1 hd with rfl | hd
   · exact h3 x (List.mem_cons_self ..) hm.symm g hg2 hg
   · exact k3 d hd hm g hg hg2
 | trans _ _ ih1 ih2=>exact ih2 (ih1 h)
theorem splice_take {α:Type} (cur:List α) (N lo:Nat) (ys:List α) (hN:N≤cur.length) (hf:lo+ys.length≤N):(cur.take lo++(ys++cur.drop (lo+ys.length))).take N=splice (cur.take N) lo ys:=by
 have h1:(cur.take lo).length=lo:=by rw [List.length_take];omega
 have h2:ys.take (N-lo)=ys:=List.take_of_length_le (by omega)
 have h3:(cur.take lo).take N=cur.take lo:=by rw [List.take_take,Nat.min_eq_right (by omega)]
 have h4:(cur.take N).take lo=cur.take lo:=by rw [List.take_take,Nat.min_eq_left (by omega)]
 rw [List.take_append,List.take_append,h1,h2,h3,splice,h4,List.drop_take,Nat.sub_sub]
theorem Mem.spliceOwn {W:World} {L:List Ch} (h:Mem W L) {i base e N C g lo:Nat} {xs ys:List Value} (hi:L[i]?=some (.own base e 1 (.slice (some ⟨g,0,none⟩) N C) N xs)) (hfit:lo+ys.length≤N) :
  ∃ cur,W.heap[g]?=some (.cells cur e (0,0))∧lo+ys.length≤cur.size∧Mem (W.setRow g (cur.toList.take lo++(ys++cur.toList.drop (lo+ys.length))).toArray) (L.set i (.own base e 1 (.slice (some ⟨g,0,none⟩) N C) N (splice xs lo ys))):=by
 have ho:=h.own i hi
 obtain ⟨hx,ho2⟩:=ho
 rcases ho2 with ⟨hv,_⟩ | ⟨g',cap,cur,hv,hb,hh,hnc,hml,hcs,ht⟩
 · cases hv
 · injection hv with hA _ hC
   injection hA with hA
   injection hA with hg
   subst hg;subst hC
   have hsz:lo+ys.length≤cur.size:=by rw [hcs];omega
   refine ⟨cur,hh,hsz,?_⟩
   have hset:=setRow_heap W g cur (cur.toList.take lo++(ys++cur.toList.drop (lo+ys.length))).toArray e (0,0) hh
   refine h.grow hi ⟨rfl,rfl,rfl,by simp [World.setRow],fun k _ hne=>setRow_other W g k _ (fun e=>hne (by subst e;rfl))⟩ ⟨?_,.inr ⟨g,C,_,rfl,hb,hset,hnc,hml,?_,?_⟩⟩ (.inl rfl)
   · rw [length_splice _ _ _ (by rw [hx];omega)];exact hx
   · simp;omega
   · rw [← ht,Nat.mul_one] at hx ⊢
     exact splice_take _ _ _ _ (by rw [List.length_take] at hx;omega) hfit
theorem run_copy_mem {P:Program} {w:World} (dT sT ty elem:TypeId) (hu:P.underlying dT=some (.slice elem)) (hsz:(P.info? elem).map (·.size)=some 1)
  {L:List Ch} (HM:Mem w L) (k:Nat) {base N C g lo:Nat} {xs ys:List Value} (hk:L[k]?=some (.own base elem 1 (.slice (some ⟨g,0,none⟩) N C) N xs))
  (A:Option Addr) (m dC sC:Nat) (hr:Rd w w.heap.size A ys) (hl:ys.length=m) (hfit:lo+m≤N) (hm:0<m) (h1:∀ u∈ys,u.oneCell'=true) :
  ∃ w',(Builtin.copy_ #[dT,sT] ty #[.slice (some ⟨g,lo,none⟩) m dC,.slice A m sC]).run P w=.ok (goInt m) w'∧Mem w' (L.set k (.own base elem 1 (.slice (some ⟨g,0,none⟩) N C) N (splice xs lo ys))):=by
 subst hl
 obtain ⟨cur,hh,hsz2,hM⟩:=HM.spliceOwn hk hfit
 obtain ⟨b,off,rfl,_,hc⟩:=hr hm
 have hrun:=run_copy_row (P:=P) w dT sT ty elem g lo ys.length dC ⟨b,off,none⟩ ys.length sC cur elem ys hu hsz hh (by simp) (fun j v hv=>by rw [add_none];exact hc j v hv) hsz2 h1
 rw [List.append_assoc] at hrun
 exact ⟨_,hrun,hM⟩
theorem wpList_copy_mem {P:Program} {w:World} {ops:Array Oper} {rest:List Oper} {o:Oper} {a:Act} {Q:Exit→Act→World→Prop} (hgd:o.guard=none) (d s:Operand) (dT sT:TypeId)
  (ho:o.op=.call { callee:=.builtin .copy,args:=#[d,s],argTypes:=#[dT,sT] }) (elem:TypeId) (hu:P.underlying dT=some (.slice elem)) (hsz:(P.info? elem).map (·.size)=some 1)
  {L:List Ch} (HM:Mem w L) (k:Nat) {base N C g lo:Nat} {xs ys:List Value} (hk:L[k]?=some (.own base elem 1 (.slice (some ⟨g,0,none⟩) N C) N xs))
  (A:Option Addr) (m dC sC:Nat) (hd:a.eval d=.slice (some ⟨g,lo,none⟩) m dC) (hs:a.eval s=.slice A m sC) (hr:Rd w w.heap.size A ys) (hl:ys.length=m) (hfit:lo+m≤N) (hm:0<m) (h1:∀ u∈ys,u.oneCell'=true)
  (h:∀ w',Mem w' (L.set k (.own base elem 1 (.slice (some ⟨g,0,none⟩) N C) N (splice xs lo ys)))→wpList P ops Q rest (a.put o.dst (goInt m)) w'):wpList P ops Q (o::rest) a w:=by
 subst hl
 obtain ⟨cur,hh,hsz2,hM⟩:=HM.spliceOwn hk hfit
 obtain ⟨b,off,rfl,_,hc⟩:=hr hm
 refine wpList_copy_own hgd d s dT sT ho elem hu hsz g lo ys.length dC ⟨b,off,none⟩ ys.length sC hd hs cur elem hh ys (by simp) (fun j v hv=>by rw [add_none];exact hc j v hv) hsz2 h1 (h _ hM)
namespace Mem
variable {W W':World} {X R:List Ch}
theorem fA {c:Ch} (h:Mem W ((X++R)++[c])):Mem W ((X++[c])++R):=h.perm (by
 rw [List.append_assoc,List.append_assoc]
 exact List.Perm.append_left X List.perm_append_comm)
theorem fB {Y:List Ch} (h:Mem W ((X++R)++Y)):Mem W ((X++Y)++R):=h.perm (by
 rw [List.append_assoc,List.append_assoc]
 exact List.Perm.append_left X List.perm_append_comm)
theorem fS {i:Nat} {c d:Ch} (h:Mem W ((X++R).set i c)) (hi:X[i]?=some d):Mem W (X.set i c++R):=by
 rw [set_app hi] at h
 exact h
theorem fS2 {o i:Nat} {x y c d:Ch} (h:Mem W (two (X++R) o i x y)) (ho:X[o]?=some c) (hi:X[i]?=some d):Mem W ((X.set o x).set i y++R):=by
 unfold two at h
 rw [set_app ho] at h
 have hx:∃ e,(X.set o x)[i]?=some e:=get_some _ i (by rw [List.length_set];exact (List.getElem?_eq_some_iff.1 hi).1)
 obtain ⟨e,he⟩:=hx
 rw [set_app he] at h
 exact h
theorem sub_ {L L':List Ch} (h:Mem W L) (hs:L'.Sublist L):Mem W L':=by
 induction hs with
 | slnil=>exact h
 | cons a _ ih=>exact ih (cons_iff.1 h).2.1
 | cons_cons a hs ih =>
   obtain ⟨h1,h2,h3⟩:=cons_iff.1 h
   exact cons_iff.2 ⟨h1,ih h2,fun d hd=>h3 d (hs.subset hd)⟩
theorem mid {Y:List Ch} (h:Mem W ((X++Y)++R)):Mem W (X++R):=h.sub_ (by
 rw [List.append_assoc]
 exact List.Sublist.append_left (List.sublist_append_right Y R) X)
theorem swap {Y:List Ch} (h:Mem W (X++(Y++R))):Mem W (Y++(X++R)):=h.perm (by
 rw [← List.append_assoc,← List.append_assoc]
 exact List.Perm.append_right R List.perm_append_comm)
section
variable {L:List Ch} {g i:Nat} {t:TypeId}
theorem set2 {a0 a1:Value} (h:Mem W L) (hi:L[i]?=some (.obj g (.cells #[a0,a1] t (0,0)))) (v0 v1:Value) :
  Mem ((W.setCell ⟨g,0,none⟩ v0).setCell ⟨g,1,none⟩ v1) (L.set i (.obj g (.cells #[v0,v1] t (0,0)))):=by
 have h1:=(h.set (j:=0) hi v0).set (j:=1) (at_set hi) v1
 simp only [List.set_set] at h1
 exact h1
theorem set6 {a0 a1 a2 a3 a4 a5:Value} (h:Mem W L) (hi:L[i]?=some (.obj g (.cells #[a0,a1,a2,a3,a4,a5] t (0,0)))) (v0 v1 v2 v3 v4 v5:Value) :
  Mem ((((((W.setCell ⟨g,0,none⟩ v0).setCell ⟨g,1,none⟩ v1).setCell ⟨g,2,none⟩ v2).setCell ⟨g,3,none⟩ v3).setCell ⟨g,4,none⟩ v4).setCell ⟨g,5,none⟩ v5) (L.set i (.obj g (.cells #[v0,v1,v2,v3,v4,v5] t (0,0)))):=by
 have h1:=(h.set (j:=0) hi v0).set (j:=1) (at_set hi) v1
 have h2:=(h1.set (j:=2) (at_set (at_set hi)) v2).set (j:=3) (at_set (at_set (at_set hi))) v3
 have h3:=(h2.set (j:=4) (at_set (at_set (at_set (at_set hi)))) v4).set (j:=5) (at_set (at_set (at_set (at_set (at_set hi))))) v5
 simp only [List.set_set] at h3
 exact h3
theorem setOwn6 {base e size n cap k:Nat} {xs:List Value} (h:Mem W L) (hi:L[i]?=some (.own base e size (.slice (some ⟨g,0,none⟩) n cap) n xs)) (v0 v1 v2 v3 v4 v5:Value) :
  Mem ((((((W.setCell ⟨g,k,none⟩ v0).setCell ⟨g,k+1,none⟩ v1).setCell ⟨g,k+2,none⟩ v2).setCell ⟨g,k+3,none⟩ v3).setCell ⟨g,k+4,none⟩ v4).setCell ⟨g,k+5,none⟩ v5)
   (L.set i (.own base e size (.slice (some ⟨g,0,none⟩) n cap) n ((((((xs.set k v0).set (k+1) v1).set (k+2) v2).set (k+3) v3).set (k+4) v4).set (k+5) v5))):=by
 have h1:=(h.setOwn (j:=k) hi v0).setOwn (j:=k+1) (at_set hi) v1
 have h2:=(h1.setOwn (j:=k+2) (at_set (at_set hi)) v2).setOwn (j:=k+3) (at_set (at_set (at_set hi))) v3
 have h3:=(h2.setOwn (j:=k+4) (at_set (at_set (at_set (at_set hi)))) v4).setOwn (j:=k+5) (at_set (at_set (at_set (at_set (at_set hi))))) v5
 simp only [List.set_set] at h3
 exact h3
end
end Mem
end Go.Proofs.YtdpojpcoghcieaaGreat
