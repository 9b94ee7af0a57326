/- A part of the proof of TopTags: TopOpen. Conditions: none. -/
import Derived.Test.YtdpojpcoghcieaaGreatSxAP
set_option maxHeartbeats 8000000
set_option linter.all false
namespace Go.Proofs.YtdpojpcoghcieaaGreat
open Go.ChangeShapes Go.WideShapes Go.ChangeAt Go.RowKit Go.Deep
set_option maxRecDepth 100000
open Value renaming int → U
open IntKind renaming i64 → O
open List renaming getElem?_eq_getElem → ZI, getElem?_of_mem → ZJ, drop_length_add_append → ZK
section
theorem Fr {k:IntKind} {n:Int} (h:(Lit.int k n).wf=true):k.min<=n/\n<=k.max:=by
 simpa [Lit.wf] using h
theorem Tryz.own:ownKnob Tryz.prog.godebug=none:=by kernel_rfl
theorem Tryz.laidOut:laidOutB Tryz.prog=true:=by kernel_rfl
theorem Tryz.cellsInt:Tryz.prog.cellsOf 3=1:=by kernel_rfl
theorem Tryz.cellsInt64:Tryz.prog.cellsOf 2=1:=by kernel_rfl
theorem Xlt {H:Type} {enc:TypeId × Value->H} {P:Program} {w:World} {base:Nat} {spare:Nat->Bool} {held:Bool} {t:TypeId} {fs:Array Field} {fuel:Nat} {cs:List Value} {y:DataW H × List MemPlace} (hs:P.underlying t=some (.struct fs)) (hone:oneCellFields P fs=true) (hC:P.cellsOf t=fs.size)
  (h:DataW.trod enc P w base spare held fuel t cs=some y):cs.length=fs.size/\∀ (j:Nat) (f:Field),fs[j]?=some f->∃ (c:Value) (y:DataW H × List MemPlace) (n:Nat),cs[j]?=some c/\DataW.trod enc P w base spare held n f.type [c]=some y:=by
 obtain ⟨ys,n,_,hx,hlen,hyl,hg⟩:=DataW.trod_struct hs h;have hcl:cs.length=fs.size:=by rw [hlen,hC]
 refine ⟨hcl,fun j f hj=>?_⟩;obtain ⟨ho,hk⟩:=hone_of hone j f hj;have hjl:j<fs.size:=(Array.getElem?_eq_some_iff.1 hj).1;have h1:=hg j f hj;rw [ho,hk] at h1
 have hd:(cs.drop j).take 1=[cs[j]'(by omega)]:=by
  rw [List.drop_eq_getElem_cons (by omega)];rfl
 rw [hd,ZI (by omega)] at h1;exact ⟨_,_,n,ZI (by omega),h1⟩
theorem QV {H:Type} {enc:TypeId × Value->H} {w:World} {base:Nat} {spare:Nat->Bool} {held:Bool} {fuel:Nat} {cs:List Value} {y:DataW H × List MemPlace} (h:DataW.trod enc Tryz.prog w base spare held fuel 24 cs=some y) :
  ∃ (A:Option Addr) (zs:List Int) (cap:Nat) (sh ra mo wo ba mi st bu ch wi ca:Int),cs=[.slice A zs.length cap,U O sh,U O ra,U O mo,U O wo,U O ba,U O mi,U O st,U O bu,U O ch,U O wi,U O ca]/\zs.length<=cap/\zs.length<=9223372036854775807/\RdI w w.heap.size A zs/\(-9223372036854775808<=ra/\ra<=9223372036854775807)/\-9223372036854775808<=mo/\mo<=9223372036854775807:=by
 obtain ⟨hlen,hcs⟩:=Xlt Tryz.underlying24 (by kernel_rfl) (by kernel_rfl) h;obtain ⟨a0,a1,a2,a3,a4,a5,a6,a7,a8,a9,a10,a11,rfl⟩:=list12 (hlen.trans rfl);obtain ⟨c0,y0,n0,e0,t0⟩:=hcs 0 _ rfl;obtain ⟨A,zs,cap,rfl,hcap,hm,hr,_⟩:=Fa Tryz.underlying22 Tryz.underlying3 Tryz.cellsInt t0;obtain ⟨c1,y1,n1,e1,t1⟩:=hcs 1 _ rfl;obtain ⟨i1,g1,_,_⟩:=DataW.trod_int Tryz.underlying3 t1;obtain ⟨c2,y2,n2,e2,t2⟩:=hcs 2 _ rfl;obtain ⟨i2,g2,_,wf2⟩:=DataW.trod_int Tryz.underlying2 t2;obtain ⟨c3,y3,n3,e3,t3⟩:=hcs 3 _ rfl;obtain ⟨i3,g3,_,wf3⟩:=DataW.trod_int Tryz.underlying2 t3;obtain ⟨c4,y4,n4,e4,t4⟩:=hcs 4 _ rfl
 obtain ⟨i4,g4,_,_⟩:=DataW.trod_int Tryz.underlying3 t4;obtain ⟨c5,y5,n5,e5,t5⟩:=hcs 5 _ rfl;obtain ⟨i5,g5,_,_⟩:=DataW.trod_int Tryz.underlying3 t5;obtain ⟨c6,y6,n6,e6,t6⟩:=hcs 6 _ rfl;obtain ⟨i6,g6,_,_⟩:=DataW.trod_int Tryz.underlying3 t6;obtain ⟨c7,y7,n7,e7,t7⟩:=hcs 7 _ rfl;obtain ⟨i7,g7,_,_⟩:=DataW.trod_int Tryz.underlying3 t7;obtain ⟨c8,y8,n8,e8,t8⟩:=hcs 8 _ rfl;obtain ⟨i8,g8,_,_⟩:=DataW.trod_int Tryz.underlying3 t8;obtain ⟨c9,y9,n9,e9,t9⟩:=hcs 9 _ rfl;obtain ⟨i9,g9,_,_⟩:=DataW.trod_int Tryz.underlying3 t9;obtain ⟨c10,y10,n10,e10,t10⟩:=hcs 10 _ rfl
 obtain ⟨i10,g10,_,_⟩:=DataW.trod_int Tryz.underlying3 t10;obtain ⟨c11,y11,n11,e11,t11⟩:=hcs 11 _ rfl;obtain ⟨i11,g11,_,_⟩:=DataW.trod_int Tryz.underlying3 t11;simp at e0 e1 e2 e3 e4 e5 e6 e7 e8 e9 e10 e11 g1 g2 g3 g4 g5 g6 g7 g8 g9 g10 g11;subst e0 e1 e2 e3 e4 e5 e6 e7 e8 e9 e10 e11 g1 g2 g3 g4 g5 g6 g7 g8 g9 g10 g11;exact ⟨A,zs,cap,i1,i2,i3,i4,i5,i6,i7,i8,i9,i10,i11,rfl,hcap,hm,hr,Fr wf2,Fr wf3⟩
theorem Tryz.cellsEx:Tryz.prog.cellsOf 140=2:=by kernel_rfl
theorem Tryz.cellsIn:Tryz.prog.cellsOf 29=15:=by kernel_rfl
section
variable {H:Type} {enc:TypeId × Value->H} {w:World} {base:Nat} {spare:Nat->Bool} {held:Bool}
theorem QW {fuel:Nat} {cs:List Value} {y:DataW H × List MemPlace} (h:DataW.trod enc Tryz.prog w base spare held fuel 140 cs=some y):∃ e:Ex,cs=e.cells/\RdX w w.heap.size e/\In64 e.xs/\In64 e.ys:=by
 obtain ⟨hlen,hcs⟩:=Xlt Tryz.underlying140 (by kernel_rfl) (by kernel_rfl) h
 match cs,hlen with
 | [a0,a1],_ =>
   obtain ⟨c0,y0,n0,e0,t0⟩:=hcs 0 _ rfl;obtain ⟨c1,y1,n1,e1,t1⟩:=hcs 1 _ rfl;obtain ⟨A,zs,cap,rfl,hcap,hm,hr,q0⟩:=Fa Tryz.underlying26 Tryz.underlying2 Tryz.cellsInt64 t0;obtain ⟨B,zs',cap',rfl,hcap',hm',hr',q1⟩:=Fa Tryz.underlying26 Tryz.underlying2 Tryz.cellsInt64 t1;simp at e0 e1;subst e0 e1;exact ⟨⟨A,zs,cap,B,zs',cap'⟩,rfl,⟨hr,hr',hcap,hcap',hm,hm'⟩,fun z hz=>Fr (q0 z hz),fun z hz=>Fr (q1 z hz)⟩
theorem QZ {α:Type} (n:Nat) (p:Nat->α->Prop) (h:∀ i,i<n->∃ x,p i x):∃ l:List α,l.length=n/\∀ i x,l[i]?=some x->p i x:=by
 induction n with
 | zero=>exact ⟨[],rfl,by simp⟩
 | succ n ih =>
   obtain ⟨l,hl,hp⟩:=ih fun i hi=>h i (by omega)
   obtain ⟨x,hx⟩:=h n (by omega);refine ⟨l++[x],by simp [hl],fun i y hy=>?_⟩
   rcases Nat.lt_or_ge i n with hlt | hge
   . rw [List.getElem?_append_left (by omega)] at hy;exact hp i y hy
   . rw [List.getElem?_append_right (by omega)] at hy
     have:i=n:=by
      rcases Nat.lt_or_ge (i-l.length) 1 with h1 | h1
      . omega
      . rw [List.getElem?_eq_none (by simpa using h1)] at hy;cases hy
     subst this;simp [hl] at hy;subst hy;exact hx
theorem Ra {fuel:Nat} {c:Value} {y:DataW H × List MemPlace} (h:DataW.trod enc Tryz.prog w base spare held fuel 25 [c]=some y) :
  ∃ (A:Option Addr) (l:List Ex) (cap:Nat),c=.slice A l.length cap/\l.length<=cap/\l.length<=9223372036854775807/\RdE w w.heap.size A l/\∀ e∈l,In64 e.xs/\In64 e.ys:=by
 rcases open_slice Tryz.underlying25 h with ⟨hcs,hx⟩ | ⟨a,len,cap,m,n,D,Pl,hcs,hb,hl,hm,hmm,hx,hi⟩
 . injection hcs with hcs _
   exact ⟨none,[],0,hcs,by simp,by simp,⟨Rd.nil_ _ _ _,by simp⟩,by simp⟩
 . injection hcs with hcs _
   unfold maxLen at hm;have hlm:len<=m:=by rw [hmm];split <;> omega
   have hex:∀ i,i<len->∃ e:Ex,w.cell? (a.add (i*2))=some (.slice e.ax e.xs.length e.cx)/\w.cell? (a.add (i*2+1))=some (.slice e.ay e.ys.length e.cy)/\RdX w w.heap.size e/\In64 e.xs/\In64 e.ys:=fun i hil=>by
    obtain ⟨cs',hc,ht⟩:=hi i (by omega);rw [Tryz.cellsEx] at hc;obtain ⟨e,rfl,hX⟩:=QW ht;obtain ⟨_,_,hat⟩:=World.cells?_some hc;have h0:=hat 0 (by omega);have h1:=hat 1 (by omega);rw [Go.Deep.add_add] at h0 h1;exact ⟨e,h0.trans rfl,h1.trans rfl,hX⟩
   obtain ⟨l,hll,hpl⟩:=QZ len _ hex;refine ⟨some a,l,cap,by rw [hll];exact hcs,by omega,by omega,⟨fun h0=>?_,fun e he=>?_⟩,fun e he=>?_⟩
   . rw [Er] at h0;have hl0:0<l.length:=by omega
     obtain ⟨e0,he0⟩:=Au l 0 hl0;have c0:=(hpl 0 e0 he0).1;obtain ⟨b,off,spot⟩:=a
     have hsp:spot=none:=by
      cases spot with
      | none=>rfl
      | some s =>
        simp only [Nat.zero_mul,Addr.add,if_true,World.cell?] at c0
        split at c0 <;> simp at c0
     subst hsp;have hadd:∀ j,(⟨b,off,none⟩:Addr).add j=⟨b,off+j,none⟩:=fun j=>by unfold Addr.add;split <;> simp_all
     refine ⟨b,off,rfl,World.block_lt_of_cell? w _ (by simpa [Addr.add] using c0),fun j u hu=>?_⟩;have hj:j<2*l.length:=by rw [<- Er];exact (List.getElem?_eq_some_iff.1 hu).1
     obtain ⟨e,he⟩:=Au l (j / 2) (by omega);have hp:=hpl _ e he;have ha:=FL l _ e he;rw [hadd,hadd] at hp
     rcases Nat.mod_two_eq_zero_or_one j with hz | hz
     . have e2:2*(j / 2)=j:=by omega
       rw [e2] at ha;rw [show j / 2*2=j from by omega] at hp;rw [hp.1,<- hu,ha.1]
     . have e2:2*(j / 2)+1=j:=by omega
       rw [e2] at ha;rw [show j / 2*2+1=j from by omega] at hp;rw [hp.2.1,<- hu,ha.2]
   . obtain ⟨i,hi'⟩:=ZJ he;exact (hpl i e hi').2.2.1
   . obtain ⟨i,hi'⟩:=ZJ he;exact (hpl i e hi').2.2.2
end
theorem list15 {l:List Value} (h:l.length=15):∃ L a12 a13 a14,l=L++[a12,a13,a14]/\L.length=12:=by
 match l,h with
 | [a0,a1,a2,a3,a4,a5,a6,a7,a8,a9,a10,a11,a12,a13,a14],_=>exact ⟨[a0,a1,a2,a3,a4,a5,a6,a7,a8,a9,a10,a11],_,_,_,rfl,rfl⟩
theorem LU:∀ {zs:List Int},(∀ z∈zs,0<=z)->∃ ds:List Nat,zs=ds.map fun d:Nat=>(d:Int)
 | [],_=>⟨[],rfl⟩
 | z::r,h=>by
   obtain ⟨ds,rfl⟩:=LU (zs:=r) fun y hy=>h y (List.mem_cons_of_mem _ hy)
   have:=h z (List.mem_cons_self ..);exact ⟨z.toNat::ds,by simp;omega⟩
theorem Rb {H:Type} {enc:TypeId × Value->H} {w:World} {base:Nat} {spare:Nat->Bool} {held:Bool} {r:Reach} {b0:Nat} {v:Value} {d:DataW H} {p:List MemPlace} (hv:Value.okWide Tryz.prog w r b0 29 v) (h:DataW.Trod enc Tryz.prog w base spare held 29 v d p) :
  ∃ g:Gi,v=.agg g.cells.toArray/\g.At w:=by
 obtain ⟨cs,rfl,hsz⟩:=okWide_struct Tryz.underlying29 hv;obtain ⟨fuel,hf⟩:=h;obtain ⟨ys,n,_,hx,hlen,hyl,hg⟩:=DataW.trod_struct Tryz.underlying29 hf;have hc15:cs.toList.length=15:=by simpa [Tryz.cellsIn] using hsz
 obtain ⟨L,a12,a13,a14,hL,hL12⟩:=list15 hc15;have hcells:(Value.agg cs).cells.toList=L++[a12,a13,a14]:=hL;rw [hcells] at hg;have hys:ys.length=4:=hyl.trans rfl
 match ys,hys with
 | [y0,y1,y2,y3],_ =>
   have g0:DataW.trod enc Tryz.prog w base spare held n 24 (((L++[a12,a13,a14]).drop 0).take (Tryz.prog.cellsOf 24))=some y0:=hg 0 _ rfl;have g1:DataW.trod enc Tryz.prog w base spare held n 25 (((L++[a12,a13,a14]).drop 12).take (Tryz.prog.cellsOf 25))=some y1:=hg 1 _ rfl;have g2:DataW.trod enc Tryz.prog w base spare held n 26 (((L++[a12,a13,a14]).drop 13).take (Tryz.prog.cellsOf 26))=some y2:=hg 2 _ rfl;have g3:DataW.trod enc Tryz.prog w base spare held n 27 (((L++[a12,a13,a14]).drop 14).take (Tryz.prog.cellsOf 27))=some y3:=hg 3 _ rfl;have k0:Tryz.prog.cellsOf 24=12:=by kernel_rfl
   have k1:Tryz.prog.cellsOf 25=1:=by kernel_rfl
   have k2:Tryz.prog.cellsOf 26=1:=by kernel_rfl
   have k3:Tryz.prog.cellsOf 27=1:=by kernel_rfl
   rw [k0] at g0;rw [k1] at g1;rw [k2] at g2;rw [k3] at g3;have d0:((L++[a12,a13,a14]).drop 0).take 12=L:=by rw [List.drop_zero,List.take_append_of_le_length (by omega),List.take_of_length_le (by omega)]
   have d1:((L++[a12,a13,a14]).drop 12).take 1=[a12]:=by rw [List.drop_append_of_le_length (by omega),List.drop_of_length_le (by omega)];rfl
   have d2:((L++[a12,a13,a14]).drop 13).take 1=[a13]:=by rw [show 13=L.length+1 by omega,ZK];rfl
   have d3:((L++[a12,a13,a14]).drop 14).take 1=[a14]:=by rw [show 14=L.length+2 by omega,ZK];rfl
   rw [d0] at g0;rw [d1] at g1;rw [d2] at g2;rw [d3] at g3;obtain ⟨A,zs,cap,sh,ra,mo,wo,ba,mi,st,bu,ch,wi,ca,hA,hcap,hm,hr,hra,hmo⟩:=QV g0;obtain ⟨DA,l,dcap,hD,_,hlm,hd,hex⟩:=Ra g1;obtain ⟨SA,ss,scap,hS,hsc,hsm,hs,hsw⟩:=Fa Tryz.underlying26 Tryz.underlying2 Tryz.cellsInt64 g2;obtain ⟨RA,rs,rcap,hR,_,hrm,hrr,hrw⟩:=Fa Tryz.underlying27 Tryz.underlying141 (by kernel_rfl) g3;obtain ⟨ds,rfl⟩:=LU (zs:=rs) fun z hz=>(Fr (hrw z hz)).1
   refine ⟨⟨A,cap,zs,DA,dcap,l,SA,scap,ss,RA,rcap,ds,sh,ra,mo,wo,ba,mi,st,bu,ch,wi,ca⟩,?_,⟨hr,hcap,hm,hd,hlm,hex,hs,hsm,fun z hz=>Fr (hsw z hz),?_,by simpa using hrm,hra,hmo,hsc⟩⟩
   . rw [show cs=cs.toList.toArray by simp,hL,hA,hD,hS,hR];simp [Gi.cells]
   . rw [List.map_map] at hrr;exact hrr
end
end Go.Proofs.YtdpojpcoghcieaaGreat
