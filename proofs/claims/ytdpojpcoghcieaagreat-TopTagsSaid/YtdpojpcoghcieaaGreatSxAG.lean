/- A part of the proof of TopTags: RingSeg, RingSegment, RingAdd, ListAdd, Order, ConfRef, Draw. Conditions: none. -/
import Derived.Test.YtdpojpcoghcieaaGreatSxAC
set_option maxHeartbeats 8000000
set_option linter.all false
namespace Go.Proofs.YtdpojpcoghcieaaGreat
open Lib renaming hid → K1
open Go.RowKit
set_option maxRecDepth 100000
open Value renaming int → U, slice → Us
open IntKind renaming i64 → O
open Nat renaming le_refl → WI, mod_lt → WL
open Below renaming refl → WJ
open Bool renaming and_eq_true → WK
open List renaming take_succ_cons → WM, take_zero → WN, map_cons → WU, drop_succ_cons → WW
open Mem renaming setl → WO
open And renaming intro → WP
open Region renaming Mode → WQ, ready → WT, noSelect → WX
open IntWalk renaming i64_in → WV
section
structure Jb where
 step:Nat
 bucket:Nat
 lo:Nat
 hi:Nat
 workers:Nat
 chunk:Nat
def Jb.cells (j:Jb):List Value:=[U O j.step,U O j.bucket,U O j.lo,U O j.hi,U O j.workers,U O j.chunk]
def segS (k w ph r:Nat):Nat:=(w+ph+k-r) % k
def segR (k w ph r:Nat):Nat:=segS k ((w+k-1) % k) ph r
theorem GL {k w ph r:Nat} (hk:1<=k):segS k w ph r<k:=WL _ hk
theorem GN {k w ph r:Nat} (hk:1<=k):segR k w ph r<k:=WL _ hk
theorem IP (j:Jb) (z:Int) (m:Nat) (w:World) (hz:z=(m:Int)-j.workers) (hk:1<=j.workers/\j.workers<=1000) (hm:m<=10000) :
  Calls Tryz.prog 173 #[.agg j.cells.toArray,U O z] w fun e w'=>e=.returned (U O (m % j.workers:Nat))/\Below w.heap.size w w':=by
 obtain ⟨step,bucket,lo,hi,k,chunk⟩:=j;dsimp only at hz hk ⊢
 obtain ⟨q,hq⟩:∃ q:Nat,q=m % k:=⟨_,rfl⟩
 have hne:¬ ((k:Int)=0):=by omega
 have hk2:=hk.2;have hk1:=hk.1;rw [<- hq];have hB:=K1 ((WJ w.heap.size w).alloc (WI _) (.cells (Jb.cells ⟨step,bucket,lo,hi,k,chunk⟩).toArray 277));simp only [Jb.cells] at hB ⊢
 rcases Nat.lt_or_ge m k with hlt | hge
 . have e0:q=m:=by rw [hq];exact Nat.mod_eq_of_lt hlt
   rcases Nat.eq_zero_or_pos m with h0 | h0
   . have e1:z.tmod (k:Int)=0:=by rw [hz,h0,show ((0:Nat):Int)-k=- (k:Int) by omega,Int.neg_tmod,Int.tmod_self];rfl
     have HQ:=K1 (show (0:Int)=q by omega);clear hz hq e0;go_enter Tryz.func173,Tryz.ntmps173
     go_wp2
     go_ret;exact ⟨AN HQ.out,hB.out⟩
   . have e1:z.tmod (k:Int)=z:=by
      rw [show z=- (- z) by omega,Int.neg_tmod,Int.tmod_eq_of_lt (by omega) (by omega)]
     have hz1:z<0:=by omega
     have hz2:-10000<=z:=by omega
     have HQ:=K1 (show z+k=q by omega);clear hz hq e0;go_enter Tryz.func173,Tryz.ntmps173
     go_wp2
     go_ret;exact ⟨AN HQ.out,hB.out⟩
 . have e1:z.tmod (k:Int)=q:=by
    obtain ⟨d,hd⟩:∃ d:Nat,d=m-k:=⟨_,rfl⟩
    rw [hz,show (m:Int)-k=(d:Nat) by omega,hq,<- Int.ofNat_tmod]
    congr 1
    rw [show m=d+k by omega,Nat.add_mod_right]
   have hz1:0<=z:=by omega
   have hz2:z<=10000:=by omega
   have hq2:0<=(q:Int):=by omega
   clear hz hq;go_enter Tryz.func173,Tryz.ntmps173
   go_wp2
   go_ret;exact ⟨rfl,hB.out⟩
theorem K5 (j:Jb) (u r:Nat) (w:World) (hk:1<=j.workers/\j.workers<=1000) (hw:u<j.workers) (hr:r<j.workers) :
  Calls Tryz.prog 171 #[.agg j.cells.toArray,U O u,U O r] w fun e w'=>e=.returned (U O (segS j.workers u 0 r:Nat))/\Below w.heap.size w w':=by
 have C:=K1 (fun W=>IP j ((u:Int)-r) (u+0+j.workers-r) W (by omega) hk (by omega));have hB:=K1 ((WJ w.heap.size w).alloc (WI _) (.cells j.cells.toArray 277));obtain ⟨step,bucket,lo,hi,k,chunk⟩:=j;dsimp only [Jb.cells] at hk hw hr C hB ⊢;go_enter Tryz.func171,Tryz.ntmps171;go_wp2_with fail
 (with_reducible refine (C.out _).mono ?_)
 rintro e w1 ⟨rfl,hb⟩;have HB:=K1 (hB.out.trans (hb.mono (by simp)));clear hb;go_wp2_with fail;go_ret;exact ⟨rfl,HB.out⟩
theorem K6 (j:Jb) (u r:Nat) (w:World) (hk:1<=j.workers/\j.workers<=1000) (hw:u<j.workers) (hr:r<j.workers) :
  Calls Tryz.prog 172 #[.agg j.cells.toArray,U O u,U O r] w fun e w'=>e=.returned (U O (segS j.workers u 1 r:Nat))/\Below w.heap.size w w':=by
 have C:=K1 (fun W=>IP j ((u:Int)+1-r) (u+1+j.workers-r) W (by omega) hk (by omega));have hB:=K1 ((WJ w.heap.size w).alloc (WI _) (.cells j.cells.toArray 277));obtain ⟨step,bucket,lo,hi,k,chunk⟩:=j;dsimp only [Jb.cells] at hk hw hr C hB ⊢;go_enter Tryz.func172,Tryz.ntmps172;go_wp2_with fail
 (with_reducible refine (C.out _).mono ?_)
 rintro e w1 ⟨rfl,hb⟩;have HB:=K1 (hB.out.trans (hb.mono (by simp)));clear hb;go_wp2_with fail;go_ret;exact ⟨rfl,HB.out⟩
theorem of_0 (W:World):(Instr.index 288 (.agg #[.func (.func 171) #[] #[],.func (.func 172) #[] #[]]) (U O 0)).run Tryz.prog W=.ok (.func (.func 171) #[] #[]) W:=by kernel_rfl
theorem of_1 (W:World):(Instr.index 288 (.agg #[.func (.func 171) #[] #[],.func (.func 172) #[] #[]]) (U O 1)).run Tryz.prog W=.ok (.func (.func 172) #[] #[]) W:=by kernel_rfl
theorem O4 (j:Jb) (u ph r:Nat) (w:World) (hk:1<=j.workers/\j.workers<=1000) (hw:u<j.workers) (hr:r+1<j.workers) (hp:ph<=1) :
  Calls Tryz.prog 165 #[.agg j.cells.toArray,U O u,U O ph,U O r,.bool true] w fun e w'=>e=.returned (.tuple #[U O (segS j.workers u ph r:Nat),.bool true])/\Below w.heap.size w w':=by
 have hB:=K1 ((WJ w.heap.size w).alloc (WI _) (.cells j.cells.toArray 277));have C0:=K1 (fun W=>K5 j u r W hk hw (by omega));have C1:=K1 (fun W=>K6 j u r W hk hw (by omega));obtain ⟨step,bucket,lo,hi,k,chunk⟩:=j;dsimp only [Jb.cells] at hk hw hr hB C0 C1 ⊢;have hr2:¬ ((k:Int)-1<=r):=by omega
 have i0:=of_0;have i1:=of_1
 rcases (show ph=0\/ph=1 by omega) with rfl | rfl
 . go_enter Tryz.func165,Tryz.ntmps165;go_wp2_with fail
   (with_reducible refine (C0.out _).mono ?_)
   rintro e w1 ⟨rfl,hb⟩;have HB:=K1 (hB.out.trans (hb.mono (by simp)));clear hb;go_wp2_with fail
   go_ret2
   exact ⟨rfl,HB.out⟩
 . go_enter Tryz.func165,Tryz.ntmps165;go_wp2_with fail
   (with_reducible refine (C1.out _).mono ?_)
   rintro e w1 ⟨rfl,hb⟩;have HB:=K1 (hB.out.trans (hb.mono (by simp)));clear hb;go_wp2_with fail
   go_ret2
   exact ⟨rfl,HB.out⟩
theorem O5 (j:Jb) (u ph r:Nat) (w:World) (hk:1<=j.workers/\j.workers<=1000) (hw:u<j.workers) (hr:r+1<j.workers) (hp:ph<=1) :
  Calls Tryz.prog 165 #[.agg j.cells.toArray,U O u,U O ph,U O r,.bool false] w fun e w'=>e=.returned (.tuple #[U O (segR j.workers u ph r:Nat),.bool true])/\Below w.heap.size w w':=by
 have HM:=K1 ((Mem.start w).alloc (.cells j.cells.toArray 277)).drew;have CA:=K1 (fun W=>IP j ((u:Int)-1) (u+j.workers-1) W (by omega) hk (by omega));have hlt:(u+j.workers-1) % j.workers<j.workers:=WL _ (by omega);have C0:=K1 (fun W=>K5 j ((u+j.workers-1) % j.workers) r W hk hlt (by omega));have C1:=K1 (fun W=>K6 j ((u+j.workers-1) % j.workers) r W hk hlt (by omega));clear hlt;obtain ⟨step,bucket,lo,hi,k,chunk⟩:=j;dsimp only [Jb.cells] at hk hw hr HM C0 C1 CA ⊢;unfold segR;generalize (u+k-1) % k=x at *;have hr2:¬ ((k:Int)-1<=r):=by omega
 have ew:IntKind.i64.wrap ((u:Int)-1)=(u:Int)-1:=WV _ (by omega);have i0:=of_0;have i1:=of_1
 rcases (show ph=0\/ph=1 by omega) with rfl | rfl
 . go_enter Tryz.func165,Tryz.ntmps165;go_wp2_with fail
   go_region_held3 (fun w'=>∀ i,w'.cell? ⟨w.heap.size,i,none⟩=(#[U O step,U O bucket,U O lo,U O hi,U O k,U O chunk]:Array Value)[i]?)
    (exact fun i=>Ay (HM.out.obj 1 rfl) i)
    (first
     | (go_at_call 173
        (with_reducible refine (CA.out _).mono ?_)
        rintro e w1 ⟨rfl,hb⟩;replace HM:=K1 (HM.out.below hb)
        clear hb)
     | (go_at_call 171
        (with_reducible refine (C0.out _).mono ?_)
        rintro e w2 ⟨rfl,hb⟩;replace HM:=K1 (HM.out.below hb)
        clear hb))
   go_wp2_with fail
   go_ret2
   exact ⟨rfl,HM.out.bel 0 rfl⟩
 . go_enter Tryz.func165,Tryz.ntmps165;go_wp2_with fail
   go_region_held3 (fun w'=>∀ i,w'.cell? ⟨w.heap.size,i,none⟩=(#[U O step,U O bucket,U O lo,U O hi,U O k,U O chunk]:Array Value)[i]?)
    (exact fun i=>Ay (HM.out.obj 1 rfl) i)
    (first
     | (go_at_call 173
        (with_reducible refine (CA.out _).mono ?_)
        rintro e w1 ⟨rfl,hb⟩;replace HM:=K1 (HM.out.below hb)
        clear hb)
     | (go_at_call 172
        (with_reducible refine (C1.out _).mono ?_)
        rintro e w2 ⟨rfl,hb⟩;replace HM:=K1 (HM.out.below hb)
        clear hb))
   go_wp2_with fail
   go_ret2
   exact ⟨rfl,HM.out.bel 0 rfl⟩
theorem Mem.ranges {W:World} {L:List Ch} (h:Mem W L) (i:Nat) {A:Option Addr} {l:List (Nat × Nat)} (hi:L[i]?=some (.rd A (rcells l))) (h0:0<l.length) :
  ∃ b off,A=some ⟨b,off,none⟩/\∀ j p,l[j]?=some p->W.cell? ⟨b,off+j*2,none⟩=some (U O p.1)/\W.cell? ⟨b,off+j*2+1,none⟩=some (U O p.2):=by
 obtain ⟨b,off,e,_,hc⟩:=RdR.at_ (h.rd i hi) h0;exact ⟨b,off,e,hc⟩
theorem Mem.range2 {W:World} {L:List Ch} (h:Mem W L) (ix:Nat) {b off i x y:Nat} {l:List (Nat × Nat)} (hx:L[ix]?=some (.rd (some ⟨b,off,none⟩) (rcells l))) (hi:l[i]?=some (x,y)) :
  W.cell? ⟨b,off+i*2,none⟩=some (U O x)/\W.cell? ⟨b,off+i*2+1,none⟩=some (U O y) :=
 ⟨h.rdAt ix hx (Ed l i _ hi).1,by rw [Nat.add_assoc];exact h.rdAt ix hx (Ed l i _ hi).2⟩
def BS (j:Jb) (send:Bool) (ph r i:Nat) (p:Nat × Nat):Ac:=⟨send,!send && ph == 0,j.step,j.bucket,ph,r,i,p.1,p.2⟩
theorem O6 (w:World) (L:List Ch) (h:Mem w L) (j:Jb) (send:Bool) (ph r n i bj bp br bl base:Nat) (A F:Option Addr) (c cf:Nat) (acs:List Ac) (rs:List (Nat × Nat)) (x y:Nat) (ij ip ir il io ix:Nat)
  (hj:L[ij]?=some (.obj bj (.cells j.cells.toArray 277 (0,0)))) (hp:L[ip]?=some (.obj bp (.cells #[U O ph] 3 (0,0)))) (hr:L[ir]?=some (.obj br (.cells #[U O r] 3 (0,0))))
  (hl:L[il]?=some (.obj bl (.cells #[Us A acs.length c] 278 (0,0)))) (ho:L[io]?=some (.own base 144 9 (Us A acs.length c) acs.length (acells acs)))
  (hx:L[ix]?=some (.rd F (rcells rs))) (hn:n=rs.length) (hi:rs[i]?=some (x,y)) (hph:ph<=1) (hm:acs.length<=100000000) :
  Calls Tryz.prog 168 #[.bool send,U O i,Us F n cf,.pointer (some ⟨bj,0,none⟩),.pointer (some ⟨bp,0,none⟩),.pointer (some ⟨br,0,none⟩),.pointer (some ⟨bl,0,none⟩)] w fun e w'=>e=.returned (.tuple #[]) /\
   ∃ A' c',Mem w' ((L.set io (.own base 144 9 (Us A' (acs.length+1) c') (acs.length+1) (acells (acs++[BS j send ph r i (x,y)])))).set il (.obj bl (.cells #[Us A' (acs.length+1) c'] 278 (0,0)))):=by
 have hlt:=(List.getElem?_eq_some_iff.1 hi).1;obtain ⟨b,off,rfl,hc⟩:=h.ranges ix hx (by omega);have HX:=K1 hx;have HI:=K1 hi;obtain ⟨step,bucket,lo,hi',k,chunk⟩:=j;simp only [Jb.cells] at hj;have c0:=h.cell ij 0 hj rfl;have c1:=h.cell ij 1 hj rfl;have c2:=h.cell ip 0 hp rfl;have c3:=h.cell ir 0 hr rfl;have H0:=K1 h;have HL:=K1 hl;have HO:=K1 ho;have HP:=K1 hp;have HN:=K1 hm;clear h hl ho hp hr hj hx hm hc hi;subst hn;go_enter Tryz.func168,Tryz.ntmps168;go_wp2_with fail;refine A9 fun W hW=>?_;have HM:=K1 (H0.out.alloc_ hW.out);clear hW c0 c1 c2 c3;generalize hg:w.heap.size=g at *;clear hg
 cases send
 all_goals rcases (show ph=0\/ph=1 by omega) with rfl | rfl
 all_goals
  refine FJ 14 2 (fun W'=>W'.cell? ⟨bl,0,none⟩=some (Us A acs.length c)/\W'.cell? ⟨bp,0,none⟩=some (U O _)/\(∀ k,W'.cell? ⟨g,k,none⟩=([U O step,U O bucket,U O _,U O r,U O i]:List Value)[k]?)/\W'.cell? ⟨b,off+i*2,none⟩=some (U O x)/\W'.cell? ⟨b,off+i*2+1,none⟩=some (U O y))
   (by kernel_rfl) (by kernel_rfl) (by kernel_rfl) (by intro d v c a w h;cases d <;> exact h)
   ⟨HM.out.drew.cell il 0 (at_l HL.out) rfl,HM.out.drew.cell ip 0 (at_l HP.out) rfl,HM.out.drew.cells _ Bc,HM.out.drew.range2 ix (at_l HX.out) HI.out⟩ ?_
  apply Exists.intro;apply WP
  . intro W' hS;obtain ⟨s1,s2,s3,s4,s5⟩:=hS;simp only [WM,WN]
    repeat still_step
    exact wpStill_nil rfl
  simp only [WW,List.drop_zero,WM,WN];refine Spine.step ?_;go_wp2_with fail;refine FI fun W2 hW=>?_;have HM2:=K1 (HM.out.drew.alloc_ hW.out);clear hW;refine Behind.go ⟨HM2.out.cell il 0 (at_l (at_l HL.out)) rfl,HM2.out.cell ip 0 (at_l (at_l HP.out)) rfl,HM2.out.cells _ (at_l Bc),HM2.out.range2 ix (at_l (at_l HX.out)) HI.out⟩ (Spine.step ?_)
  go_wp2_with (at_builtin;refine AQ rfl _ _ 278 rfl HM2.out io NJ (at_l (at_l HO.out)) rfl _ 1 _ (Ac.cells ⟨_,_,step,bucket,_,r,i,x,y⟩) rfl (HM2.out.box _ Bc) rfl (DP _) (by have:=HN.out;omega) ?_;intro A' c' W3 hM3)
  have HM3:=K1 (WO hM3 (at_l HO.out));clear hM3 HM2;refine Behind.go ⟨HM3.out.cell il 0 (By (Dl HO.out HL.out (by simp)) (at_l HL.out)) rfl,HM3.out.cell ip 0 (By (Dl HO.out HP.out (by simp)) (at_l HP.out)) rfl,HM3.out.cells _ (By (Nat.ne_of_lt (List.getElem?_eq_some_iff.1 HO.out).1) Bc),HM3.out.range2 ix (By (Dl HO.out HX.out (by simp)) (at_l HX.out)) HI.out⟩ (Spine.nil_ ?_);have HM4:=K1 (WO HM3.out HO.out);clear HM3;have c1:W3.cell? ⟨bl,0,none⟩=some (Us A acs.length c):=HM4.out.cell il 0 (By (Dl HO.out HL.out (by simp)) HL.out) rfl
  have f1:W3.frozen? ⟨bl,0,none⟩=false:=HM4.out.frozen il 0 (By (Dl HO.out HL.out (by simp)) HL.out);have HF:=K1 (HM4.out.set (j:=0) (By (Dl HO.out HL.out (by simp)) HL.out) (Us A' (acs.length+1) c'))
  go_wp2
  go_end0
  refine ⟨rfl,A',c',?_⟩;rw [Eg];exact HF.out
theorem O7 (w:World) (send:Bool) (i n cf:Nat) (F:Option Addr) (bj bp br bl:Nat) (hi:n<=i) :
  Calls Tryz.prog 168 #[.bool send,U O i,Us F n cf,.pointer (some ⟨bj,0,none⟩),.pointer (some ⟨bp,0,none⟩),.pointer (some ⟨br,0,none⟩),.pointer (some ⟨bl,0,none⟩)] w fun e w'=>e=.returned (.tuple #[])/\w=w':=by
 have hlt:¬ (i<n):=by omega
 go_enter Tryz.func168,Tryz.ntmps168
 go_wp2
 go_end0
 exact ⟨rfl,rfl⟩
theorem O8 (w:World) (L:List Ch) (h:Mem w L) (j:Jb) (send:Bool) (ph r n i bj bp br bl base:Nat) (A F:Option Addr) (c cf:Nat) (acs acs':List Ac) (rs:List (Nat × Nat)) (ij ip ir il io ix:Nat)
  (hj:L[ij]?=some (.obj bj (.cells j.cells.toArray 277 (0,0)))) (hp:L[ip]?=some (.obj bp (.cells #[U O ph] 3 (0,0)))) (hr:L[ir]?=some (.obj br (.cells #[U O r] 3 (0,0))))
  (hl:L[il]?=some (.obj bl (.cells #[Us A acs.length c] 278 (0,0)))) (ho:L[io]?=some (.own base 144 9 (Us A acs.length c) acs.length (acells acs)))
  (hx:L[ix]?=some (.rd F (rcells rs))) (hn:n=rs.length) (hph:ph<=1) (hm:acs.length<=100000000) (he:acs'=acs++(rs[i]?.map (BS j send ph r i)).toList) :
  Calls Tryz.prog 168 #[.bool send,U O i,Us F n cf,.pointer (some ⟨bj,0,none⟩),.pointer (some ⟨bp,0,none⟩),.pointer (some ⟨br,0,none⟩),.pointer (some ⟨bl,0,none⟩)] w fun e w'=>e=.returned (.tuple #[]) /\
   ∃ A' c',Mem w' ((L.set io (.own base 144 9 (Us A' acs'.length c') acs'.length (acells acs'))).set il (.obj bl (.cells #[Us A' acs'.length c'] 278 (0,0)))):=by
 subst he
 cases hi:rs[i]? with
 | none =>
   refine (O7 w send i n cf F bj bp br bl (by have:=List.getElem?_eq_none_iff.1 hi;omega)).mono ?_;rintro e w' ⟨he,rfl⟩;refine ⟨he,A,c,?_⟩;rw [show acs++(Option.map (BS j send ph r i) none).toList=acs by simp,Dv ho,Dv hl];exact h
 | some p =>
   obtain ⟨x,y⟩:=p;refine (O6 w L h j send ph r n i bj bp br bl base A F c cf acs rs x y ij ip ir il io ix hj hp hr hl ho hx hn hi hph hm).mono ?_;rintro e w' ⟨he,A',c',h'⟩;refine ⟨he,A',c',?_⟩;rw [show (acs++(Option.map (BS j send ph r i) (some (x,y))).toList).length=acs.length+1 by simp];exact h'
theorem O9 (w:World) (L:List Ch) (h:Mem w L) (kind n step bl base:Nat) (x:Ac) (A:Option Addr) (c:Nat) (its:List It) (i o:Nat)
  (hi:L[i]?=some (.obj bl (.cells #[U O step,Us A its.length c] 258 (0,0)))) (ho:L[o]?=some (.own base 146 12 (Us A its.length c) its.length (icells its))) (hl:its.length<=1000000000) :
  Calls Tryz.prog 141 #[.pointer (some ⟨bl,0,none⟩),U O kind,U O n,.agg x.cells.toArray] w fun e w'=>e=.returned (.tuple #[])/\∃ A' c',Mem w' ((L.set o (.own base 146 12 (Us A' (its.length+1) c') (its.length+1) (icells (its++[⟨kind,step,n,x⟩])))).set i (.obj bl (.cells #[U O step,Us A' (its.length+1) c'] 258 (0,0)))):=by
 have H0:=K1 h;have HI:=K1 hi;have HO:=K1 ho;have HL:=K1 hl;clear h hi ho hl;simp only [Ac.cells];go_enter Tryz.func141,Tryz.ntmps141;go_wp2_with fail;refine A9 fun W hW=>?_;have HM:=K1 (H0.out.alloc_ hW.out);clear hW
 refine FJ 13 2 (fun W'=>W'.heap[bl]?=some (.cells #[U O step,Us A its.length c] 258 (0,0))/\W'.heap[w.heap.size]?=some (.cells #[.bool x.send,.bool x.add,U O x.step,U O x.bucket,U O x.phase,U O x.round,U O x.chunk,U O x.lo,U O x.hi] 144 (0,0)))
  (by kernel_rfl) (by kernel_rfl) (by kernel_rfl) (by intro d v c a w h;cases d <;> exact h) ⟨HM.out.drew.obj i (at_l HI.out),HM.out.drew.obj _ Bc⟩ ?_
 apply Exists.intro;apply WP
 . intro W' hS;obtain ⟨s1,s2⟩:=hS;have c1:=fun i=>Ay s1 i
   have c2:=fun i=>Ay s2 i
   clear s1 s2;simp only [WM,WN]
   repeat still_step
   exact wpStill_nil rfl
 simp only [WW,List.drop_zero,WM,WN];refine Spine.step ?_;go_wp2_with fail;refine FI fun W2 hW=>?_;have HM2:=K1 (HM.out.drew.alloc_ hW.out);clear hW HM;refine Behind.go ⟨HM2.out.obj i (at_l (at_l HI.out)),HM2.out.obj _ (at_l Bc)⟩ (Spine.step ?_)
 go_wp2_with (at_builtin;refine AQ rfl _ _ 166 rfl HM2.out o NK (at_l (at_l HO.out)) rfl _ 1 _ (It.cells ⟨kind,step,n,x⟩) rfl (HM2.out.box _ Bc) rfl (JZ _) (by have:=HL.out;omega) ?_;intro A' c' W3 hM3)
 have HM3:=K1 (WO hM3 (at_l HO.out));clear hM3 HM2;refine Behind.go ⟨HM3.out.obj i (By (Dl HO.out HI.out (by simp)) (at_l HI.out)),HM3.out.obj _ (By (Nat.ne_of_lt (List.getElem?_eq_some_iff.1 HO.out).1) Bc)⟩ (Spine.nil_ ?_);have HM4:=K1 (WO HM3.out HO.out);have HI4:=K1 (By (d:=.own base 146 12 (Us A' (its.length+1) c') (its.length+1) (icells its++(It.cells ⟨kind,step,n,x⟩))) (Dl HO.out HI.out (by simp)) HI.out);have c1:W3.cell? ⟨bl,1,none⟩=some (Us A its.length c):=HM4.out.cell i 1 HI4.out rfl;have f1:W3.frozen? ⟨bl,1,none⟩=false:=HM4.out.frozen i 1 HI4.out
 have HF:=K1 (HM4.out.set (j:=1) HI4.out (Us A' (its.length+1) c'));clear HM3
 go_wp2
 go_end0
 refine ⟨rfl,A',c',?_⟩;rw [JY];exact HF.out
section
variable {P:Program} {ops:Array Oper} {Q:Exit->Act->World->Prop} {md:WQ} {S:World->Prop} {t:Nat}
def Dy (md:WQ) (ops:Array Oper):List Nat->Array Bool->Array Bool × Bool
 | [],listed=>(listed,true)
 | k::r,listed=>let x:=Dy md ops r (listed.setIfInBounds k true)
   (x.1,(WT md ops listed).contains k && Region.free md ops listed k && x.2)
def seqI (md:WQ) (ops:Array Oper):List Nat->Array Bool->Array Bool × Bool
 | [],listed=>(listed,true)
 | k::r,listed=>let x:=seqI md ops r (listed.setIfInBounds k true)
   (x.1,decide (WT md ops listed=[k]) && x.2)
theorem AnyT.readsI_ (hsel:WX ops=true) (hQ:∀ d v c a w,Q (.panic c) (a.put d v) w->Q (.panic c) a w) {a':Act} {w:World} (hS:S w) (ht:ops.size<=t) :
  ∀ (is:List Nat) (l:List Oper) (fuel:Nat) (listed:Array Bool) (a:Act),is.map (fun i=>ops[i]?)=l.map some->(Dy md ops is listed).2=true->dstB a.tmps.size l=true ->
  (∀ W,S W->wpStill P ops W (fun x=>x=a') l a)->AnyT P md ops Q S t fuel (Dy md ops is listed).1 a' w->AnyT P md ops Q S t (l.length+fuel) listed a w
 | [],[],fuel,listed,a,_,_,_,hR,H=>by
   have:a=a':=hR w hS;subst this
   simpa [Dy] using H
 | [],_::_,_,_,_,hl,_,_,_,_=>by simp at hl
 | _::_,[],_,_,_,hl,_,_,_,_=>by simp at hl
 | k::is,o::l,fuel,listed,a,hl,hB,hD,hR,H=>by
   simp only [WU,List.cons.injEq] at hl;obtain ⟨h0,hl⟩:=hl;simp only [Dy,WK] at hB H;obtain ⟨⟨hr,hf⟩,hB'⟩:=hB;simp only [dstB,WK] at hD;obtain ⟨hd1,hd2⟩:=hD
   cases hod:o.dst with
   | none=>rw [hod] at hd1;cases hd1
   | some d =>
     rw [hod] at hd1;simp only [WK,decide_eq_true_eq,List.all_eq_true,bne_iff_ne,ne_eq] at hd1
     have get:∀ W,S W->∃ v,YieldsAt P ops W o v a/\wpStill P ops W (fun x=>x=a') l (a.put o.dst v)/\a'.tmps[d]?=some v:=fun W hW=>by
      have hst:stOp P ops W k (wpStill P ops W (fun x=>x=a') l) a:=by unfold stOp;simp only [h0];exact hR W hW
      obtain ⟨v,hy,hK⟩:=yieldsAt_of_stOp h0 hst;refine ⟨v,hy,hK,?_⟩;rw [(GI d l _ (fun o' ho'=>hd1.2 o' ho') hK).1,hod];simp [Act.put,hd1.1]
     obtain ⟨v,hy,hK,hv⟩:=get w hS
     have hYA:YA P ops S o v a:=fun W hW=>by
      obtain ⟨u,hyu,_,hu⟩:=get W hW;rw [hv] at hu;injection hu with hu
      subst hu;exact hyu
     have hsz:(a.put o.dst v).tmps.size=a.tmps.size:=by rw [hod];simp [Act.put]
     rw [show (o::l).length+fuel=(l.length+fuel)+1 by simp;omega];refine AnyT.first h0 (Region.noSelect_spec hsel) (hQ _ _) (fun j hj hjs=>by omega) _ _ _ _ (Region.free_spec h0 hf) (by simpa using hr) hYA hS ?_;refine AnyT.readsI_ hsel hQ hS ht is l fuel _ _ hl hB' (by rw [hsz];exact hd2) (fun W hW=>?_) H;obtain ⟨u,hyu,hKu,hu⟩:=get W hW;rw [hv] at hu;injection hu with hu
     subst hu;exact hKu
theorem AnyT.spineI {rest:List Oper} {fuel:Nat}:∀ (ms:List Nat) (l:List Oper) (listed:Array Bool) (a:Act) (w:World),ms.map (fun i=>ops[i]?)=l.map some->(seqI md ops ms listed).2=true ->
  (∀ a w,wpList P ops Q rest a w->AnyT P md ops Q S t fuel (seqI md ops ms listed).1 a w)->Spine P ops Q S rest l a w->AnyT P md ops Q S t (l.length+fuel) listed a w
 | [],[],listed,a,w,_,_,H,h=>by simpa [seqI] using H a w h
 | [],_::_,_,_,_,hl,_,_,_=>by simp at hl
 | _::_,[],_,_,_,hl,_,_,_=>by simp at hl
 | k::ms,o::l,listed,a,w,hl,hB,H,h=>by
   simp only [WU,List.cons.injEq] at hl;obtain ⟨h0,hl⟩:=hl;simp only [seqI,WK,decide_eq_true_eq] at hB H;rw [show (o::l).length+fuel=(l.length+fuel)+1 by simp;omega];refine ⟨fun h1=>(by rw [hB.1] at h1;cases h1),fun i hi=>?_⟩;rw [hB.1] at hi;obtain rfl:i=k:=by simpa using hi
   refine wpOp_mono (fun a' w' h'=>⟨fun _=>h'.1,AnyT.spineI ms l _ a' w' hl hB.2 H h'.2⟩) (?_:Go.wpOp P ops Q i (fun a' w'=>S w'/\Spine P ops Q S rest l a' w') a w);refine Ki h0 (?_:wpList P ops (Behind P ops Q S rest l) [o] a w)
   have e:(Behind P ops Q S rest l)=(fun e a' w'=>match e with | .normal=>S w'/\Spine P ops Q S rest l a' w' | e=>Q e a' w'):=by
    funext e a' w'
    cases e <;> rfl
   rw [e];exact h
def FP (ops:Array Oper) (is ms:List Nat):Bool :=
 let r:=Dy .any ops is (Array.replicate ops.size false)
 let s:=seqI .any ops ms r.1
 WX ops && r.2 && s.2 && (WT .any ops s.1).isEmpty && decide (is.length+ms.length=ops.size)
theorem OA {id:Nat} {a:Act} {w:World} {l:List Oper} (is ms:List Nat) (li lm:List Oper) (S:World->Prop) (hm:P.follows .mixedOrders=true) (hB:FP l.toArray is ms=true) (hD:dstB a.tmps.size li=true)
  (hi:is.map (fun i=>l[i]?)=li.map some) (hms:ms.map (fun i=>l[i]?)=lm.map some)
  (hQ:∀ d v c a w,Q (.panic c) (a.put d v) w->Q (.panic c) a w) (hS:S w.drew)
  (hRT:∃ a',(∀ W,S W->wpStill P l.toArray W (fun x=>x=a') li a)/\Spine P l.toArray Q S [] lm a' w.drew):(Code.region id l.toArray true).wp P Q a w:=by
 obtain ⟨a',hR,hT⟩:=hRT;simp only [FP,WK,decide_eq_true_eq] at hB;obtain ⟨⟨⟨⟨hsel,h1⟩,h2⟩,h3⟩,h4⟩:=hB;have e1:li.length=is.length:=by have:=congrArg List.length hi;simpa using this.symm
 have e2:lm.length=ms.length:=by have:=congrArg List.length hms;simpa using this.symm
 refine wp_region_any hm ?_
 have H:AnyT P .any l.toArray Q S l.toArray.size (li.length+(lm.length+0)) (Array.replicate l.toArray.size false) a w.drew:=by
  refine AnyT.readsI_ hsel hQ (a':=a') hS (WI _) is li _ _ a (by simpa using hi) h1 hD hR ?_;exact AnyT.spineI (rest:=[]) ms lm _ a' _ (by simpa using hms) h2 (fun a w h=>⟨by simpa using h3,h⟩) hT
 rw [show li.length+(lm.length+0)=l.toArray.size by rw [e1,e2];simpa using h4] at H;exact AnyT.any _ _ _ _ H
def AW (l:List Oper) (is:List Nat):List Oper:=is.filterMap fun i=>l[i]?
theorem Fc {l:List Oper}:∀ {is:List Nat},is.all (fun i=>decide (i<l.length))=true->is.map (fun i=>l[i]?)=(AW l is).map some
 | [],_=>rfl
 | i::r,h=>by
   simp only [List.all_cons,WK,decide_eq_true_eq] at h;obtain ⟨o,ho⟩:=Au l i h.1;have ih:=Fc h.2;unfold AW at ih ⊢;rw [WU,List.filterMap_cons,ho,ih];rfl
theorem K7 {id:Nat} {a:Act} {w:World} {l:List Oper} (is ms:List Nat) (S:World->Prop) (hm:P.follows .mixedOrders=true) (hB:FP l.toArray is ms=true)
  (hI:(is++ms).all (fun i=>decide (i<l.length))=true) (hD:dstB a.tmps.size (AW l is)=true)
  (hQ:∀ d v c a w,Q (.panic c) (a.put d v) w->Q (.panic c) a w) (hS:S w.drew)
  (hRT:∃ a',(∀ W,S W->wpStill P l.toArray W (fun x=>x=a') (AW l is) a)/\Spine P l.toArray Q S [] (AW l ms) a' w.drew):(Code.region id l.toArray true).wp P Q a w:=by
 rw [List.all_append,WK] at hI;exact OA is ms _ _ S hm hB hD (Fc hI.1) (Fc hI.2) hQ hS hRT
end
end
section
def Et (w:World) (k:Int) (e:Ending) (w':World):Prop:=e=.returned (U O k)/\Below w.heap.size w w'
def five (c:Cf):List Int:=[c.mi,c.bu,c.ch,c.wi,c.ca]
theorem Bz {x a b:Int} (h:betw x a b=true):a<=x/\x<=b:=by simpa [betw] using h
theorem FQ {x a b:Int} (h:betw x a b=false):x<a\/b<x:=by
 unfold betw at h;rw [decide_eq_false_iff_not] at h;omega
theorem K8 (c:Cf) (h:(five c).all okSz=true) (h0:0<=c.st) (h1:c.st<=1048576):BL c=true:=by
 simp [five] at h
 have hs:c.st=0\/okSz c.st=true:=by
  by_cases e:c.st=0
  . exact .inl e
  . exact .inr (Di.2 (by omega))
 simp [BL,h,hs]
theorem OB (c:Cf) (h:(five c).all okSz=false):BL c=false:=by
 simp only [five,List.all_cons,List.all_nil,Bool.and_true] at h;rw [BL]
 revert h
 cases okSz c.mi <;> cases okSz c.bu <;> cases okSz c.ch <;> cases okSz c.wi <;> cases okSz c.ca <;> simp
theorem K9 (c:Cf) (h:c.st<0\/1048576<c.st):BL c=false:=by
 have h1:decide (c.st=0)=false:=by simp;omega
 have h2:okSz c.st=false:=IA.2 (by omega);rw [BL,h1,h2];simp
theorem OC (c:Cf) (s:Int):∀ (k:Nat) (z:Int),(five c)[k]?=some z->(#[U O c.mi,U O c.bu,U O c.ch,U O c.wi,U O c.ca,U O s]:Array Value)[k]?=some (U O z)
 | 0,_,h | 1,_,h | 2,_,h | 3,_,h | 4,_,h=>by simp [five] at h;subst h;rfl
 | _+5,_,h=>by simp [five] at h
theorem OD (A:Option Addr) (cap:Nat) (zs:List Int) (c:Cf) (w:World) (h1:betw c.wo 1 64=false) :
  Calls Tryz.prog 52 #[B7 A zs.length cap c] w (Et w (AT zs c)):=by
 obtain ⟨sh,ra,mo,wo,ba,mi,st,bu,ch,wi,ca⟩:=c;dsimp only [B7];dsimp only at h1;have hfin:=K1 (code6 (zs:=zs) (c:=⟨sh,ra,mo,wo,ba,mi,st,bu,ch,wi,ca⟩) (by have:=FQ h1;dsimp only;omega));go_enter Tryz.func52,Tryz.ntmps52
 go_wp2_with (go_at_call 53;refine (C9 _ _ _ _).mono ?_;rintro e w' ⟨rfl,rfl⟩)
 go_ret;exact ⟨AN hfin.out.symm,(WJ _ _).alloc (WI _) _⟩
theorem OE (A:Option Addr) (cap:Nat) (zs:List Int) (c:Cf) (w:World) (h1:betw c.wo 1 64=true) (h2:betw c.sh 1 62=false) :
  Calls Tryz.prog 52 #[B7 A zs.length cap c] w (Et w (AT zs c)):=by
 obtain ⟨sh,ra,mo,wo,ba,mi,st,bu,ch,wi,ca⟩:=c;dsimp only [B7];dsimp only at h1 h2;have hfin:=K1 (code9 (zs:=zs) (c:=⟨sh,ra,mo,wo,ba,mi,st,bu,ch,wi,ca⟩) (by have:=Bz h1;dsimp only;omega) (by have:=Bz h1;dsimp only;omega) (by have:=FQ h2;dsimp only;omega));go_enter Tryz.func52,Tryz.ntmps52
 go_wp2_with (go_at_call 53;refine (C9 _ _ _ _).mono ?_;rintro e w' ⟨rfl,rfl⟩)
 go_ret;exact ⟨AN hfin.out.symm,(WJ _ _).alloc (WI _) _⟩
theorem OF (A:Option Addr) (cap:Nat) (zs:List Int) (c:Cf) (w:World) (hr:RdI w w.heap.size A zs) (hm:zs.length<=9223372036854775807) (h1:betw c.wo 1 64=true) (h2:betw c.sh 1 62=true) (h3:AV zs≠0) :
  Calls Tryz.prog 52 #[B7 A zs.length cap c] w (Et w (AT zs c)):=by
 obtain ⟨sh,ra,mo,wo,ba,mi,st,bu,ch,wi,ca⟩:=c;dsimp only [B7];dsimp only at h1 h2;have hfin:=K1 (Kg (zs:=zs) (c:=⟨sh,ra,mo,wo,ba,mi,st,bu,ch,wi,ca⟩) (by have:=Bz h1;dsimp only;omega) (by have:=Bz h1;dsimp only;omega) (by have:=Bz h2;dsimp only;omega) (by have:=Bz h2;dsimp only;omega) h3)
 have hr1:RdI (w.alloc (.cells #[Us A zs.length cap,U O sh,U O ra,U O mo,U O wo,U O ba,U O mi,U O st,U O bu,U O ch,U O wi,U O ca] 24)) (w.alloc (.cells #[Us A zs.length cap,U O sh,U O ra,U O mo,U O wo,U O ba,U O mi,U O st,U O bu,U O ch,U O wi,U O ca] 24)).heap.size A zs :=
  (hr.alloc (WI _) _).more (by simp)
 have C:=K1 (GH A cap zs _ hr1 hm);clear hr1;have h0:(AV zs != 0)=true:=by simpa using h3
 generalize AV zs=k at *;go_enter Tryz.func52,Tryz.ntmps52
 go_wp2_with (first | (go_at_call 53;refine (C9 _ _ _ _).mono ?_;rintro e w' ⟨rfl,rfl⟩) | (go_at_call 89;refine C.out.mono ?_;rintro e w1 ⟨rfl,n1,rfl⟩))
 go_ret;exact ⟨AN hfin.out.symm,B6 ((WJ _ _).alloc (WI _) _) _⟩
theorem OG (A:Option Addr) (cap:Nat) (zs:List Int) (c:Cf) (w:World) (hr:RdI w w.heap.size A zs) (hm:zs.length<=9223372036854775807) (h1:betw c.wo 1 64=true) (h2:betw c.sh 1 62=true) (h3:AV zs=0) (h4:c.st<0) :
  Calls Tryz.prog 52 #[B7 A zs.length cap c] w (Et w (AT zs c)):=by
 obtain ⟨sh,ra,mo,wo,ba,mi,st,bu,ch,wi,ca⟩:=c;dsimp only [B7];dsimp only at h1 h2 h4;have hfin:=K1 (code2 (zs:=zs) (c:=⟨sh,ra,mo,wo,ba,mi,st,bu,ch,wi,ca⟩) (by have:=Bz h1;dsimp only;omega) (by have:=Bz h1;dsimp only;omega) (by have:=Bz h2;dsimp only;omega) (by have:=Bz h2;dsimp only;omega) h3 (K9 _ (by dsimp only;omega)))
 have hr1:RdI (w.alloc (.cells #[Us A zs.length cap,U O sh,U O ra,U O mo,U O wo,U O ba,U O mi,U O st,U O bu,U O ch,U O wi,U O ca] 24)) (w.alloc (.cells #[Us A zs.length cap,U O sh,U O ra,U O mo,U O wo,U O ba,U O mi,U O st,U O bu,U O ch,U O wi,U O ca] 24)).heap.size A zs :=
  (hr.alloc (WI _) _).more (by simp)
 have C:=K1 (GH A cap zs _ hr1 hm);clear hr1;have H3:=K1 h3;clear h3;go_enter Tryz.func52,Tryz.ntmps52
 go_wp2_with (first | (go_at_call 53;refine (C9 _ _ _ _).mono ?_;rintro e w' ⟨rfl,rfl⟩) | (go_at_call 89;refine C.out.mono ?_;rintro e w1 ⟨rfl,n1,rfl⟩;rw [H3.out]))
 go_ret;exact ⟨AN hfin.out.symm,B6 (((WJ _ _).alloc (WI _) _).alloc (by simp) _) _⟩
theorem OH (A:Option Addr) (cap:Nat) (zs:List Int) (c:Cf) (w:World) (hr:RdI w w.heap.size A zs) (hm:zs.length<=9223372036854775807) (h1:betw c.wo 1 64=true) (h2:betw c.sh 1 62=true) (h3:AV zs=0) (h4:¬ c.st<0) (h5:1048576<c.st) :
  Calls Tryz.prog 52 #[B7 A zs.length cap c] w (Et w (AT zs c)):=by
 obtain ⟨sh,ra,mo,wo,ba,mi,st,bu,ch,wi,ca⟩:=c;dsimp only [B7];dsimp only at h1 h2 h4 h5;have hfin:=K1 (code2 (zs:=zs) (c:=⟨sh,ra,mo,wo,ba,mi,st,bu,ch,wi,ca⟩) (by have:=Bz h1;dsimp only;omega) (by have:=Bz h1;dsimp only;omega) (by have:=Bz h2;dsimp only;omega) (by have:=Bz h2;dsimp only;omega) h3 (K9 _ (by dsimp only;omega)))
 have hr1:RdI (w.alloc (.cells #[Us A zs.length cap,U O sh,U O ra,U O mo,U O wo,U O ba,U O mi,U O st,U O bu,U O ch,U O wi,U O ca] 24)) (w.alloc (.cells #[Us A zs.length cap,U O sh,U O ra,U O mo,U O wo,U O ba,U O mi,U O st,U O bu,U O ch,U O wi,U O ca] 24)).heap.size A zs :=
  (hr.alloc (WI _) _).more (by simp)
 have C:=K1 (GH A cap zs _ hr1 hm);clear hr1;have H3:=K1 h3;clear h3;go_enter Tryz.func52,Tryz.ntmps52
 go_wp2_with (first | (go_at_call 53;refine (C9 _ _ _ _).mono ?_;rintro e w' ⟨rfl,rfl⟩) | (go_at_call 89;refine C.out.mono ?_;rintro e w1 ⟨rfl,n1,rfl⟩;rw [H3.out]))
 go_ret;exact ⟨AN hfin.out.symm,B6 (((WJ _ _).alloc (WI _) _).alloc (by simp) _) _⟩
theorem OI (A:Option Addr) (cap:Nat) (zs:List Int) (c:Cf) (w:World) (hr:RdI w w.heap.size A zs) (hm:zs.length<=9223372036854775807) (h1:betw c.wo 1 64=true) (h2:betw c.sh 1 62=true) (h3:AV zs=0) (h4:¬ c.st<0) (h5:¬ 1048576<c.st) :
  Calls Tryz.prog 52 #[B7 A zs.length cap c] w (Et w (AT zs c)):=by
 obtain ⟨sh,ra,mo,wo,ba,mi,st,bu,ch,wi,ca⟩:=c;dsimp only [B7];dsimp only at h1 h2 h4 h5;have f2:Hid ((five ⟨sh,ra,mo,wo,ba,mi,st,bu,ch,wi,ca⟩).all okSz=false->AT zs ⟨sh,ra,mo,wo,ba,mi,st,bu,ch,wi,ca⟩=2):=K1 fun hb=>code2 (zs:=zs) (c:=⟨sh,ra,mo,wo,ba,mi,st,bu,ch,wi,ca⟩) (by have:=Bz h1;dsimp only;omega) (by have:=Bz h1;dsimp only;omega) (by have:=Bz h2;dsimp only;omega) (by have:=Bz h2;dsimp only;omega) h3 (OB _ hb)
 have f7:Hid ((five ⟨sh,ra,mo,wo,ba,mi,st,bu,ch,wi,ca⟩).all okSz=true->betw ba wo 1048576=false->AT zs ⟨sh,ra,mo,wo,ba,mi,st,bu,ch,wi,ca⟩=7) :=
  K1 fun hb h6=>code7 (zs:=zs) (c:=⟨sh,ra,mo,wo,ba,mi,st,bu,ch,wi,ca⟩) (by have:=Bz h1;dsimp only;omega) (by have:=Bz h1;dsimp only;omega) (by have:=Bz h2;dsimp only;omega) (by have:=Bz h2;dsimp only;omega) h3 (K8 _ hb (by dsimp only;omega) (by dsimp only;omega)) (by have:=FQ h6;dsimp only;omega)
 have f0:Hid ((five ⟨sh,ra,mo,wo,ba,mi,st,bu,ch,wi,ca⟩).all okSz=true->betw ba wo 1048576=true->AT zs ⟨sh,ra,mo,wo,ba,mi,st,bu,ch,wi,ca⟩=0) :=
  K1 fun hb h6=>code0 (zs:=zs) (c:=⟨sh,ra,mo,wo,ba,mi,st,bu,ch,wi,ca⟩) (by have:=Bz h1;dsimp only;omega) (by have:=Bz h1;dsimp only;omega) (by have:=Bz h2;dsimp only;omega) (by have:=Bz h2;dsimp only;omega) h3 (K8 _ hb (by dsimp only;omega) (by dsimp only;omega)) (by have:=Bz h6;dsimp only;omega) (by have:=Bz h6;dsimp only;omega)
 have hr1:RdI (w.alloc (.cells #[Us A zs.length cap,U O sh,U O ra,U O mo,U O wo,U O ba,U O mi,U O st,U O bu,U O ch,U O wi,U O ca] 24)) (w.alloc (.cells #[Us A zs.length cap,U O sh,U O ra,U O mo,U O wo,U O ba,U O mi,U O st,U O bu,U O ch,U O wi,U O ca] 24)).heap.size A zs :=
  (hr.alloc (WI _) _).more (by simp)
 have C:=K1 (GH A cap zs _ hr1 hm);clear hr1;have H3:=K1 h3;clear h3;go_enter Tryz.func52,Tryz.ntmps52
 go_wp2_with (first | (go_at_call 53;refine (C9 _ _ _ _).mono ?_;rintro e w' ⟨rfl,rfl⟩) | (go_at_call 89;refine C.out.mono ?_;rintro e w1 ⟨rfl,n1,rfl⟩;rw [H3.out]))
 have hX:=Ct (w:=(w.alloc (.cells #[Us A zs.length cap,U O sh,U O ra,U O mo,U O wo,U O ba,U O mi,U O st,U O bu,U O ch,U O wi,U O ca] 24)).drewN n1) (heap_alloc_new w (.cells #[Us A zs.length cap,U O sh,U O ra,U O mo,U O wo,U O ba,U O mi,U O st,U O bu,U O ch,U O wi,U O ca] 24)) (.cells #[U O mi,U O bu,U O ch,U O wi,U O ca,U O (st+1)] 3);have hL:=heap_alloc_new ((w.alloc (.cells #[Us A zs.length cap,U O sh,U O ra,U O mo,U O wo,U O ba,U O mi,U O st,U O bu,U O ch,U O wi,U O ca] 24)).drewN n1) (.cells #[U O mi,U O bu,U O ch,U O wi,U O ca,U O (st+1)] 3)
 have hB:Below w.heap.size w (((w.alloc (.cells #[Us A zs.length cap,U O sh,U O ra,U O mo,U O wo,U O ba,U O mi,U O st,U O bu,U O ch,U O wi,U O ca] 24)).drewN n1).alloc (.cells #[U O mi,U O bu,U O ch,U O wi,U O ca,U O (st+1)] 3)):=(B6 ((WJ _ _).alloc (WI _) _) _).alloc (by simp) _;rw [show ((w.alloc (.cells #[Us A zs.length cap,U O sh,U O ra,U O mo,U O wo,U O ba,U O mi,U O st,U O bu,U O ch,U O wi,U O ca] 24)).drewN n1).heap.size=w.heap.size+1 from World.size_alloc _ _] at hL
 generalize ((w.alloc (.cells #[Us A zs.length cap,U O sh,U O ra,U O mo,U O wo,U O ba,U O mi,U O st,U O bu,U O ch,U O wi,U O ca] 24)).drewN n1).alloc (.cells #[U O mi,U O bu,U O ch,U O wi,U O ca,U O (st+1)] 3)=W at *;have HL:=K1 hL;have c4:W.cell? ⟨w.heap.size,4,none⟩=some (U O wo):=Ay hX 4;have c5:W.cell? ⟨w.heap.size,5,none⟩=some (U O ba):=Ay hX 5;clear hL hX
 go_loop [5] (fun i=>∃ k:Nat,k<=5/\i=U O k/\Hid (((five ⟨sh,ra,mo,wo,ba,mi,st,bu,ch,wi,ca⟩).take k).all okSz=true)) (fun i=>5-(intOf i).toNat)
 case atStart=>exact ⟨0,Nat.zero_le _,rfl,K1 rfl⟩
 case round =>
  obtain ⟨k,hk,rfl,hall⟩:=hrel
  by_cases hlt:k<5
  . obtain ⟨z,hz⟩:=Au (five ⟨sh,ra,mo,wo,ba,mi,st,bu,ch,wi,ca⟩) k hlt;have c1:W.cell? ⟨w.heap.size+1,k,none⟩=some (U O z):=(Ay HL.out k).trans (OC ⟨sh,ra,mo,wo,ba,mi,st,bu,ch,wi,ca⟩ (st+1) k z hz);have HZ:=K1 hz;clear hz
    cases hb:betw z 1 1048576
    . have hfin:=K1 (f2.out (IF _ k z HZ.out hb))
      go_wp2_with (go_at_call 53;refine (C9 _ _ _ _).mono ?_;rintro e w' ⟨rfl,rfl⟩)
      go_ret;exact ⟨AN hfin.out.symm,hB⟩
    . go_wp2_with (go_at_call 53;refine (C9 _ _ _ _).mono ?_;rintro e w' ⟨rfl,rfl⟩)
      go_round
      case rel=>exact ⟨k+1,by omega,by go_num,K1 (IE _ k z HZ.out hall.out hb)⟩
      case measure=>simp [intOf];omega
  . have hall':Hid ((five ⟨sh,ra,mo,wo,ba,mi,st,bu,ch,wi,ca⟩).all okSz=true):=by
     have:=hall.out;rw [List.take_of_length_le (by simp [five];omega)] at this;exact K1 this
    cases hb:betw ba wo 1048576
    . have hfin:=K1 (f7.out hall'.out hb)
      go_wp2_with (go_at_call 53;refine (C9 _ _ _ _).mono ?_;rintro e w' ⟨rfl,rfl⟩)
      go_ret;exact ⟨AN hfin.out.symm,hB⟩
    . have hfin:=K1 (f0.out hall'.out hb)
      go_wp2_with (go_at_call 53;refine (C9 _ _ _ _).mono ?_;rintro e w' ⟨rfl,rfl⟩)
      go_ret;exact ⟨AN hfin.out.symm,hB⟩
theorem OJ (A:Option Addr) (cap:Nat) (zs:List Int) (c:Cf) (w:World) (hr:RdI w w.heap.size A zs) (hm:zs.length<=9223372036854775807) :
  Calls Tryz.prog 52 #[B7 A zs.length cap c] w (Et w (AT zs c)):=by
 cases h1:betw c.wo 1 64
 . exact OD A cap zs c w h1
 cases h2:betw c.sh 1 62
 . exact OE A cap zs c w h1 h2
 by_cases h3:AV zs=0
 . by_cases h4:c.st<0
   . exact OG A cap zs c w hr hm h1 h2 h3 h4
   by_cases h5:1048576<c.st
   . exact OH A cap zs c w hr hm h1 h2 h3 h4 h5
   . exact OI A cap zs c w hr hm h1 h2 h3 h4 h5
 . exact OF A cap zs c w hr hm h1 h2 h3
def strB (bs:Nat) (Ad:Option Addr) (n cd at_:Nat):Ch:=.obj bs (.cells #[Us Ad n cd,U O at_] 252 (0,0))
def Bq (ds:List Nat):List Value:=ds.map fun d:Nat=>.int .u64 (d:Int)
def Ah (l:List Nat):List Value:=l.map fun d:Nat=>U O (d:Int)
theorem OK (l:List Nat):∀ u∈Ah l,u.oneCell'=true:=fun u hu=>by
 obtain ⟨z,_,rfl⟩:=List.mem_map.1 hu;rfl
theorem OL (l:List Nat):Ah l=(l.map fun x:Nat=>(x:Int)).map (Value.int .i64):=by simp [Ah]
theorem OM (A:Option Addr) (n cap:Nat) (ds:List Nat) (w:World) (hr:Rd w w.heap.size A (Bq ds)) (hn:n=ds.length) (hl:n<=1000000000) :
  Calls Tryz.prog 104 #[Us A n cap] w fun e w'=>∃ bs Ad cd,e=.returned (.pointer (some ⟨bs,0,none⟩))/\Mem w' [.bel w.heap.size w,.rd Ad (Bq ds),strB bs Ad n cd 0]/\w.heap.size<=bs/\(∀ q:Addr,Ad=some q->w.heap.size<=q.block):=by
 have C:=K1 (NS A n cap (Bq ds) w hr (by simp [Bq,hn]) (by intro u hu;obtain ⟨z,_,rfl⟩:=List.mem_map.1 hu;rfl) hl);clear hr hn;go_enter Tryz.func104,Tryz.ntmps104;go_wp2_with fail
 (with_reducible refine C.out.mono ?_)
 rintro e w1 ⟨A',c',rfl,hv,_,hb⟩;have hs:=hb.size;have HM:=K1 (((Mem.start w).push_rd hb (AJ hv) (AF hv)).alloc (.cells #[Us A' n c',U O 0] 252));have HS:=K1 (WP hs (AF hv));clear hv hb hs
 go_wp2
 go_ret;exact ⟨w1.heap.size,A',c',rfl,HM.out,HS.out.1,HS.out.2⟩
theorem KA (w:World) (bs n cd at_:Nat) (Ad:Option Addr) (h:∀ i,w.cell? ⟨bs,i,none⟩=([Us Ad n cd,U O at_]:List Value)[i]?) (h1:at_<=n) (h2:n<=1000000000) :
  Calls Tryz.prog 156 #[.pointer (some ⟨bs,0,none⟩)] w fun e w'=>e=.returned (U O (n-at_:Nat))/\∃ q,w'=w.drewN q:=by
 have HS:=K1 (show ((n:Int)-at_)=((n-at_:Nat):Int) by omega);have e1:IntKind.i64.wrap ((n:Int)-at_)=(n:Int)-at_:=WV _ (by omega);go_enter Tryz.func156,Tryz.ntmps156;go_wp2_with fail
 go_quiet (fail)
 go_wp2
 go_ret;exact ⟨AN HS.out,_,rfl⟩
theorem ON (w:World) (L:List Ch) (h:Mem w L) (bs cd at_ n d ib ir:Nat) (Ad:Option Addr) (ds:List Nat) (hb:L[ib]?=some (strB bs Ad ds.length cd at_)) (hr:L[ir]?=some (.rd Ad (Bq ds))) (hd:ds[at_]?=some d) (hn:1<=n/\n<=1048576) (hl:ds.length<=1000000000) :
  Calls Tryz.prog 158 #[.pointer (some ⟨bs,0,none⟩),U O n] w fun e w'=>e=.returned (.tuple #[U O (d % n:Nat),.bool true])/\Mem w' (L.set ib (strB bs Ad ds.length cd (at_+1))):=by
 have hlt:=(List.getElem?_eq_some_iff.1 hd).1;have CL:=K1 (fun W hW=>KA W bs ds.length cd at_ Ad hW (by omega) hl);have H0:=K1 h;have HB:=K1 hb;have HR:=K1 hr
 obtain ⟨b,off,rfl⟩:∃ b off,Ad=some ⟨b,off,none⟩:=by
  obtain ⟨b,off,e,_⟩:=h.rd ir hr (by simp [Bq];omega);exact ⟨b,off,e⟩
 have HD:=K1 (show (Bq ds)[at_]?=some (.int .u64 d) by simp [Bq,hd])
 obtain ⟨q,hq⟩:∃ q,q=d % n:=⟨_,rfl⟩
 rw [<- hq];have hqn:q<n:=by rw [hq];exact WL _ (by omega)
 have e1:(d:Int).tmod (n:Int)=(q:Int):=by rw [hq];exact (Int.ofNat_tmod _ _).symm
 have e2:(d:Int) % (n:Int)=(q:Int):=by rw [hq];exact (Int.natCast_emod _ _).symm
 generalize hdl:ds.length=dl at *;have HDL:=K1 hdl;have c0:=h.cells ib hb;have hn0:¬ n=0:=by omega
 clear h hb hr hd hq hdl;go_enter Tryz.func158,Tryz.ntmps158;go_wp2_with fail
 (with_reducible refine (CL.out _ c0).mono ?_)
 rintro e w1 ⟨rfl,q0,rfl⟩;clear c0 CL;replace H0:=K1 (H0.out.drewN q0);generalize w.drewN q0=W1 at *
 obtain ⟨lf,hlf⟩:∃ lf,lf=dl-at_:=⟨_,rfl⟩
 rw [<- hlf];have hlf2:((lf:Int) == 0)=false:=beq_eq_false_iff_ne.2 (by omega);clear hlf;have c0:=H0.out.cells ib HB.out;have c1:=H0.out.rdAt ir HR.out HD.out;go_wp2_with fail
 go_quiet (fail)
 have f1:(W1.drewN nq).frozen? ⟨bs,1,none⟩=false:=(H0.out.drewN nq).frozen ib 1 HB.out;go_wp2_with fail
 go_ret2
 refine ⟨rfl,?_⟩
 have hf:=((H0.out.drewN nq).set (j:=1) HB.out (U O ((at_:Int)+1)))
 have e3:strB bs (some ⟨b,off,none⟩) dl cd (at_+1)=.obj bs (.cells (#[Us (some ⟨b,off,none⟩) dl cd,U O at_].setIfInBounds 1 (U O ((at_:Int)+1))) 252 (0,0)):=by
  simp [strB]
 rw [e3];exact hf
def BT (ds bnds:List Nat) (at_ k:Nat):List Nat:=(List.range k).map fun i=>(ds[at_+i]?.getD 0) % (bnds[i]?.getD 1)
theorem OO (ds bnds:List Nat) (at_ k:Nat):BT ds bnds at_ (k+1)=BT ds bnds at_ k++[(ds[at_+k]?.getD 0) % (bnds[k]?.getD 1)]:=by simp [BT,List.range_succ]
theorem OP (ds bnds:List Nat) (at_ k:Nat):(BT ds bnds at_ k).length=k:=by simp [BT]
theorem OQ (x:Int) (w:World):Calls Tryz.prog 157 #[U O x] w fun e w'=>e=.returned (.bool (decide (x<1)))/\w=w':=by
 go_enter Tryz.func157,Tryz.ntmps157
 go_wp2
 go_ret;exact ⟨rfl,rfl⟩
theorem OR (A:Option Addr) (cap n:Nat) (zs:List Nat) (w:World) (hr:Rd w w.heap.size A (Ah zs)) (hn:n=zs.length) (hm:n<=1000000) (hz:∀ z∈zs,1<=z) :
  Calls Tryz.prog 136 #[Us A n cap,.func (.func 157) #[] #[]] w fun e w'=>e=.returned (U O (-1))/\w=w':=by
 have Hall:=K1 hz;have HN:=K1 hn;have HR:=K1 hr;clear hz hn hr;go_enter Tryz.func136,Tryz.ntmps136
 go_wp2
 go_loop [5,8] (fun j i=>∃ k:Nat,k<=n/\i=U O k) (fun _ i=>n-(intOf i).toNat)
 case atStart=>exact ⟨0,Nat.zero_le _,rfl⟩
 case round =>
  obtain ⟨k,hk,rfl⟩:=hrel
  by_cases hlt:k<n
  . obtain ⟨b,off,rfl,_,hc⟩:=HR.out (by simp [Ah];have:=HN.out;omega);obtain ⟨z,hz⟩:=Au zs k (by have:=HN.out;omega);have c1:w.cell? ⟨b,off+k,none⟩=some (U O z):=hc _ _ (by simp [Ah,hz]);have ok1:=Hall.out z (List.mem_of_getElem? hz);have ok2:decide ((z:Int)<1)=false:=by simp;omega
    have HZ:=K1 hz;clear hz hc
    go_wp2_with (go_at_call 157;refine (OQ _ _).mono ?_;rintro e w' ⟨rfl,rfl⟩)
    go_round
    case rel=>exact ⟨k+1,by omega,by go_num⟩
    case measure=>simp [intOf];omega
  . go_wp2
    go_ret;exact ⟨rfl,rfl⟩
theorem OS (A:Option Addr) (cap n:Nat) (zs:List Nat) (w:World) (hr:Rd w w.heap.size A (Ah zs)) (hn:n=zs.length) (hm:n<=1000000) (hz:∀ z∈zs,1<=z) :
  Calls Tryz.prog 97 #[Us A n cap,.func (.func 157) #[] #[]] w fun e w'=>e=.returned (.bool false)/\w=w':=by
 have C:=K1 (OR A cap n zs w hr hn hm hz);clear hr hn hz;go_enter Tryz.func97,Tryz.ntmps97
 go_wp2_with (go_at_call 136;refine C.out.mono ?_;rintro e w' ⟨rfl,rfl⟩)
 go_ret;exact ⟨rfl,rfl⟩
end
end Go.Proofs.YtdpojpcoghcieaaGreat
