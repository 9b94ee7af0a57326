/- A part of the proof of TopSerial: Many, RingSeg, RingSegment, RingAdd. Conditions: none. -/
import Derived.Test.YtdpojpcoghcieaaGreatSdAC
set_option maxHeartbeats 8000000
namespace Go.Proofs.YtdpojpcoghcieaaGreat
open Lib renaming hid → K1
open Go.RowKit
theorem set_last {X:List Ch} {c d:Ch}:(X++[c]).set X.length d=X++[d]:=by simp
theorem set_app_set {X B:List Ch} {i:Nat} {a b c:Ch} (h:X[i]?=some a):(X.set i b++B).set i c=X.set i c++B:=by rw [set_app (at_set h),List.set_set]
set_option maxRecDepth 100000 in
theorem many_any (w:World) (L:List Ch) (h:Mem w L) (bs cd at_ m cb ib ir ix:Nat) (Ad Ab:Option Addr) (ds bnds:List Nat) (hb:L[ib]?=some (strB bs Ad ds.length cd at_)) (hr:L[ir]?=some (.rd Ad (uCells ds))) (hx:L[ix]?=some (.rd Ab (iCells bnds)))
  (hm:m=bnds.length) (hcb:m≤cb) (hm2:m≤1000) (hat:at_+m≤ds.length) (hbn:∀ z∈bnds,1≤z∧z≤1048576) (hl:ds.length≤1000000000) :
  Calls Tryz.prog 138 #[.pointer (some ⟨bs,0,none⟩),.slice Ab m cb] w fun e w'=>∃ A c,e=.returned (.tuple #[.slice A m c,.bool true])∧m≤c∧Mem w' (L.set ib (strB bs Ad ds.length cd (at_+m))++[.own w.heap.size 3 1 (.slice A m c) m (iCells (drawsAt ds bnds at_ m))]):=by
 have CL:=K1 (fun W hW=>drawLeft_any W bs ds.length cd at_ Ad hW (by omega) hl)
 have CH:=K1 (fun W (hW:Mem W L)=>hasMany_no Ab cb m bnds W (hW.rd ix hx) hm (by omega) (fun z hz=>(hbn z hz).1))
 have CN:=K1 (fun (k d z:Nat) (W:World) (M:List Ch) (hM:Mem W M) (h1:M[ib]?=some (strB bs Ad ds.length cd (at_+k))) (h2:M[ir]?=some (.rd Ad (uCells ds))) (hd:ds[at_+k]?=some d) (hz:z∈bnds)=>drawNext_any W M hM bs cd (at_+k) z d ib ir Ad ds h1 h2 hd (hbn z hz) hl)
 have H0:=K1 h
 have HB:=K1 hb
 have HR:=K1 hr
 have HX:=K1 hx
 have HQ:=K1 (And.intro hbn hm)
 have c0:=h.cells ib hb
 have HLD:=K1 (show ∃ dl:Nat,ds.length=dl∧at_+m≤dl from ⟨_,rfl,hat⟩)
 clear h hb hr hx hbn
 generalize hdl:ds.length=dl at *
 have HDL:=K1 hdl
 clear hdl HLD hm
 go_enter Tryz.func138,Tryz.ntmps138
 go_wp2_with fail
 (with_reducible refine (CL.out _ c0).mono ?_)
 rintro e w1 ⟨rfl,q0,rfl⟩
 have hle:¬ (dl-at_<m):=by omega
 have hle2:decide (dl-at_<m)=false:=by simp;omega
 generalize dl-at_=lf at *
 go_wp2_with fail
 (with_reducible refine (CH.out _ (H0.out.drewN q0)).mono ?_)
 rintro e w1 ⟨rfl,rfl⟩
 have HM0:=K1 (show Mem (w.drewN q0) (L.set ib (strB bs Ad dl cd (at_+0))++[.own w.heap.size 3 1 (.slice none 0 0) 0 (iCells (drawsAt ds bnds at_ 0))]) by
  rw [Nat.add_zero,set_same HB.out]
  exact (H0.out.drewN q0).add (c:=.own w.heap.size 3 1 (.slice none 0 0) 0 (iCells (drawsAt ds bnds at_ 0))) ⟨own_nil _ _ _ _,Nat.le_refl _⟩ (fun _ _ _ _ g hg=>by cases hg))
 generalize w.drewN q0=W0 at *
 clear c0 H0 CH CL
 go_wp2_with fail
 go_loopw [6,26] (fun s6 i wr=>∃ (k:Nat) (A:Option Addr) (c:Nat),k≤m∧s6=.slice A k c∧i=.int .i64 k∧Hid (Mem wr (L.set ib (strB bs Ad dl cd (at_+k))++[.own w.heap.size 3 1 (.slice A k c) k (iCells (drawsAt ds bnds at_ k))]))) (fun _ i _=>m-(intOf i).toNat)
 case atStart=>exact ⟨0,none,0,Nat.zero_le _,rfl,rfl,HM0⟩
 case round =>
  clear HM0
  obtain ⟨k,A,c,hk,rfl,rfl,HM⟩:=hrel
  have hnx:=idx_ne HB.out HX.out (by simp [strB])
  have hnr:=idx_ne HB.out HR.out (by simp [strB])
  by_cases hlt:k<m
  · obtain ⟨z,hz⟩:=get_some bnds k (by have:=HQ.out.2;omega)
    obtain ⟨d,hd⟩:=get_some ds (at_+k) (by have:=HDL.out;omega)
    obtain ⟨b1,o1,rfl⟩:∃ b off,Ab=some ⟨b,off,none⟩:=by
     obtain ⟨b,off,e,_⟩:=HM.out.rd ix (at_l (at_ne hnx HX.out)) (by simp [iCells];have:=HQ.out.2;omega)
     exact ⟨b,off,e⟩
    have cz:=HM.out.rdAt ix (at_l (at_ne hnx HX.out)) (j:=k) (u:=.int .i64 z) (by simp [iCells,hz])
    have HS:Hid (drawsAt ds bnds at_ (k+1)=drawsAt ds bnds at_ k++[d % z]):=K1 (by rw [drawsAt_succ,hd,hz];rfl)
    have HDZ:=K1 (And.intro hd (List.mem_of_getElem? hz))
    clear hd hz
    go_wp2_with fail
    refine (CN.out k d z wr _ HM.out (at_l (at_set HB.out)) (at_l (at_ne hnr HR.out)) HDZ.out.1 HDZ.out.2).mono ?_
    rintro e w2 ⟨rfl,hm2⟩
    rw [set_app_set HB.out] at hm2
    have HM2:=K1 hm2
    clear hm2 HM cz
    obtain ⟨v,hv⟩:∃ v,v=d % z:=⟨_,rfl⟩
    rw [← hv] at HS ⊢
    clear hv
    have HM3:=K1 (HM2.out.alloc (.cells #[.int .i64 v] 3))
    clear HM2
    go_wp2_with (at_builtin;refine wpList_append_mem rfl _ _ 22 rfl HM3.out (L.set ib (strB bs Ad dl cd (at_+k+1))).length rowCI (at_l at_last) rfl _ 1 _ [.int .i64 v] rfl (HM3.out.box _ at_last) rfl (by intro u hu;simp at hu;subst hu;rfl) (by omega) ?_;intro A' c' W4 hM4)
    have h5:=Mem.setl hM4 at_last
    rw [set_last] at h5
    have HM5:=K1 h5
    clear h5 hM4 HM3
    go_wp2_with fail
    go_roundw
    case rel =>
     refine ⟨k+1,A',c',by omega,rfl,by go_num,?_⟩
     have e1:iCells (drawsAt ds bnds at_ (k+1))=iCells (drawsAt ds bnds at_ k)++[.int .i64 v]:=by rw [HS.out];simp [iCells]
     rw [e1]
     exact HM5
    case measure=>simp [intOf];omega
  · have hkm:k=m:=by omega
    subst hkm
    have HF:=K1 HM.out
    clear HM
    go_wp2_with fail
    go_ret2
    exact ⟨A,c,rfl,own_cap (HF.out.own _ at_last),HF.out⟩
theorem range_snoc_cells (k:Nat):iCells (List.range (k+1))=iCells (List.range k)++[.int .i64 k]:=by simp [iCells,List.range_succ]
theorem identity_any (n:Nat) (w:World) (hn:n≤1000000) :
  Calls Tryz.prog 139 #[.int .i64 n] w fun e w'=>∃ A c,e=.returned (.slice A n c)∧w'.ownsRow w.heap.size 3 1 (.slice A n c) n (iCells (List.range n))∧Below w.heap.size w w':=by
 have HM0:=K1 ((Mem.start w).add (c:=.own w.heap.size 3 1 (.slice none 0 0) 0 (iCells (List.range 0))) ⟨own_nil _ _ _ _,Nat.le_refl _⟩ (fun _ _ _ _ g hg=>by cases hg))
 go_enter Tryz.func139,Tryz.ntmps139
 go_wp2_with fail
 go_loopw [3,6] (fun s3 i wr=>∃ (k:Nat) (A:Option Addr) (c:Nat),k≤n∧s3=.slice A k c∧i=.int .i64 k∧Hid (Mem wr [.bel w.heap.size w,.own w.heap.size 3 1 (.slice A k c) k (iCells (List.range k))])) (fun _ i _=>n-(intOf i).toNat)
 case atStart=>exact ⟨0,none,0,Nat.zero_le _,rfl,rfl,HM0⟩
 case round =>
  clear HM0
  obtain ⟨k,A,c,hk,rfl,rfl,HM⟩:=hrel
  by_cases hlt:k<n
  · have HM3:=K1 (HM.out.alloc (.cells #[.int .i64 k] 3))
    clear HM
    go_wp2_with (at_builtin;refine wpList_append_mem rfl _ _ 22 rfl HM3.out 1 rowCI rfl rfl _ 1 _ [.int .i64 k] rfl (HM3.out.box 2 rfl) rfl (by intro u hu;simp at hu;subst hu;rfl) (by omega) ?_;intro A' c' W4 hM4)
    have HM5:=K1 (hM4.front 2)
    clear hM4 HM3
    go_wp2_with fail
    go_roundw
    case rel =>
     refine ⟨k+1,A',c',by omega,rfl,by go_num,?_⟩
     rw [range_snoc_cells]
     exact HM5
    case measure=>simp [intOf];omega
  · have hkm:k=n:=by omega
    subst hkm
    have HF:=K1 HM.out
    clear HM
    go_wp2_with fail
    go_ret
    exact ⟨A,c,rfl,HF.out.own 1 rfl,HF.out.bel 0 rfl⟩
structure Jb where
 step:Nat
 bucket:Nat
 lo:Nat
 hi:Nat
 workers:Nat
 chunk:Nat
def Jb.cells (j:Jb):List Value:=[.int .i64 j.step,.int .i64 j.bucket,.int .i64 j.lo,.int .i64 j.hi,.int .i64 j.workers,.int .i64 j.chunk]
def segS (k w ph r:Nat):Nat:=(w+ph+k-r) % k
def segR (k w ph r:Nat):Nat:=segS k ((w+k-1) % k) ph r
theorem segS_lt {k w ph r:Nat} (hk:1≤k):segS k w ph r<k:=Nat.mod_lt _ hk
theorem segR_lt {k w ph r:Nat} (hk:1≤k):segR k w ph r<k:=Nat.mod_lt _ hk
theorem around_any (j:Jb) (z:Int) (m:Nat) (w:World) (hz:z=(m:Int)-j.workers) (hk:1≤j.workers∧j.workers≤1000) (hm:m≤10000) :
  Calls Tryz.prog 173 #[.agg j.cells.toArray,.int .i64 z] w fun e w'=>e=.returned (.int .i64 (m % j.workers:Nat))∧Below w.heap.size w w':=by
 obtain ⟨step,bucket,lo,hi,k,chunk⟩:=j
 dsimp only at hz hk ⊢
 obtain ⟨q,hq⟩:∃ q:Nat,q=m % k:=⟨_,rfl⟩
 have hne:¬ ((k:Int)=0):=by omega
 have hk2:=hk.2
 have hk1:=hk.1
 rw [← hq]
 have hB:=K1 ((Below.refl w.heap.size w).alloc (Nat.le_refl _) (.cells (Jb.cells ⟨step,bucket,lo,hi,k,chunk⟩).toArray 277))
 simp only [Jb.cells] at hB ⊢
 rcases Nat.lt_or_ge m k with hlt | hge
 · have e0:q=m:=by rw [hq];exact Nat.mod_eq_of_lt hlt
   rcases Nat.eq_zero_or_pos m with h0 | h0
   · have e1:z.tmod (k:Int)=0:=by rw [hz,h0,show ((0:Nat):Int)-k=- (k:Int) by omega,Int.neg_tmod,Int.tmod_self];rfl
     have HQ:=K1 (show (0:Int)=q by omega)
     clear hz hq e0
     go_enter Tryz.func173,Tryz.ntmps173
     go_wp2
     go_ret
     exact ⟨ret_int HQ.out,hB.out⟩
   · have e1:z.tmod (k:Int)=z:=by
      rw [show z=- (- z) by omega,Int.neg_tmod,Int.tmod_eq_of_lt (by omega) (by omega)]
     have hz1:z<0:=by omega
     have hz2:-10000≤z:=by omega
     have HQ:=K1 (show z+k=q by omega)
     clear hz hq e0
     go_enter Tryz.func173,Tryz.ntmps173
     go_wp2
     go_ret
     exact ⟨ret_int HQ.out,hB.out⟩
 · have e1:z.tmod (k:Int)=q:=by
    obtain ⟨d,hd⟩:∃ d:Nat,d=m-k:=⟨_,rfl⟩
    rw [hz,show (m:Int)-k=(d:Nat) by omega,hq,← Int.ofNat_tmod]
    congr 1
    rw [show m=d+k by omega,Nat.add_mod_right]
   have hz1:0≤z:=by omega
   have hz2:z≤10000:=by omega
   have hq2:0≤(q:Int):=by omega
   clear hz hq
   go_enter Tryz.func173,Tryz.ntmps173
   go_wp2
   go_ret
   exact ⟨rfl,hB.out⟩
theorem scatter_any (j:Jb) (u r:Nat) (w:World) (hk:1≤j.workers∧j.workers≤1000) (hw:u<j.workers) (hr:r<j.workers) :
  Calls Tryz.prog 171 #[.agg j.cells.toArray,.int .i64 u,.int .i64 r] w fun e w'=>e=.returned (.int .i64 (segS j.workers u 0 r:Nat))∧Below w.heap.size w w':=by
 have C:=K1 (fun W=>around_any j ((u:Int)-r) (u+0+j.workers-r) W (by omega) hk (by omega))
 have hB:=K1 ((Below.refl w.heap.size w).alloc (Nat.le_refl _) (.cells j.cells.toArray 277))
 obtain ⟨step,bucket,lo,hi,k,chunk⟩:=j
 dsimp only [Jb.cells] at hk hw hr C hB ⊢
 go_enter Tryz.func171,Tryz.ntmps171
 go_wp2_with fail
 (with_reducible refine (C.out _).mono ?_)
 rintro e w1 ⟨rfl,hb⟩
 have HB:=K1 (hB.out.trans (hb.mono (by simp)))
 clear hb
 go_wp2_with fail
 go_ret
 exact ⟨rfl,HB.out⟩
theorem gather_any (j:Jb) (u r:Nat) (w:World) (hk:1≤j.workers∧j.workers≤1000) (hw:u<j.workers) (hr:r<j.workers) :
  Calls Tryz.prog 172 #[.agg j.cells.toArray,.int .i64 u,.int .i64 r] w fun e w'=>e=.returned (.int .i64 (segS j.workers u 1 r:Nat))∧Below w.heap.size w w':=by
 have C:=K1 (fun W=>around_any j ((u:Int)+1-r) (u+1+j.workers-r) W (by omega) hk (by omega))
 have hB:=K1 ((Below.refl w.heap.size w).alloc (Nat.le_refl _) (.cells j.cells.toArray 277))
 obtain ⟨step,bucket,lo,hi,k,chunk⟩:=j
 dsimp only [Jb.cells] at hk hw hr C hB ⊢
 go_enter Tryz.func172,Tryz.ntmps172
 go_wp2_with fail
 (with_reducible refine (C.out _).mono ?_)
 rintro e w1 ⟨rfl,hb⟩
 have HB:=K1 (hB.out.trans (hb.mono (by simp)))
 clear hb
 go_wp2_with fail
 go_ret
 exact ⟨rfl,HB.out⟩
theorem of_0 (W:World):(Instr.index 288 (.agg #[.func (.func 171) #[] #[],.func (.func 172) #[] #[]]) (.int .i64 0)).run Tryz.prog W=.ok (.func (.func 171) #[] #[]) W:=by kernel_rfl
theorem of_1 (W:World):(Instr.index 288 (.agg #[.func (.func 171) #[] #[],.func (.func 172) #[] #[]]) (.int .i64 1)).run Tryz.prog W=.ok (.func (.func 172) #[] #[]) W:=by kernel_rfl
set_option maxRecDepth 100000 in
theorem segment_send (j:Jb) (u ph r:Nat) (w:World) (hk:1≤j.workers∧j.workers≤1000) (hw:u<j.workers) (hr:r+1<j.workers) (hp:ph≤1) :
  Calls Tryz.prog 165 #[.agg j.cells.toArray,.int .i64 u,.int .i64 ph,.int .i64 r,.bool true] w fun e w'=>e=.returned (.tuple #[.int .i64 (segS j.workers u ph r:Nat),.bool true])∧Below w.heap.size w w':=by
 have hB:=K1 ((Below.refl w.heap.size w).alloc (Nat.le_refl _) (.cells j.cells.toArray 277))
 have C0:=K1 (fun W=>scatter_any j u r W hk hw (by omega))
 have C1:=K1 (fun W=>gather_any j u r W hk hw (by omega))
 obtain ⟨step,bucket,lo,hi,k,chunk⟩:=j
 dsimp only [Jb.cells] at hk hw hr hB C0 C1 ⊢
 have hr2:¬ ((k:Int)-1≤r):=by omega
 have i0:=of_0
 have i1:=of_1
 rcases (show ph=0∨ph=1 by omega) with rfl | rfl
 · go_enter Tryz.func165,Tryz.ntmps165
   go_wp2_with fail
   (with_reducible refine (C0.out _).mono ?_)
   rintro e w1 ⟨rfl,hb⟩
   have HB:=K1 (hB.out.trans (hb.mono (by simp)))
   clear hb
   go_wp2_with fail
   go_ret2
   exact ⟨rfl,HB.out⟩
 · go_enter Tryz.func165,Tryz.ntmps165
   go_wp2_with fail
   (with_reducible refine (C1.out _).mono ?_)
   rintro e w1 ⟨rfl,hb⟩
   have HB:=K1 (hB.out.trans (hb.mono (by simp)))
   clear hb
   go_wp2_with fail
   go_ret2
   exact ⟨rfl,HB.out⟩
set_option maxRecDepth 100000 in
theorem segment_recv (j:Jb) (u ph r:Nat) (w:World) (hk:1≤j.workers∧j.workers≤1000) (hw:u<j.workers) (hr:r+1<j.workers) (hp:ph≤1) :
  Calls Tryz.prog 165 #[.agg j.cells.toArray,.int .i64 u,.int .i64 ph,.int .i64 r,.bool false] w fun e w'=>e=.returned (.tuple #[.int .i64 (segR j.workers u ph r:Nat),.bool true])∧Below w.heap.size w w':=by
 have HM:=K1 ((Mem.start w).alloc (.cells j.cells.toArray 277)).drew
 have CA:=K1 (fun W=>around_any j ((u:Int)-1) (u+j.workers-1) W (by omega) hk (by omega))
 have hlt:(u+j.workers-1) % j.workers<j.workers:=Nat.mod_lt _ (by omega)
 have C0:=K1 (fun W=>scatter_any j ((u+j.workers-1) % j.workers) r W hk hlt (by omega))
 have C1:=K1 (fun W=>gather_any j ((u+j.workers-1) % j.workers) r W hk hlt (by omega))
 clear hlt
 obtain ⟨step,bucket,lo,hi,k,chunk⟩:=j
 dsimp only [Jb.cells] at hk hw hr HM C0 C1 CA ⊢
 unfold segR
 generalize (u+k-1) % k=x at *
 have hr2:¬ ((k:Int)-1≤r):=by omega
 have ew:IntKind.i64.wrap ((u:Int)-1)=(u:Int)-1:=IntWalk.i64_in _ (by omega)
 have i0:=of_0
 have i1:=of_1
 rcases (show ph=0∨ph=1 by omega) with rfl | rfl
 · go_enter Tryz.func165,Tryz.ntmps165
   go_wp2_with fail
   go_region_held3 (fun w'=>∀ i,w'.cell? ⟨w.heap.size,i,none⟩=(#[.int .i64 step,.int .i64 bucket,.int .i64 lo,.int .i64 hi,.int .i64 k,.int .i64 chunk]:Array Value)[i]?)
    (exact fun i=>blk_cell (HM.out.obj 1 rfl) i)
    (first
     | (go_at_call 173
        (with_reducible refine (CA.out _).mono ?_)
        rintro e w1 ⟨rfl,hb⟩
        replace HM:=K1 (HM.out.below hb)
        clear hb)
     | (go_at_call 171
        (with_reducible refine (C0.out _).mono ?_)
        rintro e w2 ⟨rfl,hb⟩
        replace HM:=K1 (HM.out.below hb)
        clear hb))
   go_wp2_with fail
   go_ret2
   exact ⟨rfl,HM.out.bel 0 rfl⟩
 · go_enter Tryz.func165,Tryz.ntmps165
   go_wp2_with fail
   go_region_held3 (fun w'=>∀ i,w'.cell? ⟨w.heap.size,i,none⟩=(#[.int .i64 step,.int .i64 bucket,.int .i64 lo,.int .i64 hi,.int .i64 k,.int .i64 chunk]:Array Value)[i]?)
    (exact fun i=>blk_cell (HM.out.obj 1 rfl) i)
    (first
     | (go_at_call 173
        (with_reducible refine (CA.out _).mono ?_)
        rintro e w1 ⟨rfl,hb⟩
        replace HM:=K1 (HM.out.below hb)
        clear hb)
     | (go_at_call 172
        (with_reducible refine (C1.out _).mono ?_)
        rintro e w2 ⟨rfl,hb⟩
        replace HM:=K1 (HM.out.below hb)
        clear hb))
   go_wp2_with fail
   go_ret2
   exact ⟨rfl,HM.out.bel 0 rfl⟩
theorem Mem.ranges {W:World} {L:List Ch} (h:Mem W L) (i:Nat) {A:Option Addr} {l:List (Nat × Nat)} (hi:L[i]?=some (.rd A (rcells l))) (h0:0<l.length) :
  ∃ b off,A=some ⟨b,off,none⟩∧∀ j p,l[j]?=some p→W.cell? ⟨b,off+j*2,none⟩=some (.int .i64 p.1)∧W.cell? ⟨b,off+j*2+1,none⟩=some (.int .i64 p.2):=by
 obtain ⟨b,off,e,_,hc⟩:=RdR.at_ (h.rd i hi) h0
 exact ⟨b,off,e,hc⟩
theorem Mem.range2 {W:World} {L:List Ch} (h:Mem W L) (ix:Nat) {b off i x y:Nat} {l:List (Nat × Nat)} (hx:L[ix]?=some (.rd (some ⟨b,off,none⟩) (rcells l))) (hi:l[i]?=some (x,y)) :
  W.cell? ⟨b,off+i*2,none⟩=some (.int .i64 x)∧W.cell? ⟨b,off+i*2+1,none⟩=some (.int .i64 y) :=
 ⟨h.rdAt ix hx (rcells_at l i _ hi).1,by rw [Nat.add_assoc];exact h.rdAt ix hx (rcells_at l i _ hi).2⟩
def addAc (j:Jb) (send:Bool) (ph r i:Nat) (p:Nat × Nat):Ac:=⟨send,!send && ph == 0,j.step,j.bucket,ph,r,i,p.1,p.2⟩
set_option maxRecDepth 100000 in
theorem radd_in (w:World) (L:List Ch) (h:Mem w L) (j:Jb) (send:Bool) (ph r n i bj bp br bl base:Nat) (A F:Option Addr) (c cf:Nat) (acs:List Ac) (rs:List (Nat × Nat)) (x y:Nat) (ij ip ir il io ix:Nat)
  (hj:L[ij]?=some (.obj bj (.cells j.cells.toArray 277 (0,0)))) (hp:L[ip]?=some (.obj bp (.cells #[.int .i64 ph] 3 (0,0)))) (hr:L[ir]?=some (.obj br (.cells #[.int .i64 r] 3 (0,0))))
  (hl:L[il]?=some (.obj bl (.cells #[.slice A acs.length c] 278 (0,0)))) (ho:L[io]?=some (.own base 144 9 (.slice A acs.length c) acs.length (acells acs)))
  (hx:L[ix]?=some (.rd F (rcells rs))) (hn:n=rs.length) (hi:rs[i]?=some (x,y)) (hph:ph≤1) (hm:acs.length≤100000000) :
  Calls Tryz.prog 168 #[.bool send,.int .i64 i,.slice F n cf,.pointer (some ⟨bj,0,none⟩),.pointer (some ⟨bp,0,none⟩),.pointer (some ⟨br,0,none⟩),.pointer (some ⟨bl,0,none⟩)] w fun e w'=>e=.returned (.tuple #[]) ∧
   ∃ A' c',Mem w' ((L.set io (.own base 144 9 (.slice A' (acs.length+1) c') (acs.length+1) (acells (acs++[addAc j send ph r i (x,y)])))).set il (.obj bl (.cells #[.slice A' (acs.length+1) c'] 278 (0,0)))):=by
 have hlt:=(List.getElem?_eq_some_iff.1 hi).1
 obtain ⟨b,off,rfl,hc⟩:=h.ranges ix hx (by omega)
 have HX:=K1 hx
 have HI:=K1 hi
 obtain ⟨step,bucket,lo,hi',k,chunk⟩:=j
 simp only [Jb.cells] at hj
 have c0:=h.cell ij 0 hj rfl
 have c1:=h.cell ij 1 hj rfl
 have c2:=h.cell ip 0 hp rfl
 have c3:=h.cell ir 0 hr rfl
 have H0:=K1 h
 have HL:=K1 hl
 have HO:=K1 ho
 have HP:=K1 hp
 have HN:=K1 hm
 clear h hl ho hp hr hj hx hm hc hi
 subst hn
 go_enter Tryz.func168,Tryz.ntmps168
 go_wp2_with fail
 refine name_wp fun W hW=>?_
 have HM:=K1 (H0.out.alloc_ hW.out)
 clear hW c0 c1 c2 c3
 generalize hg:w.heap.size=g at *
 clear hg
 cases send
 all_goals rcases (show ph=0∨ph=1 by omega) with rfl | rfl
 all_goals
  refine wp_region_spine 14 2 (fun W'=>W'.cell? ⟨bl,0,none⟩=some (.slice A acs.length c)∧W'.cell? ⟨bp,0,none⟩=some (.int .i64 _)∧(∀ k,W'.cell? ⟨g,k,none⟩=([.int .i64 step,.int .i64 bucket,.int .i64 _,.int .i64 r,.int .i64 i]:List Value)[k]?)∧W'.cell? ⟨b,off+i*2,none⟩=some (.int .i64 x)∧W'.cell? ⟨b,off+i*2+1,none⟩=some (.int .i64 y))
   (by kernel_rfl) (by kernel_rfl) (by kernel_rfl) (by intro d v c a w h;cases d <;> exact h)
   ⟨HM.out.drew.cell il 0 (at_l HL.out) rfl,HM.out.drew.cell ip 0 (at_l HP.out) rfl,HM.out.drew.cells _ at_last,HM.out.drew.range2 ix (at_l HX.out) HI.out⟩ ?_
  apply Exists.intro
  apply And.intro
  · intro W' hS
    obtain ⟨s1,s2,s3,s4,s5⟩:=hS
    simp only [List.take_succ_cons,List.take_zero]
    repeat still_step
    exact wpStill_nil rfl
  simp only [List.drop_succ_cons,List.drop_zero,List.take_succ_cons,List.take_zero]
  refine Spine.step ?_
  go_wp2_with fail
  refine name_behind fun W2 hW=>?_
  have HM2:=K1 (HM.out.drew.alloc_ hW.out)
  clear hW
  refine Behind.go ⟨HM2.out.cell il 0 (at_l (at_l HL.out)) rfl,HM2.out.cell ip 0 (at_l (at_l HP.out)) rfl,HM2.out.cells _ (at_l at_last),HM2.out.range2 ix (at_l (at_l HX.out)) HI.out⟩ (Spine.step ?_)
  go_wp2_with (at_builtin;refine wpList_append_mem rfl _ _ 278 rfl HM2.out io rowAc (at_l (at_l HO.out)) rfl _ 1 _ (Ac.cells ⟨_,_,step,bucket,_,r,i,x,y⟩) rfl (HM2.out.box _ at_last) rfl (acells_one _) (by have:=HN.out;omega) ?_;intro A' c' W3 hM3)
  have HM3:=K1 (Mem.setl hM3 (at_l HO.out))
  clear hM3 HM2
  refine Behind.go ⟨HM3.out.cell il 0 (at_ne (idx_ne HO.out HL.out (by simp)) (at_l HL.out)) rfl,HM3.out.cell ip 0 (at_ne (idx_ne HO.out HP.out (by simp)) (at_l HP.out)) rfl,HM3.out.cells _ (at_ne (Nat.ne_of_lt (List.getElem?_eq_some_iff.1 HO.out).1) at_last),HM3.out.range2 ix (at_ne (idx_ne HO.out HX.out (by simp)) (at_l HX.out)) HI.out⟩ (Spine.nil_ ?_)
  have HM4:=K1 (Mem.setl HM3.out HO.out)
  clear HM3
  have c1:W3.cell? ⟨bl,0,none⟩=some (.slice A acs.length c):=HM4.out.cell il 0 (at_ne (idx_ne HO.out HL.out (by simp)) HL.out) rfl
  have f1:W3.frozen? ⟨bl,0,none⟩=false:=HM4.out.frozen il 0 (at_ne (idx_ne HO.out HL.out (by simp)) HL.out)
  have HF:=K1 (HM4.out.set (j:=0) (at_ne (idx_ne HO.out HL.out (by simp)) HL.out) (.slice A' (acs.length+1) c'))
  go_wp2
  go_end0
  refine ⟨rfl,A',c',?_⟩
  rw [acells_snoc]
  exact HF.out
theorem radd_out (w:World) (send:Bool) (i n cf:Nat) (F:Option Addr) (bj bp br bl:Nat) (hi:n≤i) :
  Calls Tryz.prog 168 #[.bool send,.int .i64 i,.slice F n cf,.pointer (some ⟨bj,0,none⟩),.pointer (some ⟨bp,0,none⟩),.pointer (some ⟨br,0,none⟩),.pointer (some ⟨bl,0,none⟩)] w fun e w'=>e=.returned (.tuple #[])∧w=w':=by
 have hlt:¬ (i<n):=by omega
 go_enter Tryz.func168,Tryz.ntmps168
 go_wp2
 go_end0
 exact ⟨rfl,rfl⟩
theorem radd_any (w:World) (L:List Ch) (h:Mem w L) (j:Jb) (send:Bool) (ph r n i bj bp br bl base:Nat) (A F:Option Addr) (c cf:Nat) (acs acs':List Ac) (rs:List (Nat × Nat)) (ij ip ir il io ix:Nat)
  (hj:L[ij]?=some (.obj bj (.cells j.cells.toArray 277 (0,0)))) (hp:L[ip]?=some (.obj bp (.cells #[.int .i64 ph] 3 (0,0)))) (hr:L[ir]?=some (.obj br (.cells #[.int .i64 r] 3 (0,0))))
  (hl:L[il]?=some (.obj bl (.cells #[.slice A acs.length c] 278 (0,0)))) (ho:L[io]?=some (.own base 144 9 (.slice A acs.length c) acs.length (acells acs)))
  (hx:L[ix]?=some (.rd F (rcells rs))) (hn:n=rs.length) (hph:ph≤1) (hm:acs.length≤100000000) (he:acs'=acs++(rs[i]?.map (addAc j send ph r i)).toList) :
  Calls Tryz.prog 168 #[.bool send,.int .i64 i,.slice F n cf,.pointer (some ⟨bj,0,none⟩),.pointer (some ⟨bp,0,none⟩),.pointer (some ⟨br,0,none⟩),.pointer (some ⟨bl,0,none⟩)] w fun e w'=>e=.returned (.tuple #[]) ∧
   ∃ A' c',Mem w' ((L.set io (.own base 144 9 (.slice A' acs'.length c') acs'.length (acells acs'))).set il (.obj bl (.cells #[.slice A' acs'.length c'] 278 (0,0)))):=by
 subst he
 cases hi:rs[i]? with
 | none =>
   refine (radd_out w send i n cf F bj bp br bl (by have:=List.getElem?_eq_none_iff.1 hi;omega)).mono ?_
   rintro e w' ⟨he,rfl⟩
   refine ⟨he,A,c,?_⟩
   rw [show acs++(Option.map (addAc j send ph r i) none).toList=acs by simp,set_same ho,set_same hl]
   exact h
 | some p =>
   obtain ⟨x,y⟩:=p
   refine (radd_in w L h j send ph r n i bj bp br bl base A F c cf acs rs x y ij ip ir il io ix hj hp hr hl ho hx hn hi hph hm).mono ?_
   rintro e w' ⟨he,A',c',h'⟩
   refine ⟨he,A',c',?_⟩
   rw [show (acs++(Option.map (addAc j send ph r i) (some (x,y))).toList).length=acs.length+1 by simp]
   exact h'
end Go.Proofs.YtdpojpcoghcieaaGreat
