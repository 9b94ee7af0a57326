/- A part of the proof of TopBound: RefRing. Conditions: none. -/
import Derived.Test.YtdpojpcoghcieaaGreatBdBT
set_option maxHeartbeats 8000000
namespace Go.Proofs.YtdpojpcoghcieaaGreat
open Lib renaming hid → K1
open List renaming filterMap_cons → p1, filterMap_nil → p2, getElem?_cons_zero → p3, getElem?_cons_succ → p4
open Go.RowKit
theorem infoRA:(Tryz.prog.info? 74).map (fun i=>(i.zero,i.size,i.bytes))=some (some (.agg Ac.zero.cells.toArray),9,64):=by kernel_rfl
theorem infoRI:(Tryz.prog.info? 76).map (fun i=>(i.zero,i.size,i.bytes))=some (some (.agg (It.cells ⟨0,0,0,Ac.zero⟩).toArray),12,88):=by kernel_rfl
theorem rowRA:RowT Tryz.prog 242 74 9 64:=by
 obtain ⟨i0,hi,hz0,hz1,hz2⟩:=info_parts infoRA
 exact ⟨i0,_,Tryz.underlying242,hi,hz0,hz1,hz2,rfl,by decide,by decide⟩
theorem rowRI:RowT Tryz.prog 67 76 12 88:=by
 obtain ⟨i0,hi,hz0,hz1,hz2⟩:=info_parts infoRI
 exact ⟨i0,_,Tryz.underlying67,hi,hz0,hz1,hz2,rfl,by decide,by decide⟩
theorem segS_two {k w ph r:Nat} (hr:r≤k):segS k w ph r=(w+ph+2*k-r) % k:=by
 unfold segS
 rw [show w+ph+2*k-r=w+ph+k-r+k by omega,Nat.add_mod_right]
theorem segR_two {k w ph r:Nat} (hk:1≤k) (hr:r+1≤k):segR k w ph r=(w+ph+2*k-r-1) % k:=by
 unfold segR segS
 rw [show (w+k-1) % k+ph+k-r=(w+k-1) % k+(ph+k-r) by omega,Nat.mod_add_mod]
 congr 1
 omega
def segX (send:Bool) (k w ph r:Nat):Nat:=if send then segS k w ph r else segR k w ph r
set_option maxRecDepth 100000 in
theorem rsegment_any (j:Jb) (u ph r:Nat) (send:Bool) (w:World) (hk:1≤j.workers∧j.workers≤1000) (hw:u<j.workers) (hr:r+1<j.workers) (hp:ph≤1) :
  Calls Tryz.prog 154 #[.agg j.cells.toArray,.int .i64 u,.int .i64 ph,.int .i64 r,.bool send] w fun e w'=>e=.returned (.tuple #[.int .i64 (segX send j.workers u ph r:Nat),.bool true])∧Below w.heap.size w w':=by
 have hB:=K1 ((Below.refl w.heap.size w).alloc (Nat.le_refl _) (.cells j.cells.toArray 245))
 have hS:=segS_two (k:=j.workers) (w:=u) (ph:=ph) (r:=r) (by omega)
 have hR:=segR_two (k:=j.workers) (w:=u) (ph:=ph) (r:=r) hk.1 (by omega)
 obtain ⟨step,bucket,lo,hi,k,chunk⟩:=j
 dsimp only [Jb.cells] at hk hw hr hB hS hR ⊢
 unfold segX
 have hr2:¬ ((k:Int)-2<r):=by omega
 have hp2:¬ 1<ph:=by omega
 have hne:¬ k=0:=by omega
 have hne2:¬ (k:Int)=0:=by omega
 obtain ⟨z,hz⟩:∃ z,z=if send then u+ph+2*k-r else u+ph+2*k-r-1:=⟨_,rfl⟩
 obtain ⟨q,hq⟩:∃ q,q=z % k:=⟨_,rfl⟩
 have hqk:q<k:=by rw [hq];exact Nat.mod_lt _ (by omega)
 have e1:(z:Int).tmod (k:Int)=(q:Int):=by rw [hq];exact (Int.ofNat_tmod _ _).symm
 have wq:IntKind.i64.wrap (q:Int)=(q:Int):=IntWalk.i64_in _ (by omega)
 cases send
 · simp only [Bool.false_eq_true,if_false] at hz ⊢
   rw [hR,← hz,← hq]
   have ez:(u:Int)-r+ph-1+2*k=(z:Int):=by omega
   clear hq hS hR hz
   go_enter Tryz.func154,Tryz.ntmps154
   go_wp2_with fail
   go_ret2
   exact ⟨rfl,hB.out⟩
 · simp only [if_true] at hz ⊢
   rw [hS,← hz,← hq]
   have ez:(u:Int)-r+ph+2*k=(z:Int):=by omega
   clear hq hS hR hz
   go_enter Tryz.func154,Tryz.ntmps154
   go_wp2_with fail
   go_ret2
   exact ⟨rfl,hB.out⟩
set_option maxRecDepth 100000 in
theorem rchunksOf_any (j:Jb) (x:Nat) (p:Nat × Nat) (w:World) (hp:(jobSegs j)[x]?=some p) (hk:1≤j.workers∧j.workers≤1000) (hlo:j.lo≤j.hi) (hhi:j.hi≤1000) (hs:1≤j.chunk∧j.chunk≤1048576) :
  Calls Tryz.prog 155 #[.agg j.cells.toArray,.int .i64 x] w fun e w'=>∃ A c,e=.returned (.slice A (segChunks j.chunk p).length c)∧(segChunks j.chunk p).length≤c∧Mem w' [.bel w.heap.size w,rrO w.heap.size (segChunks j.chunk p).length c A (segChunks j.chunk p)]:=by
 have hin:=segs_in hlo hk.1 p (List.mem_of_getElem? hp)
 have hsl:(jobSegs j).length=j.workers:=by rw [jobSegs,shift_len,even_len]
 have hx:=(List.getElem?_eq_some_iff.1 hp).1
 rw [hsl] at hx
 have CS:=K1 (fun W=>rsegs_any W j.lo j.hi j.workers hlo hhi hk)
 have CC:=K1 (fun W=>rchunks_any W p.1 p.2 j.chunk hin.1 (by omega) hs)
 have HSL:=K1 (show (shiftL j.lo (evenL (j.hi-j.lo) j.workers))[x]?=some p from hp)
 have hm:=(Mem.start w).alloc (.cells j.cells.toArray 245)
 have HM:=K1 hm
 have hx1:=segChunks_len j.chunk p
 obtain ⟨len,hlen⟩:∃ len,len=(segChunks j.chunk p).length:=⟨_,rfl⟩
 clear hx1 hsl hp hin hm
 obtain ⟨step,bucket,lo,hi,k,chunk⟩:=j
 obtain ⟨x1,y1⟩:=p
 dsimp only [Jb.cells] at hk hlo hhi hs hx HM CS CC HSL hlen ⊢
 generalize shiftL lo (evenL (hi-lo) k)=segs at *
 generalize segChunks chunk (x1,y1)=l at *
 rw [← hlen] at CC ⊢
 clear hlen
 go_enter Tryz.func155,Tryz.ntmps155
 go_wp2_with fail
 refine name_wp fun W0 hW=>?_
 replace HM:=K1 (hW.out.symm ▸ HM.out)
 clear hW
 refine wp_region_stage (.reads [0,1,2,3,5,8,9] (.eff 4 (.eff 6 (.eff 7 (.eff 10 (.eff 11 (.fin))))))) 12 (fun W'=>∀ j,W'.cell? ⟨w.heap.size,j,none⟩=([.int .i64 step,.int .i64 bucket,.int .i64 lo,.int .i64 hi,.int .i64 k,.int .i64 chunk]:List Value)[j]?)
  (by kernel_rfl) (by kernel_rfl) (by intro d v c a w h;cases d <;> exact h) ?_
 replace HM:=K1 HM.out.drew
 generalize W0.drew=V at *
 refine PlS.reads_ (HM.out.cells 1 rfl) (by kernel_rfl) ?_
 simp only [pickO,p1,p2,p3,p4]
 apply Exists.intro
 apply And.intro
 · intro W' hS
   repeat still_step
   exact wpStill_nil rfl
 refine PlS.eff_ ?_
 simp only [pickO,p1,p2,p3,p4]
 go_wp2_with fail
 refine (CS.out _).mono ?_
 rintro e w2 ⟨A1,c1,rfl,hc1,hm2⟩
 have hrd:=rd_of_own (hm2.own 1 rfl)
 have hA1:=own_from_base (hm2.own 1 rfl)
 replace HM:=K1 (HM.out.push_rd (hm2.bel 0 rfl) hrd hA1)
 clear hm2 hrd hA1 CS
 obtain ⟨b1,o1,rfl,_⟩:=HM.out.ranges 2 rfl (by have:=(List.getElem?_eq_some_iff.1 HSL.out).1;omega)
 go_wp2_with fail
 refine After.go (HM.out.cells 1 rfl) ?_
 refine PlS.eff_ ?_
 simp only [pickO,p1,p2,p3,p4]
 have hlt:x<k:=hx
 go_wp2_with fail
 refine After.go (HM.out.cells 1 rfl) ?_
 refine PlS.eff_ ?_
 simp only [pickO,p1,p2,p3,p4]
 obtain ⟨g1,g2⟩:=HM.out.range2 2 rfl HSL.out
 go_wp2_with fail
 clear g1 g2
 refine After.go (HM.out.cells 1 rfl) ?_
 refine PlS.eff_ ?_
 simp only [pickO,p1,p2,p3,p4]
 go_wp2_with fail
 refine (CC.out _).mono ?_
 rintro e w3 ⟨A2,c2,rfl,hc2,hm3⟩
 have hg:=(HM.out.bel 0 rfl).size
 replace HM:=K1 ((HM.out.push_own (hm3.bel 0 rfl) (hm3.own 1 rfl) rfl).lower (i:=3) rfl hg)
 clear hm3 CC hg
 go_wp2_with fail
 refine After.go (HM.out.cells 1 rfl) ?_
 refine PlS.eff_ ?_
 simp only [pickO,p1,p2,p3,p4]
 go_wp2_with fail
 refine After.go (HM.out.cells 1 rfl) ?_
 refine PlS.fin_ ?_
 go_wp2_with fail
 go_ret
 exact ⟨A2,c2,rfl,hc2,HM.out.pick [0,3] _ rfl (by decide)⟩
end Go.Proofs.YtdpojpcoghcieaaGreat
