/- A part of the proof of TopBound: RefBlocks, RefBkt, RefShift, RefEven, RefSeg. Conditions: none. -/
import Derived.Test.YtdpojpcoghcieaaGreatBdBL
set_option maxHeartbeats 8000000
namespace Go.Proofs.YtdpojpcoghcieaaGreat
open Lib renaming hid → K1
open List renaming filterMap_cons → p1, filterMap_nil → p2, getElem?_cons_zero → p3, getElem?_cons_succ → p4
open Go.RowKit
theorem infoRR:(Tryz.prog.info? 72).map (fun i=>(i.zero,i.size,i.bytes))=some (some (.agg #[.int .i64 0,.int .i64 0]),2,16):=by kernel_rfl
theorem rowRR:RowT Tryz.prog 192 72 2 16:=by
 obtain ⟨i0,hi,hz0,hz1,hz2⟩:=info_parts infoRR
 exact ⟨i0,_,Tryz.underlying192,hi,hz0,hz1,hz2,rfl,by decide,by decide⟩
def rrO (base n c:Nat) (A:Option Addr) (l:List (Nat × Nat)):Ch:=.own base 72 2 (.slice A n c) n (rcells l)
theorem pcnt_next {n s k:Nat} (hs:1≤s) (h:k<pcnt n s):((k+1)*s<n→k+1<pcnt n s)∧(n≤(k+1)*s→k+1=pcnt n s):=by
 have h0:=pcnt_lt hs h
 have hn:¬ n=0:=by omega
 unfold pcnt at h ⊢
 rw [if_neg hn] at h ⊢
 refine ⟨fun h1=>?_,fun h1=>?_⟩
 · have:k+1≤(n-1) / s:=(Nat.le_div_iff_mul_le (by omega)).2 (by omega)
   omega
 · have:(n-1) / s<k+1:=(Nat.div_lt_iff_lt_mul (by omega)).2 (by omega)
   omega
set_option maxRecDepth 100000 in
theorem rblocks_any (n s:Nat) (w:World) (hn:n≤1000000) (hs:1≤s∧s≤1048576) :
  Calls Tryz.prog 132 #[.int .i64 n,.int .i64 s] w fun e w'=>∃ A c,e=.returned (.slice A (blocksL n s).length c)∧(blocksL n s).length≤c∧Mem w' [.bel w.heap.size w,rrO w.heap.size (blocksL n s).length c A (blocksL n s)]:=by
 have HM0:=K1 ((Mem.start w).add (c:=rrO w.heap.size 0 0 none []) ⟨own_nil _ _ _ _,Nat.le_refl _⟩ (fun _ _ _ _ g hg=>by cases hg))
 rcases Nat.eq_zero_or_pos n with h0 | h0
 · subst h0
   have HE:=K1 (show blocksL 0 s=[] from rfl)
   go_enter Tryz.func132,Tryz.ntmps132
   go_wp2_with fail
   go_ret
   rw [HE.out]
   exact ⟨none,0,rfl,Nat.le_refl _,HM0.out⟩
 · have hn1:¬ n<1:=by omega
   have hs1:¬ s<1:=by omega
   have HN:=K1 (fun k=>pcnt_next (n:=n) (k:=k) hs.1)
   have HL:=K1 (fun k (hk:k<pcnt n s)=>pcnt_lt hs.1 hk)
   have HB:=K1 (blocks_len n s)
   have HB2:=K1 (show blocksL n s=(List.range (pcnt n s)).map (blk1 n s) from rfl)
   have hp0:0<pcnt n s:=by unfold pcnt;rw [if_neg (by omega)];exact Nat.succ_pos _
   have hpn:=pcnt_le n s
   obtain ⟨c0,hc0⟩:∃ c0,c0=pcnt n s:=⟨_,rfl⟩
   rw [← hc0] at HN HL HB HB2 hp0 hpn
   clear hc0
   go_enter Tryz.func132,Tryz.ntmps132
   go_wp2_with fail
   go_loopw [5,6] (fun s5 s6 wr=>∃ (k x:Nat) (A:Option Addr) (c:Nat),((k<c0∧x=k*s)∨(k=c0∧x=n))∧x≤n∧s5=.slice A k c∧s6=.int .i64 x∧Hid (Mem wr [.bel w.heap.size w,rrO w.heap.size k c A ((List.range k).map (blk1 n s))])) (fun _ s6 _=>n-(intOf s6).toNat)
   case atStart=>exact ⟨0,0,none,0,.inl ⟨hp0,by omega⟩,Nat.zero_le _,rfl,rfl,HM0⟩
   case round =>
    clear HM0
    obtain ⟨k,x,A,c,hkx,hxn,rfl,rfl,HM⟩:=hrel
    rcases hkx with ⟨hk,hx⟩ | ⟨hk,hx⟩
    · have hlt:x<n:=by rw [hx];exact HL.out k hk
      obtain ⟨y,hy⟩:∃ y,y=x+min s (n-x):=⟨_,rfl⟩
      have HY:=K1 (show (List.range (k+1)).map (blk1 n s)=(List.range k).map (blk1 n s)++[(x,y)] by
       rw [blocks_snoc,show blk1 n s k=(x,y) by unfold blk1;rw [← hx,← hy]])
      have hxy:x<y:=by omega
      have hyn:y≤n:=by omega
      have HK:Hid ((k+1<c0∧y=(k+1)*s)∨(k+1=c0∧y=n)):=K1 (by
       have h1:=HN.out k hk
       rw [Nat.succ_mul,← hx] at h1 ⊢
       rcases Nat.lt_or_ge (x+s) n with h2 | h2
       · exact .inl ⟨h1.1 h2,by omega⟩
       · exact .inr ⟨h1.2 h2,by omega⟩)
      have HM3:=K1 (HM.out.alloc (.cells #[.int .i64 x,.int .i64 y] 72))
      have hkb:k≤1000000:=by omega
      have HX:=K1 hx
      clear hx HM
      by_cases hsn:(s:Int)<(n:Int)-(x:Int)
      · have e2:(x:Int)+(s:Int)=(y:Int):=by omega
        have wy:IntKind.i64.wrap (y:Int)=(y:Int):=IntWalk.i64_in _ (by omega)
        clear hy
        go_wp2_with (at_builtin;refine wpList_append_mem (n:=k) rfl _ _ 192 rfl HM3.out 1 rowRR rfl rfl _ 1 _ [.int .i64 x,.int .i64 y] rfl (HM3.out.box 2 rfl) rfl (by intro u hu;simp at hu;rcases hu with rfl | rfl <;> rfl) (by omega) ?_;intro A' c' W4 hM4)
        have HM5:=K1 (hM4.front 2)
        clear hM4 HM3
        go_wp2_with fail
        go_roundw
        case rel =>
         refine ⟨k+1,y,A',c',HK.out,hyn,rfl,rfl,?_⟩
         rw [HY.out]
         unfold rrO
         rw [rcells_snoc]
         exact HM5
        case measure=>simp [intOf];omega
      · have hyn2:n=y:=by omega
        have HYN:=K1 hyn2
        have hsn2:(n:Int)-(x:Int)≤(s:Int):=by omega
        rw [← hyn2] at HM3
        clear hy hyn2
        go_wp2_with (at_builtin;refine wpList_append_mem (n:=k) rfl _ _ 192 rfl HM3.out 1 rowRR rfl rfl _ 1 _ [.int .i64 x,.int .i64 n] rfl (HM3.out.box 2 rfl) rfl (by intro u hu;simp at hu;rcases hu with rfl | rfl <;> rfl) (by omega) ?_;intro A' c' W4 hM4)
        have HM5:=K1 (hM4.front 2)
        clear hM4 HM3
        go_wp2_with fail
        go_roundw
        case rel =>
         refine ⟨k+1,n,A',c',?_,Nat.le_refl _,rfl,rfl,?_⟩
         · have:=HK.out;rw [← HYN.out] at this;exact this
         · rw [HY.out,← HYN.out]
           unfold rrO
           rw [rcells_snoc]
           exact HM5
        case measure=>simp [intOf];omega
    · subst hk
      have hnn:¬ x<n:=by omega
      have HF:=K1 HM.out
      clear HM
      go_wp2_with fail
      go_ret
      rw [HB.out]
      refine ⟨A,c,rfl,own_cap (HF.out.own 1 rfl),?_⟩
      rw [HB2.out]
      exact HF.out
theorem rgroups_any (n s:Nat) (w:World) (hn:n≤1000000) (hs:1≤s∧s≤1048576) :
  Calls Tryz.prog 92 #[.int .i64 n,.int .i64 s] w fun e w'=>∃ A c,e=.returned (.slice A (blocksL n s).length c)∧(blocksL n s).length≤c∧Mem w' [.bel w.heap.size w,rrO w.heap.size (blocksL n s).length c A (blocksL n s)]:=by
 have CB:=K1 (rblocks_any n s w hn hs)
 go_enter Tryz.func92,Tryz.ntmps92
 go_wp2_with fail
 refine CB.out.mono ?_
 rintro e w1 ⟨A,c,rfl,h1,h2⟩
 have H:=K1 (And.intro h1 h2)
 clear h1 h2 CB
 go_wp2_with fail
 go_ret
 exact ⟨A,c,rfl,H.out.1,H.out.2⟩
set_option maxRecDepth 100000 in
theorem rbuckets_any (n s:Nat) (w:World) (hn:n≤1000000) (hs:1≤s∧s≤1048576) :
  Calls Tryz.prog 133 #[.int .i64 n,.int .i64 s] w fun e w'=>∃ A c,e=.returned (.slice A (bucketsL n s).length c)∧(bucketsL n s).length≤c∧Mem w' [.bel w.heap.size w,rrO w.heap.size (bucketsL n s).length c A (bucketsL n s)]:=by
 have CB:=K1 (rblocks_any n s w hn hs)
 have HE:=K1 (show bucketsL n s=(blocksL n s).reverse from rfl)
 have hlb:(blocksL n s).length≤1000000:=by rw [blocks_len];have:=pcnt_le n s;omega
 generalize blocksL n s=l at *
 obtain ⟨len,hlen⟩:∃ len,len=l.length:=⟨_,rfl⟩
 rw [← hlen] at CB hlb
 have HL:=K1 hlen
 clear hlen
 go_enter Tryz.func133,Tryz.ntmps133
 go_wp2_with fail
 refine CB.out.mono ?_
 rintro e w1 ⟨A0,cA,rfl,hcA,hm⟩
 have HM0:=K1 ((hm.freeze (i:=1) rfl).add (c:=rrO w.heap.size 0 0 none []) ⟨own_nil _ _ _ _,(hm.bel 0 rfl).size⟩ (fun _ _ _ _ g hg=>by cases hg))
 clear hm CB
 have hl1:IntKind.i64.wrap ((len:Int)-1)=(len:Int)-1:=IntWalk.i64_in _ (by omega)
 go_wp2_with fail
 go_loopw [6,7] (fun s6 s7 wr=>∃ (j q:Nat) (A:Option Addr) (c:Nat),q+j=len∧s6=.slice A q c∧s7=.int .i64 ((j:Int)-1)∧Hid (Mem wr [.bel w.heap.size w,.rd A0 (rcells l),rrO w.heap.size q c A (l.drop j).reverse])) (fun _ s7 _=>(intOf s7+1).toNat)
 case atStart =>
  refine ⟨len,0,none,0,by omega,rfl,rfl,?_⟩
  rw [List.drop_of_length_le (by rw [HL.out];exact Nat.le_refl _)]
  exact HM0
 case round =>
  clear HM0 hl1
  obtain ⟨j,q,A,c,hq,rfl,rfl,HM⟩:=hrel
  rcases Nat.eq_zero_or_pos j with hj | hj
  · subst hj
    have hneg:¬ (0:Int)≤((0:Nat):Int)-1:=by omega
    have HF:=K1 HM.out
    have HQ:=K1 hq
    clear HM hq
    go_wp2_with fail
    go_ret
    have e1:q=len:=by have:=HQ.out;omega
    rw [HE.out,List.length_reverse,← HL.out,← e1]
    exact ⟨A,c,rfl,own_cap (HF.out.own 2 rfl),HF.out.pick [0,2] _ rfl (by decide)⟩
  · obtain ⟨d,hd⟩:∃ d,j=d+1:=⟨j-1,by omega⟩
    have hjd:(j:Int)-1=(d:Int):=by omega
    obtain ⟨⟨x,y⟩,hxy⟩:=get_some l d (by have:=HL.out;omega)
    obtain ⟨b,off,rfl,hx⟩:=HM.out.ranges 1 rfl (by have:=HL.out;omega)
    have ⟨e1,e2⟩:=hx d (x,y) hxy
    have HDr:=K1 (show (l.drop d).reverse=(l.drop j).reverse++[(x,y)] by
     rw [hd,List.drop_eq_getElem_cons (by have:=(List.getElem?_eq_some_iff.1 hxy).1;exact this),List.reverse_cons]
     have:=(List.getElem?_eq_some_iff.1 hxy).2
     rw [this])
    have HM3:=K1 (HM.out.alloc (.cells #[.int .i64 x,.int .i64 y] 72))
    have hdl:d<len:=by omega
    have HQ:=K1 (show q+1+d=len by omega)
    have hqb:q≤1000000:=by omega
    clear hx hxy hd hq HM
    go_wp2_with (at_builtin;refine wpList_append_mem (n:=q) rfl _ _ 192 rfl HM3.out 2 rowRR rfl rfl _ 1 _ [.int .i64 x,.int .i64 y] rfl (HM3.out.box 3 rfl) rfl (by intro u hu;simp at hu;rcases hu with rfl | rfl <;> rfl) (by omega) ?_;intro A' c' W4 hM4)
    have HM5:=K1 (hM4.front 3)
    clear hM4 HM3 e1 e2
    go_wp2_with fail
    go_roundw
    case rel =>
     refine ⟨d,q+1,A',c',HQ.out,rfl,by go_num,?_⟩
     rw [HDr.out]
     unfold rrO
     rw [rcells_snoc]
     exact HM5
    case measure=>simp [intOf];omega
set_option maxRecDepth 100000 in
theorem rshift_any (w:World) (A0:Option Addr) (n c0 by_:Nat) (l:List (Nat × Nat)) (hr:Rd w w.heap.size A0 (rcells l)) (hl:l.length=n) (hn:n≤100000) (hb:by_≤100000) (hp:∀ p∈l,p.1≤100000∧p.2≤100000) :
  Calls Tryz.prog 170 #[.slice A0 n c0,.int .i64 by_] w fun e w'=>∃ A c,e=.returned (.slice A n c)∧n≤c∧Mem w' [.bel w.heap.size w,rrO w.heap.size n c A (shiftL by_ l)]:=by
 have HM0:=K1 (((Mem.start w).add_rd (i:=0) rfl hr).add (c:=rrO w.heap.size 0 0 none (shiftL by_ (l.take 0))) ⟨own_nil _ _ _ _,Nat.le_refl _⟩ (fun _ _ _ _ g hg=>by cases hg))
 have HL:=K1 (And.intro hl hp)
 clear hr hl hp
 go_enter Tryz.func170,Tryz.ntmps170
 go_wp2_with fail
 go_loopw [5,6] (fun s5 s6 wr=>∃ (k:Nat) (A:Option Addr) (c:Nat),k≤n∧s5=.slice A k c∧s6=.int .i64 k∧Hid (Mem wr [.bel w.heap.size w,.rd A0 (rcells l),rrO w.heap.size k c A (shiftL by_ (l.take k))])) (fun _ s6 _=>n-(intOf s6).toNat)
 case atStart=>exact ⟨0,none,0,Nat.zero_le _,rfl,rfl,HM0⟩
 case round =>
  clear HM0
  obtain ⟨k,A,c,hk,rfl,rfl,HM⟩:=hrel
  by_cases hlt:k<n
  · obtain ⟨⟨x,y⟩,hxy⟩:=get_some l k (by rw [HL.out.1];exact hlt)
    obtain ⟨b,off,rfl,_⟩:=HM.out.ranges 1 rfl (by have:=HL.out.1;omega)
    have HXY:=K1 hxy
    have hbd:=HL.out.2 _ (List.mem_of_getElem? hxy)
    dsimp only at hbd
    have HT:=K1 (show shiftL by_ (l.take (k+1))=shiftL by_ (l.take k)++[(x+by_,y+by_)] by rw [List.take_add_one,hxy];simp [shiftL])
    obtain ⟨x1,hx1⟩:∃ x1,x1=x+by_:=⟨_,rfl⟩
    obtain ⟨y1,hy1⟩:∃ y1,y1=y+by_:=⟨_,rfl⟩
    rw [← hx1,← hy1] at HT
    have ix:(x:Int)+(by_:Int)=(x1:Int):=by omega
    have iy:(y:Int)+(by_:Int)=(y1:Int):=by omega
    have wx:IntKind.i64.wrap (x1:Int)=(x1:Int):=IntWalk.i64_in _ (by omega)
    have wy:IntKind.i64.wrap (y1:Int)=(y1:Int):=IntWalk.i64_in _ (by omega)
    clear hxy hx1 hy1
    go_wp2_with fail
    refine name_wp fun W0 hW=>?_
    replace HM:=K1 (hW.out.symm ▸ HM.out)
    clear hW
    refine wp_region_stage (.reads [0,1,2,3,4,5,6,7,8,9,10,11,12,13,14,15] (.eff 16 (.eff 17 (.reads [18] .fin)))) 19 (fun W'=>W'.cell? ⟨b,off+k*2,none⟩=some (.int .i64 x)∧W'.cell? ⟨b,off+k*2+1,none⟩=some (.int .i64 y))
     (by kernel_rfl) (by kernel_rfl) (by intro d v c a w h;cases d <;> exact h) ?_
    replace HM:=K1 HM.out.drew
    generalize W0.drew=V at *
    refine PlS.reads_ (HM.out.range2 1 rfl HXY.out) (by kernel_rfl) ?_
    simp only [pickO,p1,p2,p3,p4]
    apply Exists.intro
    apply And.intro
    · intro W' hS
      obtain ⟨s1,s2⟩:=hS
      repeat still_step
      exact wpStill_nil rfl
    refine PlS.eff_ ?_
    simp only [pickO,p1,p2,p3,p4]
    go_wp2_with fail
    refine name_after fun W7 hW=>?_
    replace HM:=K1 (HM.out.alloc_ hW.out)
    clear hW
    refine After.go (HM.out.range2 1 rfl HXY.out) ?_
    refine PlS.eff_ ?_
    simp only [pickO,p1,p2,p3,p4]
    refine wpList_append_mem (n:=k) rfl _ _ 192 rfl HM.out 2 rowRR rfl rfl _ 1 _ [.int .i64 x1,.int .i64 y1] rfl (HM.out.box 3 rfl) rfl (by intro u hu;simp at hu;rcases hu with rfl | rfl <;> rfl) (by omega) ?_
    intro A' c' W8 hM8
    replace HM:=K1 (hM8.front 3)
    clear hM8
    go_wp2_with fail
    refine After.go (HM.out.range2 1 rfl HXY.out) ?_
    refine PlS.reads_ (HM.out.range2 1 rfl HXY.out) (by kernel_rfl) ?_
    simp only [pickO,p1,p2,p3,p4]
    apply Exists.intro
    apply And.intro
    · intro W' hS
      clear hS
      repeat still_step
      exact wpStill_nil rfl
    refine PlS.fin_ ?_
    go_wp2_with fail
    go_roundw
    case rel =>
     refine ⟨k+1,A',c',by omega,rfl,by go_num,?_⟩
     rw [HT.out]
     unfold rrO
     rw [rcells_snoc]
     exact HM
    case measure=>simp [intOf];omega
  · have hkn:k=n:=by omega
    subst hkn
    have HF:=K1 HM.out
    clear HM
    go_wp2_with fail
    go_ret
    have e1:l.take k=l:=List.take_of_length_le (by rw [HL.out.1];exact Nat.le_refl _)
    have h9:=HF.out
    rw [e1] at h9
    exact ⟨A,c,rfl,own_cap (h9.own 2 rfl),h9.pick [0,2] _ rfl (by decide)⟩
set_option maxRecDepth 100000 in
theorem rchunks_any (w:World) (lo hi s:Nat) (hlo:lo≤hi) (hhi:hi≤1000) (hs:1≤s∧s≤1048576) :
  Calls Tryz.prog 163 #[.agg #[.int .i64 lo,.int .i64 hi],.int .i64 s] w fun e w'=>∃ A c,e=.returned (.slice A (segChunks s (lo,hi)).length c)∧(segChunks s (lo,hi)).length≤c∧Mem w' [.bel w.heap.size w,rrO w.heap.size (segChunks s (lo,hi)).length c A (segChunks s (lo,hi))]:=by
 have CB:=K1 (fun W=>rblocks_any (hi-lo) s W (by omega) hs)
 have hln:(blocksL (hi-lo) s).length≤1000:=by rw [blocks_len];have:=pcnt_le (hi-lo) s;omega
 have hbl:∀ p∈blocksL (hi-lo) s,p.1≤100000∧p.2≤100000:=fun p hp=>by
  have h1:=blocks_le (hi-lo) s hs.1 p hp
  have h2:=blocks_ord (hi-lo) s p hp
  omega
 have HE:=K1 (show segChunks s (lo,hi)=shiftL lo (blocksL (hi-lo) s)∧(segChunks s (lo,hi)).length=(blocksL (hi-lo) s).length from ⟨rfl,shift_len _ _⟩)
 have CS:=K1 (fun W A c hr=>rshift_any W A (blocksL (hi-lo) s).length c lo (blocksL (hi-lo) s) hr rfl (by omega) (by omega) hbl)
 have HM:=K1 ((Mem.start w).alloc (.cells #[.int .i64 lo,.int .i64 hi] 72))
 obtain ⟨d,hd⟩:∃ d,d=hi-lo:=⟨_,rfl⟩
 rw [← hd] at CB CS HE hln
 have id_:(hi:Int)-(lo:Int)=(d:Int):=by omega
 have wd:IntKind.i64.wrap (d:Int)=(d:Int):=IntWalk.i64_in _ (by omega)
 clear hd hbl
 go_enter Tryz.func163,Tryz.ntmps163
 go_wp2_with fail
 refine name_wp fun W0 hW=>?_
 replace HM:=K1 (hW.out.symm ▸ HM.out)
 clear hW
 refine wp_region_stage (.reads [0,1,2,3,4,5,7,8] (.eff 6 (.eff 9 (.reads [10] (.fin))))) 11 (fun W'=>∀ j,W'.cell? ⟨w.heap.size,j,none⟩=([.int .i64 lo,.int .i64 hi]:List Value)[j]?)
  (by kernel_rfl) (by kernel_rfl) (by intro d v c a w h;cases d <;> exact h) ?_
 replace HM:=K1 HM.out.drew
 generalize W0.drew=V at *
 refine PlS.reads_ (HM.out.cells 1 rfl) (by kernel_rfl) ?_
 simp only [pickO,p1,p2,p3,p4]
 apply Exists.intro
 apply And.intro
 · intro W' hS
   repeat still_step
   exact wpStill_nil rfl
 refine PlS.eff_ ?_
 simp only [pickO,p1,p2,p3,p4]
 go_wp2_with fail
 refine (CB.out _).mono ?_
 rintro e w2 ⟨A1,c1,rfl,hc1,hm2⟩
 have hrd:=rd_of_own (hm2.own 1 rfl)
 have hA1:=own_from_base (hm2.own 1 rfl)
 replace HM:=K1 (HM.out.push_rd (hm2.bel 0 rfl) hrd hA1)
 clear hm2 hrd hA1 CB
 go_wp2_with fail
 refine After.go (HM.out.cells 1 rfl) ?_
 refine PlS.eff_ ?_
 simp only [pickO,p1,p2,p3,p4]
 go_wp2_with fail
 refine (CS.out _ _ _ (HM.out.rd 2 rfl)).mono ?_
 rintro e w3 ⟨A2,c2,rfl,hc2,hm3⟩
 have hg:=(HM.out.bel 0 rfl).size
 replace HM:=K1 ((HM.out.push_own (hm3.bel 0 rfl) (hm3.own 1 rfl) rfl).lower (i:=3) rfl hg)
 clear hm3 CS hg
 go_wp2_with fail
 refine After.go (HM.out.cells 1 rfl) ?_
 refine PlS.reads_ (HM.out.cells 1 rfl) (by kernel_rfl) ?_
 simp only [pickO,p1,p2,p3,p4]
 apply Exists.intro
 apply And.intro
 · intro W' hS
   repeat still_step
   exact wpStill_nil rfl
 refine PlS.fin_ ?_
 go_wp2_with fail
 go_ret
 rw [HE.out.2]
 refine ⟨A2,c2,rfl,hc2,?_⟩
 rw [HE.out.1]
 exact HM.out.pick [0,3] _ rfl (by decide)
def evSz (k j:Nat):List Nat:=(List.range k).map fun i=>j / k+if i<j % k then 1 else 0
theorem evSz_len (k j:Nat):(evSz k j).length=k:=by simp [evSz]
theorem evSz_at {k j i:Nat} (h:i<k):(evSz k j)[i]?=some (j / k+if i<j % k then 1 else 0):=by simp [evSz,h]
theorem evSz_zero (k:Nat):evSz k 0=List.replicate k 0:=by
 apply List.ext_getElem?
 intro i
 rcases Nat.lt_or_ge i k with h | h
 · rw [evSz_at h];simp [h]
 · rw [List.getElem?_eq_none (by rw [evSz_len];exact h),List.getElem?_eq_none (by simpa using h)]
theorem evSz_succ {k:Nat} (hk:1≤k) (j:Nat):evSz k (j+1)=(evSz k j).set (j % k) (j / k+1):=by
 have hm:=Nat.mod_lt j hk
 have hd:=Nat.div_add_mod j k
 have hcases:(j % k+1<k∧(j+1) / k=j / k∧(j+1) % k=j % k+1)∨(j % k+1=k∧(j+1) / k=j / k+1∧(j+1) % k=0):=by
  rcases Nat.lt_or_ge (j % k+1) k with h | h
  · refine .inl ⟨h,?_,?_⟩
    · rw [← hd,Nat.add_assoc,Nat.mul_add_div (by omega),Nat.div_eq_of_lt h,Nat.mul_add_div (by omega),Nat.div_eq_of_lt hm]
    · rw [← hd,Nat.add_assoc,Nat.mul_add_mod,Nat.mod_eq_of_lt h,Nat.mul_add_mod,Nat.mod_mod]
  · have e:j % k+1=k:=by omega
    refine .inr ⟨e,?_,?_⟩
    · rw [← hd,Nat.add_assoc,e,Nat.mul_add_div (by omega),Nat.div_self (by omega),Nat.mul_add_div (by omega),Nat.div_eq_of_lt hm]
    · rw [← hd,Nat.add_assoc,e,Nat.mul_add_mod,Nat.mod_self]
 apply List.ext_getElem?
 intro i
 rcases Nat.lt_or_ge i k with h | h
 · rw [evSz_at h]
   by_cases hi:j % k=i
   · subst hi
     rw [List.getElem?_set_self (by rw [evSz_len];exact h)]
     rcases hcases with ⟨h1,h2,h3⟩ | ⟨h1,h2,h3⟩
     · rw [h2,h3,if_pos (by omega)]
     · rw [h2,h3,if_neg (by omega)]
   · rw [List.getElem?_set_ne hi,evSz_at h]
     rcases hcases with ⟨h1,h2,h3⟩ | ⟨h1,h2,h3⟩
     · rw [h2,h3]
       congr 2
       by_cases h4:i<j % k
       · rw [if_pos h4,if_pos (by omega)]
       · rw [if_neg h4,if_neg (by omega)]
     · rw [h2,h3,if_neg (by omega),if_pos (by omega)]
 · rw [List.getElem?_eq_none (by rw [evSz_len];exact h),List.getElem?_eq_none (by rw [List.length_set,evSz_len];exact h)]
theorem bnd_next (n k i:Nat):bnd n k (i+1)=bnd n k i+(n / k+if i<n % k then 1 else 0):=by
 unfold bnd
 rw [Nat.succ_mul]
 generalize i*(n / k)=a
 generalize n / k=b
 generalize n % k=c
 split <;> omega
theorem made_zeroI (n:Nat):madeCells #[Value.int .i64 0] n=(iCells (List.replicate n 0)).toArray:=by
 have h:=toList_madeCells_one (.int .i64 0) n
 apply Array.ext'
 rw [h]
 simp [iCells]
theorem run_make_ints (n:Nat) (hn:n≤1048576) (W:World):(Instr.makeSlice 22 (.int .i64 (n:Int)) (.int .i64 (n:Int))).run Tryz.prog W=.ok (.slice (some ⟨W.heap.size,0,none⟩) n n) (W.alloc (.cells (iCells (List.replicate n 0)).toArray 3)):=by
 obtain ⟨i0,hi,hz0,hz1,hz2⟩:=info_parts infoCI
 have hr:=run_make (P:=Tryz.prog) W 22 3 i0 (.int .i64 0) Tryz.underlying22 hi hz0 .i64 .i64 n n (by omega) (by omega) (by rw [hz2];omega) (by omega)
 rw [← made_zeroI]
 simpa [hz1,Value.cells] using hr
theorem own_zeroI (w:World) (n:Nat) (hn:n≤1048576):(w.alloc (.cells (iCells (List.replicate n 0)).toArray 3)).ownsRow w.heap.size 3 1 (.slice (some ⟨w.heap.size,0,none⟩) n n) n (iCells (List.replicate n 0)) :=
 ⟨by simp [iCells],.inr ⟨w.heap.size,n,(iCells (List.replicate n 0)).toArray,rfl,Nat.le_refl _,heap_alloc_new w _,Nat.le_refl _,by simp [maxLen];omega,by simp [iCells],by simp [iCells]⟩⟩
set_option maxRecDepth 100000 in
theorem reven_any (n k:Nat) (w:World) (hn:n≤100000) (hk:1≤k∧k≤1000) :
  Calls Tryz.prog 162 #[.int .i64 n,.int .i64 k] w fun e w'=>∃ A c,e=.returned (.slice A k c)∧k≤c∧Mem w' [.bel w.heap.size w,rrO w.heap.size k c A (evenL n k)]:=by
 have hmk:=run_make_ints k (by omega) w
 have HM0:=K1 (show Mem _ [.bel w.heap.size w,.own w.heap.size 3 1 (.slice (some ⟨w.heap.size,0,none⟩) k k) k (iCells (evSz k 0))] by
  rw [evSz_zero]
  exact (Mem.start w).push_own ((Below.refl _ _).alloc (Nat.le_refl _) _) (own_zeroI w k (by omega)) rfl)
 have hn0:¬ (n:Int)<0:=by omega
 have hk1:¬ k<1:=by omega
 have hkz:¬ k=0:=by omega
 have HS:=K1 (fun j=>evSz_succ hk.1 j)
 have HA:=K1 (fun (j i:Nat) (h:i<k)=>evSz_at (j:=j) h)
 have HN:=K1 (fun i=>bnd_next n k i)
 have HBl:=K1 (fun i (hi:i≤k)=>bnd_le (n:=n) hk.1 hi)
 have HD:=K1 (fun (j:Nat) (hj:j≤n)=>Nat.le_trans (Nat.div_le_self j k) hj)
 go_enter Tryz.func162,Tryz.ntmps162
 go_wp2_with fail
 go_loopw [6] (fun s6 wr=>∃ j:Nat,j≤n∧s6=.int .i64 j∧Hid (Mem wr [.bel w.heap.size w,.own w.heap.size 3 1 (.slice (some ⟨w.heap.size,0,none⟩) k k) k (iCells (evSz k j))])) (fun s6 _=>n-(intOf s6).toNat)
 case atStart=>exact ⟨0,Nat.zero_le _,rfl,HM0⟩
 case round =>
  clear HM0 hmk
  obtain ⟨j,hj,rfl,HM⟩:=hrel
  by_cases hlt:j<n
  · obtain ⟨r,hr⟩:∃ r,r=j % k:=⟨_,rfl⟩
    have hrk:r<k:=by rw [hr];exact Nat.mod_lt _ hk.1
    obtain ⟨v,hv⟩:∃ v,v=j / k:=⟨_,rfl⟩
    have hvb:v≤100000:=by rw [hv];have:=HD.out j hj;omega
    have e3:(j:Int).tmod (k:Int)=(r:Int):=by rw [hr];exact (Int.ofNat_tmod _ _).symm
    have wr_:IntKind.i64.wrap (r:Int)=(r:Int):=IntWalk.i64_in _ (by omega)
    have e1:wr.cell? ⟨w.heap.size,r,none⟩=some (.int .i64 v):=((HM.out.own 1 rfl).cellAt r (by omega)).trans (by
     have:=HA.out j r hrk
     rw [← hr,← hv,if_neg (Nat.lt_irrefl _)] at this
     simp [iCells,this])
    have kf:=HM.out.ownF 1 rfl
    obtain ⟨v1,hv1⟩:∃ v1,v1=v+1:=⟨_,rfl⟩
    have iv:(v:Int)+1=(v1:Int):=by omega
    have wv:IntKind.i64.wrap (v1:Int)=(v1:Int):=IntWalk.i64_in _ (by omega)
    have hm2:=HM.out.setOwn (i:=1) (j:=r) rfl (.int .i64 v1)
    have hs:(iCells (evSz k j)).set r (.int .i64 v1)=iCells (evSz k (j+1)):=by
     rw [HS.out j,← hr,← hv,← hv1];simp [iCells]
    rw [hs] at hm2
    have HM2:=K1 hm2
    clear hr hv hv1 hm2 hs HM
    go_wp2_with fail
    go_roundw
    case rel=>exact ⟨j+1,by omega,by go_num,HM2⟩
    case measure=>simp [intOf];omega
  · have hjn:j=n:=by omega
    subst hjn
    have HM1:=K1 ((HM.out.freeze (i:=1) rfl).add (c:=rrO w.heap.size 0 0 none ((List.range 0).map fun i=>(bnd j k i,bnd j k (i+1)))) ⟨own_nil _ _ _ _,(HM.out.bel 0 rfl).size⟩ (fun _ _ _ _ g hg=>by cases hg))
    clear HM
    go_wp2_with fail
    go_loopw [7,8,9] (fun s7 s8 s9 wr=>∃ (i:Nat) (A:Option Addr) (c:Nat),i≤k∧s7=.slice A i c∧s8=.int .i64 (bnd j k i:Nat)∧s9=.int .i64 i∧Hid (Mem wr [.bel w.heap.size w,.rd (some ⟨w.heap.size,0,none⟩) (iCells (evSz k j)),rrO w.heap.size i c A ((List.range i).map fun i=>(bnd j k i,bnd j k (i+1)))])) (fun _ _ s9 _=>k-(intOf s9).toNat)
    case atStart=>exact ⟨0,none,0,Nat.zero_le _,rfl,by simp [bnd],rfl,HM1⟩
    case round =>
     clear HM1
     obtain ⟨i,A,c,hi,rfl,rfl,rfl,HM⟩:=hrel
     by_cases hlt2:i<k
     · obtain ⟨x,hx⟩:∃ x,x=bnd j k i:=⟨_,rfl⟩
       obtain ⟨y,hy⟩:∃ y,y=bnd j k (i+1):=⟨_,rfl⟩
       obtain ⟨v,hv⟩:∃ v,v=j / k+if i<j % k then 1 else 0:=⟨_,rfl⟩
       have hxy:=HN.out i
       rw [← hx,← hy,← hv] at hxy
       have hyb:y≤j:=by rw [hy];exact HBl.out (i+1) hlt2
       have e1:wr.cell? ⟨w.heap.size,i,none⟩=some (.int .i64 v):=by
        have:=HM.out.rdAt 1 rfl (show (iCells (evSz k j))[i]?=some (.int .i64 v) by simp [iCells,HA.out j i hlt2,hv])
        rwa [Nat.zero_add] at this
       have iy:(x:Int)+(v:Int)=(y:Int):=by omega
       have wy:IntKind.i64.wrap (y:Int)=(y:Int):=IntWalk.i64_in _ (by omega)
       have HEV:=K1 (show (iCells (evSz k j))[i]?=some (.int .i64 v) by simp [iCells,HA.out j i hlt2,hv])
       have HT:=K1 (show (List.range (i+1)).map (fun i=>(bnd j k i,bnd j k (i+1)))=(List.range i).map (fun i=>(bnd j k i,bnd j k (i+1)))++[(x,y)] by rw [List.range_succ,List.map_append,hx,hy];rfl)
       have HY:=K1 hy
       have HM3:=K1 (HM.out.alloc (.cells #[.int .i64 x,.int .i64 y] 72))
       rw [← hx]
       clear hx hy hv hxy HM
       go_wp2_with (at_builtin;refine wpList_append_mem (n:=i) rfl _ _ 192 rfl HM3.out 2 rowRR rfl rfl _ 1 _ [.int .i64 x,.int .i64 y] rfl (HM3.out.box 3 rfl) rfl (by intro u hu;simp at hu;rcases hu with rfl | rfl <;> rfl) (by omega) ?_;intro A' c' W4 hM4;have e2:=hM4.rdAt 1 rfl HEV.out;rw [Nat.zero_add] at e2)
       have HM5:=K1 (hM4.front 3)
       clear hM4 HM3 e1 e2
       go_wp2_with fail
       go_roundw
       case rel =>
        refine ⟨i+1,A',c',by omega,rfl,by rw [← HY.out],by go_num,?_⟩
        rw [HT.out]
        unfold rrO
        rw [rcells_snoc]
        exact HM5
       case measure=>simp [intOf];omega
     · have hik:i=k:=by omega
       subst hik
       have HF:=K1 HM.out
       clear HM
       go_wp2_with fail
       go_ret
       exact ⟨A,c,rfl,own_cap (HF.out.own 2 rfl),HF.out.pick [0,2] _ rfl (by decide)⟩
set_option maxRecDepth 100000 in
theorem rsegs_any (w:World) (lo hi k:Nat) (hlo:lo≤hi) (hhi:hi≤1000) (hk:1≤k∧k≤1000) :
  Calls Tryz.prog 164 #[.agg #[.int .i64 lo,.int .i64 hi],.int .i64 k] w fun e w'=>∃ A c,e=.returned (.slice A k c)∧k≤c∧Mem w' [.bel w.heap.size w,rrO w.heap.size k c A (shiftL lo (evenL (hi-lo) k))]:=by
 have CB:=K1 (fun W=>reven_any (hi-lo) k W (by omega) hk)
 have hbl:∀ p∈evenL (hi-lo) k,p.1≤100000∧p.2≤100000:=fun p hp=>by
  have:=even_le (hi-lo) k hk.1 p hp
  omega
 have CS:=K1 (fun W A c hr=>rshift_any W A k c lo (evenL (hi-lo) k) hr (even_len _ _) (by omega) (by omega) hbl)
 have HM:=K1 ((Mem.start w).alloc (.cells #[.int .i64 lo,.int .i64 hi] 72))
 obtain ⟨d,hd⟩:∃ d,d=hi-lo:=⟨_,rfl⟩
 rw [← hd] at CB CS
 rw [← hd]
 have id_:(hi:Int)-(lo:Int)=(d:Int):=by omega
 have wd:IntKind.i64.wrap (d:Int)=(d:Int):=IntWalk.i64_in _ (by omega)
 clear hd hbl
 go_enter Tryz.func164,Tryz.ntmps164
 go_wp2_with fail
 refine name_wp fun W0 hW=>?_
 replace HM:=K1 (hW.out.symm ▸ HM.out)
 clear hW
 refine wp_region_stage (.reads [0,1,2,3,4,5,7,8] (.eff 6 (.eff 9 (.reads [10] (.fin))))) 11 (fun W'=>∀ j,W'.cell? ⟨w.heap.size,j,none⟩=([.int .i64 lo,.int .i64 hi]:List Value)[j]?)
  (by kernel_rfl) (by kernel_rfl) (by intro d v c a w h;cases d <;> exact h) ?_
 replace HM:=K1 HM.out.drew
 generalize W0.drew=V at *
 refine PlS.reads_ (HM.out.cells 1 rfl) (by kernel_rfl) ?_
 simp only [pickO,p1,p2,p3,p4]
 apply Exists.intro
 apply And.intro
 · intro W' hS
   repeat still_step
   exact wpStill_nil rfl
 refine PlS.eff_ ?_
 simp only [pickO,p1,p2,p3,p4]
 go_wp2_with fail
 refine (CB.out _).mono ?_
 rintro e w2 ⟨A1,c1,rfl,hc1,hm2⟩
 have hrd:=rd_of_own (hm2.own 1 rfl)
 have hA1:=own_from_base (hm2.own 1 rfl)
 replace HM:=K1 (HM.out.push_rd (hm2.bel 0 rfl) hrd hA1)
 clear hm2 hrd hA1 CB
 go_wp2_with fail
 refine After.go (HM.out.cells 1 rfl) ?_
 refine PlS.eff_ ?_
 simp only [pickO,p1,p2,p3,p4]
 go_wp2_with fail
 refine (CS.out _ _ _ (HM.out.rd 2 rfl)).mono ?_
 rintro e w3 ⟨A2,c2,rfl,hc2,hm3⟩
 have hg:=(HM.out.bel 0 rfl).size
 replace HM:=K1 ((HM.out.push_own (hm3.bel 0 rfl) (hm3.own 1 rfl) rfl).lower (i:=3) rfl hg)
 clear hm3 CS hg
 go_wp2_with fail
 refine After.go (HM.out.cells 1 rfl) ?_
 refine PlS.reads_ (HM.out.cells 1 rfl) (by kernel_rfl) ?_
 simp only [pickO,p1,p2,p3,p4]
 apply Exists.intro
 apply And.intro
 · intro W' hS
   repeat still_step
   exact wpStill_nil rfl
 refine PlS.fin_ ?_
 go_wp2_with fail
 go_ret
 exact ⟨A2,c2,rfl,hc2,HM.out.pick [0,3] _ rfl (by decide)⟩
end Go.Proofs.YtdpojpcoghcieaaGreat
