/- A part of the proof of TopSerial: Works, GiP, RefBkt, RefShift, RefSeg, RefRing. Conditions: none. -/
import Derived.Test.YtdpojpcoghcieaaGreatSdBU
set_option maxHeartbeats 8000000
namespace Go.Proofs.YtdpojpcoghcieaaGreat
open Lib renaming hid → K1
open List renaming filterMap_cons → p1, filterMap_nil → p2, getElem?_cons_zero → p3, getElem?_cons_succ → p4
open Go.RowKit
theorem fin_done {r:Rn} {x x':Wv} {most n T:Nat} {b:Bool} (hw:WorldOk r x) (hf:FinR r x most n x') (hb:b=true↔∀ m∈x'.ms,r.c.st≤m.t) (ho:b=true∨n=most) (hm:most=T*r.c.k) (hT:totR r≤T):b=true:=by
 rcases ho with h | h
 · exact h
 · obtain ⟨_,_,_,c,hr⟩:=hf
   rw [h,hm] at hr
   have h1:=turns_do T hw hr
   have hw':=WorldOk.run _ hw hr
   have h2:=cnt_bound hw'.ok hw'.cnt
   exact hb.2 (h2.2.1 (by omega))
theorem fin_rcd {r:Rn} {st:List Int} {x x':Wv} {most n:Nat} (hst:st.length=r.p) (hw:WorldOk r x) (hd:DynOk r st x) (hf:FinR r x most n x') (hb:∀ m∈x'.ms,r.c.st≤m.t):∀ m∈x'.ms,m.rcd.map Ex.nums=(List.range (r.c.st+1)).map (serS r st):=fun m hm=>by
 obtain ⟨_,h1,_,c,hr⟩:=hf
 have hd':=RunR.dyn hst _ hw.ok hd hr
 obtain ⟨u,hu⟩:=List.getElem?_of_mem hm
 exact dyn_end h1 hd' hu (hb m hm)
theorem small_tot:totR smallR≤50:=by decide
set_option maxRecDepth 100000 in
theorem works_val (w:World):Calls Tryz.prog 8 #[] w fun e w'=>e=.returned (.bool true)∧Below w.heap.size w w':=by
 have CS:=K1 (small_any w)
 go_enter Tryz.func8,Tryz.ntmps8
 go_wp2_with fail
 refine CS.out.mono ?_
 rintro e w1 ⟨A,D,S,R,x0,y0,x1,y1,rfl,hat,hb1⟩
 have hok:=smallI_ok A D S R x0 y0 x1 y1
 have CN:=K1 (snew_any w1 _ hok hat)
 have HB:=K1 hb1
 dsimp only [Inp.cells,smallI] at CN
 clear hat hb1 CS
 go_wp2_with fail
 refine CN.out.mono ?_
 rintro e w2 ⟨x,rfl,hxo,hxc,hxm,hxl,hM⟩
 have hxo':x.Ok smallR:=hxo
 obtain ⟨hw,hd⟩:=dyn_ini (st:=[4,2]) hxo' hxc hxm hxl
 have CF:=K1 (finish_any w2 x smallR _ hM hxo' 100 (by omega))
 have HW:=K1 (And.intro hw hd)
 clear hxo hxo' hxc hxm hxl hM hw hd CN hok
 go_wp2_with fail
 refine CF.out.mono ?_
 rintro e w3 ⟨n,b,y,rfl,hf,hb,hor,hM⟩
 have hb1:=fin_done (T:=50) HW.out.1 hf hb hor rfl small_tot
 have hall:=hb.1 hb1
 have hrc:=fin_rcd rfl HW.out.1 HW.out.2 hf hall
 obtain ⟨_,hyo,hyg,c,hr⟩:=hf
 have hcnt:=(WorldOk.run _ HW.out.1 hr)
 have hyc:y.count≤1000000:=by have:=(cnt_bound hyo hcnt.cnt).1;have:=small_tot;omega
 obtain ⟨m,hm⟩:=get_some y.ms 1 (by rw [hyo.lm];decide)
 have CT:=K1 (fun W hMW=>wtraj_any W y smallR [.bel w1.heap.size w1] hMW hyo hyc 1 m hm)
 have CD:=K1 (fun W hMW=>done_any W y smallR [.bel w1.heap.size w1] hMW hyo)
 have hmr:=hrc m (List.mem_of_getElem? hm)
 have hml:m.rcd.length=2:=by have:=congrArg List.length hmr;simpa [smallR] using this
 rw [hml,hyg] at CT
 rw [hyg] at CD
 have HM:=K1 hM
 have HR:=K1 (And.intro hmr hall)
 clear hM hb hor hall hrc hyo hyg hr hcnt hyc hm hmr hml CF HW hb1
 go_wp2_with fail
 refine (CT.out _ HM.out).mono ?_
 rintro e w4 ⟨B,cb,l,rfl,hl,hle,hb4⟩
 replace HM:=K1 (HM.out.below hb4)
 have hll:l.map Ex.nums=[serS smallR [4,2] 0,serS smallR [4,2] 1]:=hle.trans HR.out.1
 have HL:=K1 (And.intro hl hll)
 clear hl hle hb4 hll CT
 go_wp2_with fail
 refine (CD.out _ HM.out).mono ?_
 rintro e w5 ⟨b,rfl,hb5,hbl5⟩
 have hb6:=hb5.2 HR.out.2
 subst hb6
 have hw5:=HM.out.below hbl5
 obtain ⟨hl,hll⟩:=HL.out
 replace hl:=hl.below hbl5
 obtain ⟨e0,e1,rfl⟩:∃ e0 e1,l=[e0,e1]:=by
  have h2:l.length=2:=by have:=congrArg List.length hll;simpa using this
  rcases l with _ | ⟨a,_ | ⟨b,_ | ⟨c,r⟩⟩⟩
  · simp at h2
  · simp at h2
  · exact ⟨a,b,rfl⟩
  · simp at h2
 simp only [List.map_cons,List.map_nil,List.cons.injEq,and_true] at hll
 have hP:e1.xs=[-4,-2]:=(congrArg Prod.fst hll.2).trans small_ser
 obtain ⟨bb,off,hBe⟩:=hl.addr (by simp)
 subst hBe
 have ha:=(hl.at_ (k:=1) (e:=e1) rfl).1
 rw [hP] at ha
 have hx:=hl.fam _ (exFam_x (e:=e1) (by simp))
 rw [hP] at hx
 obtain ⟨bx,ox,hxe,_,hcx⟩:=hx (by simp)
 dsimp only at hxe
 rw [hxe] at ha
 have p0:=hcx 0 _ (show (zC [-4,-2])[0]?=some (.int .i64 (-4)) from rfl)
 have p1:=hcx 1 _ (show (zC [-4,-2])[1]?=some (.int .i64 (-2)) from rfl)
 have HF:=K1 hw5
 simp only [List.length_cons,List.length_nil,Nat.zero_add,Nat.reduceAdd,Nat.one_mul] at ha
 rw [Nat.add_zero] at p0
 clear hl hll hP hx hcx hw5 hbl5 hb5 HL HM CD hxe
 go_wp2_with fail
 go_ret
 exact ⟨rfl,HB.out.trans ((HF.out.bel y.ps.length at_mid).mono HB.out.size)⟩
structure Gi where
 A:Option Addr
 cap:Nat
 zs:List Int
 DA:Option Addr
 dcap:Nat
 l:List Ex
 SA:Option Addr
 scap:Nat
 ss:List Int
 RA:Option Addr
 rcap:Nat
 ds:List Nat
 sh:Int
 ra:Int
 mo:Int
 wo:Int
 ba:Int
 mi:Int
 st:Int
 bu:Int
 ch:Int
 wi:Int
 ca:Int
def Gi.cf (g:Gi):List Value:=[.slice g.A g.zs.length g.cap,.int .i64 g.sh,.int .i64 g.ra,.int .i64 g.mo,.int .i64 g.wo,.int .i64 g.ba,.int .i64 g.mi,.int .i64 g.st,.int .i64 g.bu,.int .i64 g.ch,.int .i64 g.wi,.int .i64 g.ca]
def Gi.cells (g:Gi):List Value:=[.slice g.A g.zs.length g.cap,.int .i64 g.sh,.int .i64 g.ra,.int .i64 g.mo,.int .i64 g.wo,.int .i64 g.ba,.int .i64 g.mi,.int .i64 g.st,.int .i64 g.bu,.int .i64 g.ch,.int .i64 g.wi,.int .i64 g.ca,.slice g.DA g.l.length g.dcap,.slice g.SA g.ss.length g.scap,.slice g.RA g.ds.length g.rcap]
def Gi.pl (g:Gi):List Value:=[.slice g.A g.zs.length g.cap,.int .i64 g.sh,.int .i64 g.ra,.int .i64 g.mo,.int .i64 g.wo,.int .i64 g.ba,.int .i64 g.mi,.int .i64 g.st,.int .i64 g.bu,.int .i64 g.ch,.int .i64 g.wi,.int .i64 g.ca,.int .i64 g.ss.length]
def Gi.cc (g:Gi):Int:=confCode g.zs ⟨g.sh,0,0,g.wo,g.ba,g.mi,g.st,g.bu,g.ch,g.wi,g.ca⟩
def Gi.code (g:Gi):Int:=inCode g.cc g.zs g.st g.ba g.l g.ss.length g.ds.length
structure Gi.At (g:Gi) (w:World):Prop where
 z:RdI w w.heap.size g.A g.zs
 zc:g.zs.length≤g.cap
 zm:g.zs.length≤9223372036854775807
 l:RdE w w.heap.size g.DA g.l
 lm:g.l.length≤9223372036854775807
 ex:∀ e∈g.l,In64 e.xs∧In64 e.ys
 s:Rd w w.heap.size g.SA (zC g.ss)
 sm:g.ss.length≤9223372036854775807
 si:In64 g.ss
 d:Rd w w.heap.size g.RA (uCells g.ds)
 dm:g.ds.length≤9223372036854775807
 ra:-9223372036854775808≤g.ra∧g.ra≤9223372036854775807
 mo:-9223372036854775808≤g.mo∧g.mo≤9223372036854775807
theorem Gi.At.below {g:Gi} {w w':World} (h:g.At w) (hb:Below w.heap.size w w'):g.At w' :=
 ⟨(RdI.below h.z hb).more hb.size,h.zc,h.zm,(RdE.below h.l hb).more hb.size,h.lm,h.ex,(h.s.below hb).more hb.size,h.sm,h.si,(h.d.below hb).more hb.size,h.dm,h.ra,h.mo⟩
structure Gi.Small (g:Gi):Prop where
 code:g.code=0
 wo:g.wo≤6
 st:g.st≤5
 s:g.ss.length≤40
 l:g.l.length≤40
 mi:g.mi≤20
 d:g.ds.length≤2000
theorem rgroups_any (n s:Nat) (w:World) (hn:n≤1000000) (hs:1≤s∧s≤1048576) :
  Calls Tryz.prog 92 #[.int .i64 n,.int .i64 s] w fun e w'=>∃ A c,e=.returned (.slice A (blocksL n s).length c)∧(blocksL n s).length≤c∧Mem w' [.bel w.heap.size w,rrO w.heap.size (blocksL n s).length c A (blocksL n s)]:=by
 have CB:=K1 (rblocks_any n s w hn hs)
 go_enter Tryz.func92,Tryz.ntmps92
 go_wp2_with fail
 refine CB.out.mono ?_
 rintro e w1 ⟨A,c,rfl,h1,h2⟩
 have H:=K1 (And.intro h1 h2)
 clear h1 h2 CB
 go_wp2_with fail
 go_ret
 exact ⟨A,c,rfl,H.out.1,H.out.2⟩
set_option maxRecDepth 100000 in
theorem rbuckets_any (n s:Nat) (w:World) (hn:n≤1000000) (hs:1≤s∧s≤1048576) :
  Calls Tryz.prog 133 #[.int .i64 n,.int .i64 s] w fun e w'=>∃ A c,e=.returned (.slice A (bucketsL n s).length c)∧(bucketsL n s).length≤c∧Mem w' [.bel w.heap.size w,rrO w.heap.size (bucketsL n s).length c A (bucketsL n s)]:=by
 have CB:=K1 (rblocks_any n s w hn hs)
 have HE:=K1 (show bucketsL n s=(blocksL n s).reverse from rfl)
 have hlb:(blocksL n s).length≤1000000:=by rw [blocks_len];have:=pcnt_le n s;omega
 generalize blocksL n s=l at *
 obtain ⟨len,hlen⟩:∃ len,len=l.length:=⟨_,rfl⟩
 rw [← hlen] at CB hlb
 have HL:=K1 hlen
 clear hlen
 go_enter Tryz.func133,Tryz.ntmps133
 go_wp2_with fail
 refine CB.out.mono ?_
 rintro e w1 ⟨A0,cA,rfl,hcA,hm⟩
 have HM0:=K1 ((hm.freeze (i:=1) rfl).add (c:=rrO w.heap.size 0 0 none []) ⟨own_nil _ _ _ _,(hm.bel 0 rfl).size⟩ (fun _ _ _ _ g hg=>by cases hg))
 clear hm CB
 have hl1:IntKind.i64.wrap ((len:Int)-1)=(len:Int)-1:=IntWalk.i64_in _ (by omega)
 go_wp2_with fail
 go_loopw [6,7] (fun s6 s7 wr=>∃ (j q:Nat) (A:Option Addr) (c:Nat),q+j=len∧s6=.slice A q c∧s7=.int .i64 ((j:Int)-1)∧Hid (Mem wr [.bel w.heap.size w,.rd A0 (rcells l),rrO w.heap.size q c A (l.drop j).reverse])) (fun _ s7 _=>(intOf s7+1).toNat)
 case atStart =>
  refine ⟨len,0,none,0,by omega,rfl,rfl,?_⟩
  rw [List.drop_of_length_le (by rw [HL.out];exact Nat.le_refl _)]
  exact HM0
 case round =>
  clear HM0 hl1
  obtain ⟨j,q,A,c,hq,rfl,rfl,HM⟩:=hrel
  rcases Nat.eq_zero_or_pos j with hj | hj
  · subst hj
    have hneg:¬ (0:Int)≤((0:Nat):Int)-1:=by omega
    have HF:=K1 HM.out
    have HQ:=K1 hq
    clear HM hq
    go_wp2_with fail
    go_ret
    have e1:q=len:=by have:=HQ.out;omega
    rw [HE.out,List.length_reverse,← HL.out,← e1]
    exact ⟨A,c,rfl,own_cap (HF.out.own 2 rfl),HF.out.pick [0,2] _ rfl (by decide)⟩
  · obtain ⟨d,hd⟩:∃ d,j=d+1:=⟨j-1,by omega⟩
    have hjd:(j:Int)-1=(d:Int):=by omega
    obtain ⟨⟨x,y⟩,hxy⟩:=get_some l d (by have:=HL.out;omega)
    obtain ⟨b,off,rfl,hx⟩:=HM.out.ranges 1 rfl (by have:=HL.out;omega)
    have ⟨e1,e2⟩:=hx d (x,y) hxy
    have HDr:=K1 (show (l.drop d).reverse=(l.drop j).reverse++[(x,y)] by
     rw [hd,List.drop_eq_getElem_cons (by have:=(List.getElem?_eq_some_iff.1 hxy).1;exact this),List.reverse_cons]
     have:=(List.getElem?_eq_some_iff.1 hxy).2
     rw [this])
    have HM3:=K1 (HM.out.alloc (.cells #[.int .i64 x,.int .i64 y] 72))
    have hdl:d<len:=by omega
    have HQ:=K1 (show q+1+d=len by omega)
    have hqb:q≤1000000:=by omega
    clear hx hxy hd hq HM
    go_wp2_with (at_builtin;refine wpList_append_mem (n:=q) rfl _ _ 192 rfl HM3.out 2 rowRR rfl rfl _ 1 _ [.int .i64 x,.int .i64 y] rfl (HM3.out.box 3 rfl) rfl (by intro u hu;simp at hu;rcases hu with rfl | rfl <;> rfl) (by omega) ?_;intro A' c' W4 hM4)
    have HM5:=K1 (hM4.front 3)
    clear hM4 HM3 e1 e2
    go_wp2_with fail
    go_roundw
    case rel =>
     refine ⟨d,q+1,A',c',HQ.out,rfl,by go_num,?_⟩
     rw [HDr.out]
     unfold rrO
     rw [rcells_snoc]
     exact HM5
    case measure=>simp [intOf];omega
set_option maxRecDepth 100000 in
theorem rshift_any (w:World) (A0:Option Addr) (n c0 by_:Nat) (l:List (Nat × Nat)) (hr:Rd w w.heap.size A0 (rcells l)) (hl:l.length=n) (hn:n≤100000) (hb:by_≤100000) (hp:∀ p∈l,p.1≤100000∧p.2≤100000) :
  Calls Tryz.prog 170 #[.slice A0 n c0,.int .i64 by_] w fun e w'=>∃ A c,e=.returned (.slice A n c)∧n≤c∧Mem w' [.bel w.heap.size w,rrO w.heap.size n c A (shiftL by_ l)]:=by
 have HM0:=K1 (((Mem.start w).add_rd (i:=0) rfl hr).add (c:=rrO w.heap.size 0 0 none (shiftL by_ (l.take 0))) ⟨own_nil _ _ _ _,Nat.le_refl _⟩ (fun _ _ _ _ g hg=>by cases hg))
 have HL:=K1 (And.intro hl hp)
 clear hr hl hp
 go_enter Tryz.func170,Tryz.ntmps170
 go_wp2_with fail
 go_loopw [5,6] (fun s5 s6 wr=>∃ (k:Nat) (A:Option Addr) (c:Nat),k≤n∧s5=.slice A k c∧s6=.int .i64 k∧Hid (Mem wr [.bel w.heap.size w,.rd A0 (rcells l),rrO w.heap.size k c A (shiftL by_ (l.take k))])) (fun _ s6 _=>n-(intOf s6).toNat)
 case atStart=>exact ⟨0,none,0,Nat.zero_le _,rfl,rfl,HM0⟩
 case round =>
  clear HM0
  obtain ⟨k,A,c,hk,rfl,rfl,HM⟩:=hrel
  by_cases hlt:k<n
  · obtain ⟨⟨x,y⟩,hxy⟩:=get_some l k (by rw [HL.out.1];exact hlt)
    obtain ⟨b,off,rfl,_⟩:=HM.out.ranges 1 rfl (by have:=HL.out.1;omega)
    have HXY:=K1 hxy
    have hbd:=HL.out.2 _ (List.mem_of_getElem? hxy)
    dsimp only at hbd
    have HT:=K1 (show shiftL by_ (l.take (k+1))=shiftL by_ (l.take k)++[(x+by_,y+by_)] by rw [List.take_add_one,hxy];simp [shiftL])
    obtain ⟨x1,hx1⟩:∃ x1,x1=x+by_:=⟨_,rfl⟩
    obtain ⟨y1,hy1⟩:∃ y1,y1=y+by_:=⟨_,rfl⟩
    rw [← hx1,← hy1] at HT
    have ix:(x:Int)+(by_:Int)=(x1:Int):=by omega
    have iy:(y:Int)+(by_:Int)=(y1:Int):=by omega
    have wx:IntKind.i64.wrap (x1:Int)=(x1:Int):=IntWalk.i64_in _ (by omega)
    have wy:IntKind.i64.wrap (y1:Int)=(y1:Int):=IntWalk.i64_in _ (by omega)
    clear hxy hx1 hy1
    go_wp2_with fail
    refine name_wp fun W0 hW=>?_
    replace HM:=K1 (hW.out.symm ▸ HM.out)
    clear hW
    refine wp_region_stage (.reads [0,1,2,3,4,5,6,7,8,9,10,11,12,13,14,15] (.eff 16 (.eff 17 (.reads [18] .fin)))) 19 (fun W'=>W'.cell? ⟨b,off+k*2,none⟩=some (.int .i64 x)∧W'.cell? ⟨b,off+k*2+1,none⟩=some (.int .i64 y))
     (by kernel_rfl) (by kernel_rfl) (by intro d v c a w h;cases d <;> exact h) ?_
    replace HM:=K1 HM.out.drew
    generalize W0.drew=V at *
    refine PlS.reads_ (HM.out.range2 1 rfl HXY.out) (by kernel_rfl) ?_
    simp only [pickO,p1,p2,p3,p4]
    apply Exists.intro
    apply And.intro
    · intro W' hS
      obtain ⟨s1,s2⟩:=hS
      repeat still_step
      exact wpStill_nil rfl
    refine PlS.eff_ ?_
    simp only [pickO,p1,p2,p3,p4]
    go_wp2_with fail
    refine name_after fun W7 hW=>?_
    replace HM:=K1 (HM.out.alloc_ hW.out)
    clear hW
    refine After.go (HM.out.range2 1 rfl HXY.out) ?_
    refine PlS.eff_ ?_
    simp only [pickO,p1,p2,p3,p4]
    refine wpList_append_mem (n:=k) rfl _ _ 192 rfl HM.out 2 rowRR rfl rfl _ 1 _ [.int .i64 x1,.int .i64 y1] rfl (HM.out.box 3 rfl) rfl (by intro u hu;simp at hu;rcases hu with rfl | rfl <;> rfl) (by omega) ?_
    intro A' c' W8 hM8
    replace HM:=K1 (hM8.front 3)
    clear hM8
    go_wp2_with fail
    refine After.go (HM.out.range2 1 rfl HXY.out) ?_
    refine PlS.reads_ (HM.out.range2 1 rfl HXY.out) (by kernel_rfl) ?_
    simp only [pickO,p1,p2,p3,p4]
    apply Exists.intro
    apply And.intro
    · intro W' hS
      clear hS
      repeat still_step
      exact wpStill_nil rfl
    refine PlS.fin_ ?_
    go_wp2_with fail
    go_roundw
    case rel =>
     refine ⟨k+1,A',c',by omega,rfl,by go_num,?_⟩
     rw [HT.out]
     unfold rrO
     rw [rcells_snoc]
     exact HM
    case measure=>simp [intOf];omega
  · have hkn:k=n:=by omega
    subst hkn
    have HF:=K1 HM.out
    clear HM
    go_wp2_with fail
    go_ret
    have e1:l.take k=l:=List.take_of_length_le (by rw [HL.out.1];exact Nat.le_refl _)
    have h9:=HF.out
    rw [e1] at h9
    exact ⟨A,c,rfl,own_cap (h9.own 2 rfl),h9.pick [0,2] _ rfl (by decide)⟩
set_option maxRecDepth 100000 in
theorem rchunks_any (w:World) (lo hi s:Nat) (hlo:lo≤hi) (hhi:hi≤1000) (hs:1≤s∧s≤1048576) :
  Calls Tryz.prog 163 #[.agg #[.int .i64 lo,.int .i64 hi],.int .i64 s] w fun e w'=>∃ A c,e=.returned (.slice A (segChunks s (lo,hi)).length c)∧(segChunks s (lo,hi)).length≤c∧Mem w' [.bel w.heap.size w,rrO w.heap.size (segChunks s (lo,hi)).length c A (segChunks s (lo,hi))]:=by
 have CB:=K1 (fun W=>rblocks_any (hi-lo) s W (by omega) hs)
 have hln:(blocksL (hi-lo) s).length≤1000:=by rw [blocks_len];have:=pcnt_le (hi-lo) s;omega
 have hbl:∀ p∈blocksL (hi-lo) s,p.1≤100000∧p.2≤100000:=fun p hp=>by
  have h1:=blocks_le (hi-lo) s hs.1 p hp
  have h2:=blocks_ord (hi-lo) s p hp
  omega
 have HE:=K1 (show segChunks s (lo,hi)=shiftL lo (blocksL (hi-lo) s)∧(segChunks s (lo,hi)).length=(blocksL (hi-lo) s).length from ⟨rfl,shift_len _ _⟩)
 have CS:=K1 (fun W A c hr=>rshift_any W A (blocksL (hi-lo) s).length c lo (blocksL (hi-lo) s) hr rfl (by omega) (by omega) hbl)
 have HM:=K1 ((Mem.start w).alloc (.cells #[.int .i64 lo,.int .i64 hi] 72))
 obtain ⟨d,hd⟩:∃ d,d=hi-lo:=⟨_,rfl⟩
 rw [← hd] at CB CS HE hln
 have id_:(hi:Int)-(lo:Int)=(d:Int):=by omega
 have wd:IntKind.i64.wrap (d:Int)=(d:Int):=IntWalk.i64_in _ (by omega)
 clear hd hbl
 go_enter Tryz.func163,Tryz.ntmps163
 go_wp2_with fail
 refine name_wp fun W0 hW=>?_
 replace HM:=K1 (hW.out.symm ▸ HM.out)
 clear hW
 refine wp_region_stage (.reads [0,1,2,3,4,5,7,8] (.eff 6 (.eff 9 (.reads [10] (.fin))))) 11 (fun W'=>∀ j,W'.cell? ⟨w.heap.size,j,none⟩=([.int .i64 lo,.int .i64 hi]:List Value)[j]?)
  (by kernel_rfl) (by kernel_rfl) (by intro d v c a w h;cases d <;> exact h) ?_
 replace HM:=K1 HM.out.drew
 generalize W0.drew=V at *
 refine PlS.reads_ (HM.out.cells 1 rfl) (by kernel_rfl) ?_
 simp only [pickO,p1,p2,p3,p4]
 apply Exists.intro
 apply And.intro
 · intro W' hS
   repeat still_step
   exact wpStill_nil rfl
 refine PlS.eff_ ?_
 simp only [pickO,p1,p2,p3,p4]
 go_wp2_with fail
 refine (CB.out _).mono ?_
 rintro e w2 ⟨A1,c1,rfl,hc1,hm2⟩
 have hrd:=rd_of_own (hm2.own 1 rfl)
 have hA1:=own_from_base (hm2.own 1 rfl)
 replace HM:=K1 (HM.out.push_rd (hm2.bel 0 rfl) hrd hA1)
 clear hm2 hrd hA1 CB
 go_wp2_with fail
 refine After.go (HM.out.cells 1 rfl) ?_
 refine PlS.eff_ ?_
 simp only [pickO,p1,p2,p3,p4]
 go_wp2_with fail
 refine (CS.out _ _ _ (HM.out.rd 2 rfl)).mono ?_
 rintro e w3 ⟨A2,c2,rfl,hc2,hm3⟩
 have hg:=(HM.out.bel 0 rfl).size
 replace HM:=K1 ((HM.out.push_own (hm3.bel 0 rfl) (hm3.own 1 rfl) rfl).lower (i:=3) rfl hg)
 clear hm3 CS hg
 go_wp2_with fail
 refine After.go (HM.out.cells 1 rfl) ?_
 refine PlS.reads_ (HM.out.cells 1 rfl) (by kernel_rfl) ?_
 simp only [pickO,p1,p2,p3,p4]
 apply Exists.intro
 apply And.intro
 · intro W' hS
   repeat still_step
   exact wpStill_nil rfl
 refine PlS.fin_ ?_
 go_wp2_with fail
 go_ret
 rw [HE.out.2]
 refine ⟨A2,c2,rfl,hc2,?_⟩
 rw [HE.out.1]
 exact HM.out.pick [0,3] _ rfl (by decide)
set_option maxRecDepth 100000 in
theorem rsegs_any (w:World) (lo hi k:Nat) (hlo:lo≤hi) (hhi:hi≤1000) (hk:1≤k∧k≤1000) :
  Calls Tryz.prog 164 #[.agg #[.int .i64 lo,.int .i64 hi],.int .i64 k] w fun e w'=>∃ A c,e=.returned (.slice A k c)∧k≤c∧Mem w' [.bel w.heap.size w,rrO w.heap.size k c A (shiftL lo (evenL (hi-lo) k))]:=by
 have CB:=K1 (fun W=>reven_any (hi-lo) k W (by omega) hk)
 have hbl:∀ p∈evenL (hi-lo) k,p.1≤100000∧p.2≤100000:=fun p hp=>by
  have:=even_le (hi-lo) k hk.1 p hp
  omega
 have CS:=K1 (fun W A c hr=>rshift_any W A k c lo (evenL (hi-lo) k) hr (even_len _ _) (by omega) (by omega) hbl)
 have HM:=K1 ((Mem.start w).alloc (.cells #[.int .i64 lo,.int .i64 hi] 72))
 obtain ⟨d,hd⟩:∃ d,d=hi-lo:=⟨_,rfl⟩
 rw [← hd] at CB CS
 rw [← hd]
 have id_:(hi:Int)-(lo:Int)=(d:Int):=by omega
 have wd:IntKind.i64.wrap (d:Int)=(d:Int):=IntWalk.i64_in _ (by omega)
 clear hd hbl
 go_enter Tryz.func164,Tryz.ntmps164
 go_wp2_with fail
 refine name_wp fun W0 hW=>?_
 replace HM:=K1 (hW.out.symm ▸ HM.out)
 clear hW
 refine wp_region_stage (.reads [0,1,2,3,4,5,7,8] (.eff 6 (.eff 9 (.reads [10] (.fin))))) 11 (fun W'=>∀ j,W'.cell? ⟨w.heap.size,j,none⟩=([.int .i64 lo,.int .i64 hi]:List Value)[j]?)
  (by kernel_rfl) (by kernel_rfl) (by intro d v c a w h;cases d <;> exact h) ?_
 replace HM:=K1 HM.out.drew
 generalize W0.drew=V at *
 refine PlS.reads_ (HM.out.cells 1 rfl) (by kernel_rfl) ?_
 simp only [pickO,p1,p2,p3,p4]
 apply Exists.intro
 apply And.intro
 · intro W' hS
   repeat still_step
   exact wpStill_nil rfl
 refine PlS.eff_ ?_
 simp only [pickO,p1,p2,p3,p4]
 go_wp2_with fail
 refine (CB.out _).mono ?_
 rintro e w2 ⟨A1,c1,rfl,hc1,hm2⟩
 have hrd:=rd_of_own (hm2.own 1 rfl)
 have hA1:=own_from_base (hm2.own 1 rfl)
 replace HM:=K1 (HM.out.push_rd (hm2.bel 0 rfl) hrd hA1)
 clear hm2 hrd hA1 CB
 go_wp2_with fail
 refine After.go (HM.out.cells 1 rfl) ?_
 refine PlS.eff_ ?_
 simp only [pickO,p1,p2,p3,p4]
 go_wp2_with fail
 refine (CS.out _ _ _ (HM.out.rd 2 rfl)).mono ?_
 rintro e w3 ⟨A2,c2,rfl,hc2,hm3⟩
 have hg:=(HM.out.bel 0 rfl).size
 replace HM:=K1 ((HM.out.push_own (hm3.bel 0 rfl) (hm3.own 1 rfl) rfl).lower (i:=3) rfl hg)
 clear hm3 CS hg
 go_wp2_with fail
 refine After.go (HM.out.cells 1 rfl) ?_
 refine PlS.reads_ (HM.out.cells 1 rfl) (by kernel_rfl) ?_
 simp only [pickO,p1,p2,p3,p4]
 apply Exists.intro
 apply And.intro
 · intro W' hS
   repeat still_step
   exact wpStill_nil rfl
 refine PlS.fin_ ?_
 go_wp2_with fail
 go_ret
 exact ⟨A2,c2,rfl,hc2,HM.out.pick [0,3] _ rfl (by decide)⟩
theorem infoRA:(Tryz.prog.info? 74).map (fun i=>(i.zero,i.size,i.bytes))=some (some (.agg Ac.zero.cells.toArray),9,64):=by kernel_rfl
theorem infoRI:(Tryz.prog.info? 76).map (fun i=>(i.zero,i.size,i.bytes))=some (some (.agg (It.cells ⟨0,0,0,Ac.zero⟩).toArray),12,88):=by kernel_rfl
theorem rowRA:RowT Tryz.prog 242 74 9 64:=by
 obtain ⟨i0,hi,hz0,hz1,hz2⟩:=info_parts infoRA
 exact ⟨i0,_,Tryz.underlying242,hi,hz0,hz1,hz2,rfl,by decide,by decide⟩
theorem rowRI:RowT Tryz.prog 67 76 12 88:=by
 obtain ⟨i0,hi,hz0,hz1,hz2⟩:=info_parts infoRI
 exact ⟨i0,_,Tryz.underlying67,hi,hz0,hz1,hz2,rfl,by decide,by decide⟩
theorem segS_two {k w ph r:Nat} (hr:r≤k):segS k w ph r=(w+ph+2*k-r) % k:=by
 unfold segS
 rw [show w+ph+2*k-r=w+ph+k-r+k by omega,Nat.add_mod_right]
theorem segR_two {k w ph r:Nat} (hk:1≤k) (hr:r+1≤k):segR k w ph r=(w+ph+2*k-r-1) % k:=by
 unfold segR segS
 rw [show (w+k-1) % k+ph+k-r=(w+k-1) % k+(ph+k-r) by omega,Nat.mod_add_mod]
 congr 1
 omega
def segX (send:Bool) (k w ph r:Nat):Nat:=if send then segS k w ph r else segR k w ph r
set_option maxRecDepth 100000 in
theorem rsegment_any (j:Jb) (u ph r:Nat) (send:Bool) (w:World) (hk:1≤j.workers∧j.workers≤1000) (hw:u<j.workers) (hr:r+1<j.workers) (hp:ph≤1) :
  Calls Tryz.prog 154 #[.agg j.cells.toArray,.int .i64 u,.int .i64 ph,.int .i64 r,.bool send] w fun e w'=>e=.returned (.tuple #[.int .i64 (segX send j.workers u ph r:Nat),.bool true])∧Below w.heap.size w w':=by
 have hB:=K1 ((Below.refl w.heap.size w).alloc (Nat.le_refl _) (.cells j.cells.toArray 245))
 have hS:=segS_two (k:=j.workers) (w:=u) (ph:=ph) (r:=r) (by omega)
 have hR:=segR_two (k:=j.workers) (w:=u) (ph:=ph) (r:=r) hk.1 (by omega)
 obtain ⟨step,bucket,lo,hi,k,chunk⟩:=j
 dsimp only [Jb.cells] at hk hw hr hB hS hR ⊢
 unfold segX
 have hr2:¬ ((k:Int)-2<r):=by omega
 have hp2:¬ 1<ph:=by omega
 have hne:¬ k=0:=by omega
 have hne2:¬ (k:Int)=0:=by omega
 obtain ⟨z,hz⟩:∃ z,z=if send then u+ph+2*k-r else u+ph+2*k-r-1:=⟨_,rfl⟩
 obtain ⟨q,hq⟩:∃ q,q=z % k:=⟨_,rfl⟩
 have hqk:q<k:=by rw [hq];exact Nat.mod_lt _ (by omega)
 have e1:(z:Int).tmod (k:Int)=(q:Int):=by rw [hq];exact (Int.ofNat_tmod _ _).symm
 have wq:IntKind.i64.wrap (q:Int)=(q:Int):=IntWalk.i64_in _ (by omega)
 cases send
 · simp only [Bool.false_eq_true,if_false] at hz ⊢
   rw [hR,← hz,← hq]
   have ez:(u:Int)-r+ph-1+2*k=(z:Int):=by omega
   clear hq hS hR hz
   go_enter Tryz.func154,Tryz.ntmps154
   go_wp2_with fail
   go_ret2
   exact ⟨rfl,hB.out⟩
 · simp only [if_true] at hz ⊢
   rw [hS,← hz,← hq]
   have ez:(u:Int)-r+ph+2*k=(z:Int):=by omega
   clear hq hS hR hz
   go_enter Tryz.func154,Tryz.ntmps154
   go_wp2_with fail
   go_ret2
   exact ⟨rfl,hB.out⟩
set_option maxRecDepth 100000 in
theorem rchunksOf_any (j:Jb) (x:Nat) (p:Nat × Nat) (w:World) (hp:(jobSegs j)[x]?=some p) (hk:1≤j.workers∧j.workers≤1000) (hlo:j.lo≤j.hi) (hhi:j.hi≤1000) (hs:1≤j.chunk∧j.chunk≤1048576) :
  Calls Tryz.prog 155 #[.agg j.cells.toArray,.int .i64 x] w fun e w'=>∃ A c,e=.returned (.slice A (segChunks j.chunk p).length c)∧(segChunks j.chunk p).length≤c∧Mem w' [.bel w.heap.size w,rrO w.heap.size (segChunks j.chunk p).length c A (segChunks j.chunk p)]:=by
 have hin:=segs_in hlo hk.1 p (List.mem_of_getElem? hp)
 have hsl:(jobSegs j).length=j.workers:=by rw [jobSegs,shift_len,even_len]
 have hx:=(List.getElem?_eq_some_iff.1 hp).1
 rw [hsl] at hx
 have CS:=K1 (fun W=>rsegs_any W j.lo j.hi j.workers hlo hhi hk)
 have CC:=K1 (fun W=>rchunks_any W p.1 p.2 j.chunk hin.1 (by omega) hs)
 have HSL:=K1 (show (shiftL j.lo (evenL (j.hi-j.lo) j.workers))[x]?=some p from hp)
 have hm:=(Mem.start w).alloc (.cells j.cells.toArray 245)
 have HM:=K1 hm
 have hx1:=segChunks_len j.chunk p
 obtain ⟨len,hlen⟩:∃ len,len=(segChunks j.chunk p).length:=⟨_,rfl⟩
 clear hx1 hsl hp hin hm
 obtain ⟨step,bucket,lo,hi,k,chunk⟩:=j
 obtain ⟨x1,y1⟩:=p
 dsimp only [Jb.cells] at hk hlo hhi hs hx HM CS CC HSL hlen ⊢
 generalize shiftL lo (evenL (hi-lo) k)=segs at *
 generalize segChunks chunk (x1,y1)=l at *
 rw [← hlen] at CC ⊢
 clear hlen
 go_enter Tryz.func155,Tryz.ntmps155
 go_wp2_with fail
 refine name_wp fun W0 hW=>?_
 replace HM:=K1 (hW.out.symm ▸ HM.out)
 clear hW
 refine wp_region_stage (.reads [0,1,2,3,5,8,9] (.eff 4 (.eff 6 (.eff 7 (.eff 10 (.eff 11 (.fin))))))) 12 (fun W'=>∀ j,W'.cell? ⟨w.heap.size,j,none⟩=([.int .i64 step,.int .i64 bucket,.int .i64 lo,.int .i64 hi,.int .i64 k,.int .i64 chunk]:List Value)[j]?)
  (by kernel_rfl) (by kernel_rfl) (by intro d v c a w h;cases d <;> exact h) ?_
 replace HM:=K1 HM.out.drew
 generalize W0.drew=V at *
 refine PlS.reads_ (HM.out.cells 1 rfl) (by kernel_rfl) ?_
 simp only [pickO,p1,p2,p3,p4]
 apply Exists.intro
 apply And.intro
 · intro W' hS
   repeat still_step
   exact wpStill_nil rfl
 refine PlS.eff_ ?_
 simp only [pickO,p1,p2,p3,p4]
 go_wp2_with fail
 refine (CS.out _).mono ?_
 rintro e w2 ⟨A1,c1,rfl,hc1,hm2⟩
 have hrd:=rd_of_own (hm2.own 1 rfl)
 have hA1:=own_from_base (hm2.own 1 rfl)
 replace HM:=K1 (HM.out.push_rd (hm2.bel 0 rfl) hrd hA1)
 clear hm2 hrd hA1 CS
 obtain ⟨b1,o1,rfl,_⟩:=HM.out.ranges 2 rfl (by have:=(List.getElem?_eq_some_iff.1 HSL.out).1;omega)
 go_wp2_with fail
 refine After.go (HM.out.cells 1 rfl) ?_
 refine PlS.eff_ ?_
 simp only [pickO,p1,p2,p3,p4]
 have hlt:x<k:=hx
 go_wp2_with fail
 refine After.go (HM.out.cells 1 rfl) ?_
 refine PlS.eff_ ?_
 simp only [pickO,p1,p2,p3,p4]
 obtain ⟨g1,g2⟩:=HM.out.range2 2 rfl HSL.out
 go_wp2_with fail
 clear g1 g2
 refine After.go (HM.out.cells 1 rfl) ?_
 refine PlS.eff_ ?_
 simp only [pickO,p1,p2,p3,p4]
 go_wp2_with fail
 refine (CC.out _).mono ?_
 rintro e w3 ⟨A2,c2,rfl,hc2,hm3⟩
 have hg:=(HM.out.bel 0 rfl).size
 replace HM:=K1 ((HM.out.push_own (hm3.bel 0 rfl) (hm3.own 1 rfl) rfl).lower (i:=3) rfl hg)
 clear hm3 CC hg
 go_wp2_with fail
 refine After.go (HM.out.cells 1 rfl) ?_
 refine PlS.eff_ ?_
 simp only [pickO,p1,p2,p3,p4]
 go_wp2_with fail
 refine After.go (HM.out.cells 1 rfl) ?_
 refine PlS.fin_ ?_
 go_wp2_with fail
 go_ret
 exact ⟨A2,c2,rfl,hc2,HM.out.pick [0,3] _ rfl (by decide)⟩
end Go.Proofs.YtdpojpcoghcieaaGreat
