/- A part of the proof of TopSerial: Sum, Vec, Perm, RangeMem, Mat. Conditions: none. -/
import Derived.Test.YtdpojpcoghcieaaGreatSdAN
set_option maxHeartbeats 8000000
namespace Go.Proofs.YtdpojpcoghcieaaGreat
open Lib renaming hid → K1
open Go.RowKit Go.Shelf
attribute [local go_sem] Oper.semAt_some
set_option maxRecDepth 100000 in
theorem mul_any (w:World) (a b:Int) (q:Nat) (hq:q≤62) (ha:-9223372036854775808≤a∧a≤9223372036854775807) (hb:-9223372036854775808≤b∧b≤9223372036854775807) :
  Calls Tryz.prog 236 #[.int .i64 a,.int .i64 b,.int .i64 q] w fun e w'=>e=.returned (.int .i64 (mulF a b q))∧Below w.heap.size w w':=by
 have CP:=K1 (product_any w a b ha hb)
 unfold mulF
 generalize a*b=p at *
 go_enter Tryz.func236,Tryz.ntmps236
 go_wp2_with fail
 (with_reducible refine CP.out.mono ?_)
 rintro e w1 ⟨⟨h,l,rfl,rfl,hl⟩,hb1⟩
 have HB:=K1 hb1
 clear hb1 CP
 have CS:=K1 (fun W=>fshift_any W h l q hq hl)
 clear hl
 go_wp2_with fail
 (with_reducible refine (CS.out _).mono ?_)
 rintro e w2 ⟨rfl,hb2⟩
 have HB2:=K1 (HB.out.trans (hb2.mono HB.out.size))
 clear hb2 HB CS
 go_wp2_with fail
 go_ret
 exact ⟨rfl,HB2.out⟩
theorem values_any (A:Option Addr) (n cap:Nat) (w:World) :
  Calls Tryz.prog 249 #[.slice A n cap] w fun e w'=>e=.returned (.func (.func 252) #[] #[.pointer (some ⟨w.heap.size,0,none⟩)])∧w'=w.alloc (.cells #[.slice A n cap] 26):=by
 go_enter Tryz.func249,Tryz.ntmps249
 go_wp2
 go_ret
 exact ⟨rfl,rfl⟩
structure ValsAt (W:World) (Bv:Nat) (A:Option Addr) (zs:List Int) (cap:Nat):Prop where
 l:W.cell? ⟨Bv,0,none⟩=some (.slice A zs.length cap)
 r:RdI W W.heap.size A zs
theorem ValsAt.below {W W':World} {Bv:Nat} {A:Option Addr} {zs:List Int} {cap:Nat} (h:ValsAt W Bv A zs cap) (hb:Below W.heap.size W W'):ValsAt W' Bv A zs cap :=
 ⟨(hb.cell (p:=⟨Bv,0,none⟩) (World.block_lt_of_cell? W _ h.l)).trans h.l,(h.r.below hb).more hb.size⟩
set_option maxRecDepth 100000 in
theorem values1_in (n l Bv cap:Nat) (A:Option Addr) (zs:List Int) (hm:zs.length≤1048576) (J:List Int→World→Prop)
  (hE:∀ pre W,J pre W→ValsAt W Bv A zs cap)
  (hY:∀ (pre:List Int) (x:Int) (W:World),J pre W→pre.length<zs.length→zs[pre.length]?=some x→YieldAt Fence.wide (n-1) Tryz.prog l #[.int .i64 x] W fun e W'=>e=.returned (.bool true)∧J (pre++[x]) W')
  (W:World) (h0:J [] W):CallsIn Fence.wide n Tryz.prog 252 #[.func (.yield l) #[] #[],.pointer (some ⟨Bv,0,none⟩)] W fun e W'=>(∃ v,e=.returned v)∧J zs W':=by
 have HE:=K1 hE
 have HY:=K1 hY
 have E0:=hE _ _ h0
 have c1:=E0.l
 clear hE hY E0
 refine callsIn_of_wp Tryz.func252 rfl trivial ?_ rfl
 simp only [Tryz.ntmps252,List.size_toArray,List.length_cons,List.length_nil,Nat.reduceAdd,Nat.reduceSub,Array.replicate_succ,Array.replicate_zero,List.push_toArray,List.append_toArray,List.nil_append,List.cons_append]
 gi_wp2_with fail
 gi_loopw [7] (fun i wr=>∃ k:Nat,k≤zs.length∧i=.int .i64 k∧Hid (J (zs.take k) wr)) (fun i _=>zs.length-(intOf i).toNat)
 case atStart=>exact ⟨0,Nat.zero_le _,rfl,K1 h0⟩
 case round =>
  clear c1 h0
  obtain ⟨k,hk,rfl,HS⟩:=hrel
  by_cases hlt:k<zs.length
  · have E1:=HE.out _ _ HS.out
    obtain ⟨b,off,rfl,hb,hc⟩:=E1.r.at_ (by omega)
    obtain ⟨x,hp⟩:=get_some zs k hlt
    have d1:=hc k _ hp
    have HSH:=K1 (show zs.take k++[x]=zs.take (k+1) by rw [List.take_add_one,hp];rfl)
    obtain ⟨fn,tmps,assign,body,hy,hR⟩:=HY.out _ x wr HS.out (by rw [List.length_take];omega) (by
     rw [List.length_take,Nat.min_eq_left (by omega),hp])
    clear E1 hc hp
    gi_wp2_with fail
    refine ⟨fun h=>(by cases h),hR.mono ?_⟩
    rintro e' w4 ⟨rfl,hJ4⟩
    rw [HSH.out] at hJ4
    have H4:=K1 hJ4
    clear hJ4 hy hR HSH d1
    gi_wp2_with fail
    go_roundw
    case rel=>exact ⟨k+1,by omega,by go_num,H4⟩
    case measure=>simp [intOf];omega
  · have H4:=K1 (show J zs wr by have h:=HS.out;rw [show zs.take k=zs from List.take_of_length_le (by omega)] at h;exact h)
    clear HS
    gi_wp2_with fail
    go_end0
    exact ⟨⟨_,rfl⟩,H4.out⟩
def sumW (zs:List Int):Int:=zs.foldl (fun s x=>wrap64 (s+x)) 0
theorem sumW_snoc (zs:List Int) (x:Int):sumW (zs++[x])=wrap64 (sumW zs+x):=by simp [sumW]
structure Tot (w:World) (rec:LoopState→Option Code→Loop) (D l S:Nat) (s:Int) (W:World):Prop where
 rec_:W.heap[l]?=some (.loop (rec .ready none))
 dfr:W.heap[D]?=some (.deferred (some []))
 box:W.heap[S]?=some (.cells #[.int .i64 s] 2 (0,0))
 bel:Below w.heap.size w W
set_option maxRecDepth 100000 in
theorem total_any (Bv cap:Nat) (A:Option Addr) (zs:List Int) (hm:zs.length≤1048576) (w:World) (hl:ValsAt w Bv A zs cap) :
  Calls Tryz.prog 248 #[.func (.func 252) #[] #[.pointer (some ⟨Bv,0,none⟩)]] w fun e w'=>e=.returned (.int .i64 (sumW zs))∧Below w.heap.size w w':=by
 have HL:=K1 hl
 have HS:=K1 sumW_snoc
 clear hl
 refine (callsIn_wide (n:=5)).1 ?_
 refine callsIn_of_wp_marks Tryz.func248 rfl trivial ?_ rfl
 simp only [Tryz.ntmps248,List.size_toArray,List.length_cons,List.length_nil,Nat.reduceAdd,Nat.reduceSub,Array.replicate_succ,Array.replicate_zero,List.push_toArray,List.append_toArray,List.nil_append,List.cons_append]
 gi_wp2_with fail
 have hbox:=heap_alloc_new w (.cells #[.int .i64 0] 2)
 have hbel:Below w.heap.size w (w.alloc (.cells #[.int .i64 0] 2)):=(Below.refl _ _).alloc (Nat.le_refl _) _
 have hsz:(w.alloc (.cells #[.int .i64 0] 2)).heap.size=w.heap.size+1:=by simp
 have hat:=HL.out.below hbel
 have HX:=K1 (And.intro hbox (And.intro hbel (And.intro hsz hat)))
 clear hbox hbel hsz hat
 generalize w.alloc (.cells #[.int .i64 0] 2)=w0 at *
 refine wpIn_range_w rfl (fun _ _=>by go_simp) fun fn rec W1 hrec hl1 hd1 hb1=>?_
 have HJ:Hid (Tot w rec w0.heap.size (w0.heap.size+1) w.heap.size (sumW []) W1):=K1 ⟨hl1,hd1,blk_below HX.out.1 hb1 (blk_lt HX.out.1),HX.out.2.1.trans (hb1.mono HX.out.2.1.size)⟩
 refine (values1_in _ _ Bv cap A zs hm (fun pre=>Tot w rec w0.heap.size (w0.heap.size+1) w.heap.size (sumW pre)) (fun pre W h=>HL.out.below h.bel) (fun pre x W h hlt _=>?_) W1 HJ.out).mono ?_
 · have hy:=run_yield (P:=Tryz.prog) (args:=#[.int .i64 x]) h.rec_ (by rw [hrec];rfl)
   rw [hrec] at hy
   have HREC:=K1 hrec
   refine ⟨fn,_,_,_,hy,roundIn_of_wpIn trivial ?_⟩
   clear hy hrec
   have hsz:=h.bel.size
   have hW0:=HX.out.2.2.1
   have hbg:=run_beginRound (P:=Tryz.prog) h.rec_ (by rw [HREC.out])
   have ne1:w.heap.size≠w0.heap.size+1:=by omega
   have ne2:w0.heap.size≠w0.heap.size+1:=by omega
   have hrc2:=World.putObj_heap_same (o:=.loop { rec .ready none with state:=.busy }) (blk_lt h.rec_)
   have hdf2:=(World.putObj_heap_other (o:=.loop { rec .ready none with state:=.busy }) ne2).trans h.dfr
   have hbx2:=(World.putObj_heap_other (o:=.loop { rec .ready none with state:=.busy }) ne1).trans h.box
   have hbl2:=below_put (o':=.loop { rec .ready none with state:=.busy }) h.bel hsz (k:=w0.heap.size+1) (by omega)
   have H2:=K1 (And.intro hrc2 (And.intro hdf2 (And.intro hbx2 hbl2)))
   have HBG:=K1 hbg
   have c1:=blk_cell hbx2 0
   have f1:=blk_frozen hbx2 0
   have HW0:=K1 (And.intro hW0 (And.intro ne1 (And.intro ne2 hsz)))
   have HSX:=K1 (HS.out pre x)
   clear h hlt HJ hl1 hd1 hb1 hbg hrc2 hdf2 hbx2 hbl2 hW0 ne1 ne2 hsz
   generalize sumW (pre++[x])=s1 at *
   generalize sumW pre=s0 at *
   simp only [List.zip_toArray,List.zip_cons_cons,List.zip_nil_left]
   gi_wp2_with fail
   refine ⟨_,HBG.out,?_⟩
   clear HBG
   obtain ⟨W2,hW2⟩:∃ W2,W2=W.putObj (w0.heap.size+1) (.loop { rec .ready none with state:=.busy }):=⟨_,rfl⟩
   rw [← hW2] at H2 c1 f1 ⊢
   clear hW2
   gi_wp2_with fail
   obtain ⟨w4,hw4⟩:∃ w4,w4=W2.setCell ⟨w.heap.size,0,none⟩ (.int .i64 (wrap64 (s0+x))):=⟨_,rfl⟩
   rw [← hw4]
   obtain ⟨e0,e1,e2,e3⟩:=HW0.out
   have hl4:=blk_far H2.out.1 (p:=⟨w.heap.size,0,none⟩) (Ne.symm e1) (.int .i64 (wrap64 (s0+x)))
   have hd4:=blk_far H2.out.2.1 (p:=⟨w.heap.size,0,none⟩) (by show w0.heap.size≠w.heap.size;omega) (.int .i64 (wrap64 (s0+x)))
   have hb4:=blk_set H2.out.2.2.1 0 (.int .i64 (wrap64 (s0+x)))
   have hbb:=H2.out.2.2.2.setCell (p:=⟨w.heap.size,0,none⟩) (Nat.le_refl _) (.int .i64 (wrap64 (s0+x)))
   rw [← hw4] at hl4 hd4 hb4 hbb
   have hend:=run_endRound (P:=Tryz.prog) none hl4
   refine ⟨_,_,hend,rfl,⟨?_,(World.putObj_heap_other e2).trans hd4,?_,below_put hbb hbb.size (by omega)⟩⟩
   · rw [World.putObj_heap_same (blk_lt hl4),HREC.out]
     rfl
   · rw [HSX.out]
     exact (World.putObj_heap_other e1).trans hb4
 · rintro e W2 ⟨⟨v0,rfl⟩,h2⟩
   have hend:=run_endLoop (P:=Tryz.prog) h2.rec_ (by simp [hrec])
   have hp:(rec .ready none).pending=none:=by rw [hrec]
   replace hend:=hend.trans (congrArg (fun p=>Result.ok p _) hp)
   have hX:=HX.out.2.2.1
   have ne1:w.heap.size≠w0.heap.size+1:=by omega
   have ne2:w0.heap.size≠w0.heap.size+1:=by omega
   have hv3:=(World.putObj_heap_other (o:=.loop { rec .ready none with state:=.exhausted }) ne1).trans h2.box
   have hd3:=(World.putObj_heap_other (o:=.loop { rec .ready none with state:=.exhausted }) ne2).trans h2.dfr
   have hb3:=below_put (o':=.loop { rec .ready none with state:=.exhausted }) h2.bel h2.bel.size (k:=w0.heap.size+1) (by omega)
   refine ⟨_,_,hend,?_⟩
   have hsz:=h2.bel.size
   obtain ⟨W3,hW3⟩:∃ W3,W3=W2.putObj (w0.heap.size+1) (.loop { rec .ready none with state:=.exhausted }):=⟨_,rfl⟩
   rw [← hW3] at hv3 hd3 hb3 ⊢
   have c1:=blk_cell hv3 0
   have f1:=blk_frozen hv3 0
   have HF:=K1 (And.intro hd3 (And.intro hb3 hX))
   clear hend h2 hW3 hv3 hd3 hb3 HJ hl1 hd1 hb1 hrec hX ne1 ne2 hsz
   clear hp
   generalize hs1:sumW zs=s1 at *
   have HS1:=K1 hs1
   clear hs1
   gi_wp2_with fail
   refine ⟨by simp,.inl ⟨_,_,rfl,run_takeDeferred HF.out.1,?_⟩⟩
   have hX:=HF.out.2.2
   exact ⟨_,results_tmp rfl _ _ _,by rw [HS1.out];rfl,below_put HF.out.2.1 HF.out.2.1.size (by omega)⟩
theorem sum_any (w:World) (A:Option Addr) (zs:List Int) (n cap:Nat) (hn:zs.length=n) (hm:n≤1048576) (hr:RdI w w.heap.size A zs) :
  Calls Tryz.prog 238 #[.slice A n cap] w fun e w'=>e=.returned (.int .i64 (sumW zs))∧Below w.heap.size w w':=by
 have hb:Below w.heap.size w (w.alloc (.cells #[.slice A n cap] 26)):=(Below.refl _ _).alloc (Nat.le_refl _) _
 have HB:=K1 hb
 subst hn
 have CT:=K1 (total_any w.heap.size cap A zs hm (w.alloc (.cells #[.slice A zs.length cap] 26)) ⟨blk_cell (heap_alloc_new w _) 0,(hr.below hb).more hb.size⟩)
 clear hb hr
 go_enter Tryz.func238,Tryz.ntmps238
 go_wp2_with fail
 (with_reducible refine (values_any _ _ _ _).mono ?_)
 rintro e w1 ⟨rfl,rfl⟩
 go_wp2_with fail
 (with_reducible refine CT.out.mono ?_)
 rintro e w2 ⟨rfl,hb2⟩
 have HB2:=K1 (HB.out.trans (hb2.mono HB.out.size))
 clear hb2 HB CT
 go_wp2_with fail
 go_ret
 exact ⟨rfl,HB2.out⟩
end Go.Proofs.YtdpojpcoghcieaaGreat
namespace Go.Proofs.YtdpojpcoghcieaaGreat
open Lib renaming hid → K1
open Go.RowKit
abbrev zC (zs:List Int):List Value:=zs.map (Value.int .i64)
def In64 (zs:List Int):Prop:=∀ z∈zs,-9223372036854775808≤z∧z≤9223372036854775807
theorem zC_one (l:List Int):∀ u∈zC l,u.oneCell'=true:=fun u hu=>by
 obtain ⟨_,_,rfl⟩:=List.mem_map.1 hu;rfl
theorem zC_len (l:List Int):(zC l).length=l.length:=by simp
theorem zC_at {l:List Int} {i:Nat} {x:Int} (h:l[i]?=some x):(zC l)[i]?=some (.int .i64 x):=by simp [h]
theorem zC_set (l:List Int) (i:Nat) (x:Int):zC (l.set i x)=(zC l).set i (.int .i64 x):=by simp
theorem wrap64_in (x:Int):-9223372036854775808≤wrap64 x∧wrap64 x≤9223372036854775807:=by unfold wrap64;omega
theorem In64.set {l:List Int} (h:In64 l) (i:Nat) {x:Int} (hx:-9223372036854775808≤x∧x≤9223372036854775807):In64 (l.set i x):=fun z hz=>by
 rcases List.mem_or_eq_of_mem_set hz with h1 | rfl
 · exact h z h1
 · exact hx
theorem In64.at_ {l:List Int} (h:In64 l) {i:Nat} {x:Int} (hx:l[i]?=some x):-9223372036854775808≤x∧x≤9223372036854775807:=h x (List.mem_of_getElem? hx)
theorem vclone_any (A:Option Addr) (n cap:Nat) (zs:List Int) (w:World) (hr:Rd w w.heap.size A (zC zs)) (hl:zs.length=n) (hn:n≤1000000000) :
  Calls Tryz.prog 109 #[.slice A n cap] w fun e w'=>∃ A' c',e=.returned (.slice A' n c')∧w'.ownsRow w.heap.size 2 1 (.slice A' n c') n (zC zs)∧n≤c'∧Below w.heap.size w w':=by
 have C:=K1 (cloneV_any A n cap (zC zs) w hr (by simp [hl]) (zC_one zs) hn)
 clear hr
 go_enter Tryz.func109,Tryz.ntmps109
 go_wp2_with fail
 (with_reducible refine C.out.mono ?_)
 rintro e w1 ⟨A',c',rfl,h1,h2,h3⟩
 clear C
 go_wp2_with fail
 go_ret
 exact ⟨A',c',rfl,h1,h2,h3⟩
def addTo (lo:Nat) (ys xs:List Int):Nat→List Int
 | 0=>xs
 | k+1=>(addTo lo ys xs k).set (lo+k) (wrap64 (((addTo lo ys xs k)[lo+k]?.getD 0)+(ys[k]?.getD 0)))
theorem addTo_len (lo:Nat) (ys xs:List Int):∀ k,(addTo lo ys xs k).length=xs.length
 | 0=>rfl
 | k+1=>by rw [addTo,List.length_set,addTo_len lo ys xs k]
theorem addTo_in {lo:Nat} {ys xs:List Int} (h:In64 xs):∀ k,In64 (addTo lo ys xs k)
 | 0=>h
 | k+1=>(addTo_in h k).set _ (wrap64_in _)
set_option maxRecDepth 100000 in
theorem vadd_any (w:World) (L:List Ch) (h:Mem w L) (i j base N C lo n c cw:Nat) (A0 A B:Option Addr) (xs ys:List Int) (hi:L[i]?=some (.own base 2 1 (.slice A0 N C) N (zC xs))) (hj:L[j]?=some (.rd B (zC ys)))
  (hy:ys.length=n) (hx:lo+n≤xs.length) (hN:xs.length=N) (hA:0<n→A=A0.map fun p=>p.add lo) (hc:n≤c) (hcw:n≤cw) (hn:N≤1000000000) :
  Calls Tryz.prog 209 #[.slice A n c,.slice B n cw] w fun e w'=>e=.returned (.bool true)∧Mem w' (L.set i (.own base 2 1 (.slice A0 N C) N (zC (addTo lo ys xs n)))):=by
 have HI:=K1 hi
 have HJ:=K1 hj
 have HM0:=K1 (show Mem w (L.set i (.own base 2 1 (.slice A0 N C) N (zC (addTo lo ys xs 0)))) by
  rw [show addTo lo ys xs 0=xs from rfl,set_same hi];exact h)
 have HX:=K1 (And.intro hx (And.intro hy (And.intro hN hA)))
 have HN:=K1 (idx_ne hi hj (by simp))
 have hlN:lo+n≤N:=by omega
 clear h hi hj hx hy hN hA
 go_enter Tryz.func209,Tryz.ntmps209
 go_wp2_with fail
 go_loopw [13] (fun iv wr=>∃ k:Nat,k≤n∧iv=.int .i64 k∧Hid (Mem wr (L.set i (.own base 2 1 (.slice A0 N C) N (zC (addTo lo ys xs k)))))) (fun iv _=>n-(intOf iv).toNat)
 case atStart=>exact ⟨0,Nat.zero_le _,rfl,HM0⟩
 case round =>
  clear HM0
  obtain ⟨k,hk,rfl,HM⟩:=hrel
  by_cases hlt:k<n
  · obtain ⟨g,hg⟩:=HM.out.ownA i (at_set HI.out) (by omega)
    have ha:=HX.out.2.2.2 (by omega)
    obtain ⟨b1,o1,hb1⟩:∃ b off,B=some ⟨b,off,none⟩:=by
     obtain ⟨b,off,e,_⟩:=HM.out.rd j (at_ne HN.out HJ.out) (by rw [zC_len];have:=HX.out.2.1;omega)
     exact ⟨b,off,e⟩
    subst hg;subst hb1
    simp only [Option.map_some,add_none,Nat.zero_add] at ha
    subst ha
    obtain ⟨y,hyk⟩:=get_some ys k (by have:=HX.out.2.1;omega)
    obtain ⟨x,hxk⟩:=get_some (addTo lo ys xs k) (lo+k) (by rw [addTo_len];have:=HX.out.1;omega)
    have hc1:wr.cell? ⟨g,lo+k,none⟩=some (.int .i64 x):=((HM.out.own i (at_set HI.out)).cellAt (lo+k) (by omega)).trans (zC_at hxk)
    have hc2:wr.cell? ⟨b1,o1+k,none⟩=some (.int .i64 y):=HM.out.rdAt j (at_ne HN.out HJ.out) (zC_at hyk)
    have kf:=HM.out.ownF i (at_set HI.out)
    have HS:Hid (zC (addTo lo ys xs (k+1))=(zC (addTo lo ys xs k)).set (lo+k) (.int .i64 (wrap64 (x+y)))):=K1 (by rw [addTo,zC_set,hxk,hyk];rfl)
    clear hyk hxk
    generalize hs:wrap64 (x+y)=s at *
    have hm2:=(HM.out.setOwn (j:=lo+k) (at_set HI.out) (.int .i64 s))
    rw [List.set_set,← HS.out] at hm2
    have HM2:=K1 hm2
    clear HM hm2
    go_wp2_with fail
    go_region
    go_wp2_with fail
    go_roundw
    case rel=>exact ⟨k+1,by omega,by go_num,K1 (by first | exact HM2.out.drew | exact HM2.out)⟩
    case measure=>simp [intOf];omega
  · have hkn:k=n:=by omega
    subst hkn
    go_wp2_with fail
    go_ret
    exact ⟨rfl,HM.out⟩
def dotTo (xs ys:List Int) (q:Nat):Nat→Int
 | 0=>0
 | k+1=>wrap64 (dotTo xs ys q k+mulF (xs[k]?.getD 0) (ys[k]?.getD 0) q)
set_option maxRecDepth 100000 in
theorem dot_any (w:World) (A B:Option Addr) (n ca cb q:Nat) (xs ys:List Int) (hA:Rd w w.heap.size A (zC xs)) (hB:Rd w w.heap.size B (zC ys)) (hx:xs.length=n) (hy:ys.length=n) (h1:In64 xs) (h2:In64 ys) (hq:q≤62) (hn:n≤1000000000) (hca:n≤ca) (hcb:n≤cb) :
  Calls Tryz.prog 250 #[.slice A n ca,.slice B n cb,.int .i64 q] w fun e w'=>e=.returned (.tuple #[.int .i64 (dotTo xs ys q n),.bool true])∧Below w.heap.size w w':=by
 have HM0:=K1 (((Mem.start w).add_rd (i:=0) rfl hA).add_rd (i:=0) rfl hB)
 have HX:=K1 (And.intro hx (And.intro hy (And.intro h1 h2)))
 have CM:=K1 (fun W a b h3 h4=>mul_any W a b q hq h3 h4)
 clear hA hB hx hy h1 h2
 go_enter Tryz.func250,Tryz.ntmps250
 go_wp2_with fail
 go_loopw [8,18] (fun s iv wr=>∃ k:Nat,k≤n∧iv=.int .i64 k∧s=.int .i64 (dotTo xs ys q k)∧Hid (Mem wr [.bel w.heap.size w,.rd A (zC xs),.rd B (zC ys)])) (fun _ iv _=>n-(intOf iv).toNat)
 case atStart=>exact ⟨0,Nat.zero_le _,rfl,rfl,HM0⟩
 case round =>
  clear HM0
  obtain ⟨k,hk,rfl,rfl,HM⟩:=hrel
  by_cases hlt:k<n
  · obtain ⟨x,hxk⟩:=get_some xs k (by have:=HX.out.1;omega)
    obtain ⟨y,hyk⟩:=get_some ys k (by have:=HX.out.2.1;omega)
    obtain ⟨b1,o1,rfl,_⟩:=HM.out.rd 1 rfl (by rw [zC_len];have:=HX.out.1;omega)
    obtain ⟨b2,o2,rfl,_⟩:=HM.out.rd 2 rfl (by rw [zC_len];have:=HX.out.2.1;omega)
    have c1:=HM.out.rdAt 1 rfl (zC_at hxk)
    have c2:=HM.out.rdAt 2 rfl (zC_at hyk)
    have HS:Hid (dotTo xs ys q (k+1)=wrap64 (dotTo xs ys q k+mulF x y q)):=K1 (by rw [dotTo,hxk,hyk];rfl)
    have CK:=K1 (fun W=>CM.out W x y (HX.out.2.2.1.at_ hxk) (HX.out.2.2.2.at_ hyk))
    clear hxk hyk
    generalize dotTo xs ys q k=s0 at *
    generalize mulF x y q=p at *
    go_wp2_with fail
    (with_reducible refine (CK.out _).mono ?_)
    rintro e w2 ⟨rfl,hb2⟩
    have HM2:=K1 (HM.out.below hb2)
    clear hb2 HM c1 c2 CK
    go_wp2_with fail
    go_roundw
    case rel =>
     refine ⟨k+1,by omega,by go_num,?_,HM2⟩
     rw [HS.out]
    case measure=>simp [intOf];omega
  · have hkn:k=n:=by omega
    subst hkn
    go_wp2_with fail
    go_ret2
    exact ⟨rfl,HM.out.bel 0 rfl⟩
def scaleTo (xs:List Int) (a:Int) (q:Nat):Nat→List Int
 | 0=>xs
 | k+1=>(scaleTo xs a q k).set k (mulF (xs[k]?.getD 0) a q)
theorem scaleTo_len (xs:List Int) (a:Int) (q:Nat):∀ k,(scaleTo xs a q k).length=xs.length
 | 0=>rfl
 | k+1=>by rw [scaleTo,List.length_set,scaleTo_len xs a q k]
theorem scaleTo_at (xs:List Int) (a:Int) (q:Nat):∀ k j,k≤j→(scaleTo xs a q k)[j]?=xs[j]?
 | 0,_,_=>rfl
 | k+1,j,h=>by rw [scaleTo,List.getElem?_set_ne (by omega),scaleTo_at xs a q k j (by omega)]
set_option maxRecDepth 100000 in
theorem scale_any (w:World) (A:Option Addr) (n ca q:Nat) (a:Int) (xs:List Int) (hA:Rd w w.heap.size A (zC xs)) (hx:xs.length=n) (h1:In64 xs) (ha:-9223372036854775808≤a∧a≤9223372036854775807) (hq:q≤62) (hn:n≤1000000000) :
  Calls Tryz.prog 237 #[.slice A n ca,.int .i64 a,.int .i64 q] w fun e w'=>∃ A' c',e=.returned (.slice A' n c')∧w'.ownsRow w.heap.size 2 1 (.slice A' n c') n (zC (scaleTo xs a q n))∧n≤c'∧Below w.heap.size w w':=by
 have CC:=K1 (vclone_any A n ca xs w hA hx hn)
 have HX:=K1 (And.intro hx h1)
 have CM:=K1 (fun W b h3=>mul_any W b a q hq h3 ha)
 clear hA hx h1 ha
 go_enter Tryz.func237,Tryz.ntmps237
 go_wp2_with fail
 (with_reducible refine CC.out.mono ?_)
 rintro e w1 ⟨A',c',rfl,ho,hc,hb⟩
 have HM0:=K1 ((Mem.start w).push_own hb ho rfl)
 clear CC ho hb
 go_wp2_with fail
 go_loopw [14] (fun iv wr=>∃ k:Nat,k≤n∧iv=.int .i64 k∧Hid (Mem wr [.bel w.heap.size w,.own w.heap.size 2 1 (.slice A' n c') n (zC (scaleTo xs a q k))])) (fun iv _=>n-(intOf iv).toNat)
 case atStart=>exact ⟨0,Nat.zero_le _,rfl,HM0⟩
 case round =>
  clear HM0
  obtain ⟨k,hk,rfl,HM⟩:=hrel
  by_cases hlt:k<n
  · obtain ⟨g,rfl⟩:=HM.out.ownA 1 rfl (by omega)
    obtain ⟨x,hxk⟩:=get_some xs k (by have:=HX.out.1;omega)
    have hc1:wr.cell? ⟨g,k,none⟩=some (.int .i64 x):=((HM.out.own 1 rfl).cellAt k (by omega)).trans (zC_at ((scaleTo_at xs a q k k (Nat.le_refl _)).trans hxk))
    have HS:Hid (zC (scaleTo xs a q (k+1))=(zC (scaleTo xs a q k)).set k (.int .i64 (mulF x a q))):=K1 (by rw [scaleTo,zC_set,hxk];rfl)
    have CK:=K1 (fun W=>CM.out W x (HX.out.2.at_ hxk))
    clear hxk
    generalize mulF x a q=p at *
    go_wp2_with fail
    (with_reducible refine (CK.out _).mono ?_)
    rintro e w2 ⟨rfl,hb2⟩
    have HM2:=K1 (HM.out.below hb2)
    clear hb2 HM hc1 CK
    have kf:=HM2.out.ownF 1 rfl
    have hc2:∃ v,w2.cell? ⟨g,k,none⟩=some v:=⟨_,((HM2.out.own 1 rfl).cellAt k (by omega)).trans (List.getElem?_eq_getElem (by rw [zC_len,scaleTo_len,HX.out.1];exact hlt))⟩
    obtain ⟨v,hc2⟩:=hc2
    have hm3:=HM2.out.setOwn (j:=k) (i:=1) rfl (.int .i64 p)
    rw [← HS.out] at hm3
    have HM3:=K1 hm3
    clear hm3 HM2
    go_wp2_with fail
    go_roundw
    case rel=>exact ⟨k+1,by omega,by go_num,HM3⟩
    case measure=>simp [intOf];omega
  · have hkn:k=n:=by omega
    subst hkn
    go_wp2_with fail
    go_ret
    exact ⟨_,_,rfl,HM.out.own 1 rfl,hc,HM.out.bel 0 rfl⟩
theorem Mem.cons_iff {W:World} {c:Ch} {L:List Ch}:Mem W (c::L)↔c.Holds W∧Mem W L∧∀ d∈L,(c.mut∨d.mut)→∀ g,c.fp g→¬ d.fp g:=by
 constructor
 · intro h
   refine ⟨h.holds 0 c rfl,⟨fun i d hi=>h.holds (i+1) d hi,fun i j d e hne hi hj=>h.sep (i+1) (j+1) d e (by omega) hi hj⟩,fun d hd hm g hg hg2=>?_⟩
   obtain ⟨i,hi⟩:=List.getElem?_of_mem hd
   rcases hm with hm | hm
   · exact h.sep 0 (i+1) c d (by omega) rfl hi hm g hg hg2
   · exact h.sep (i+1) 0 d c (by omega) hi rfl hm g hg2 hg
 · rintro ⟨hc,hL,hs⟩
   constructor
   · intro i d hi
     cases i with
     | zero=>simp at hi;subst hi;exact hc
     | succ i=>exact hL.holds i d hi
   · intro i j d e hne hi hj hm g hg hg2
     cases i <;> cases j
     · omega
     · simp at hi;subst hi;exact hs e (List.mem_of_getElem? hj) (.inl hm) g hg hg2
     · simp at hj;subst hj;exact hs d (List.mem_of_getElem? hi) (.inr hm) g hg2 hg
     · exact hL.sep _ _ d e (by omega) hi hj hm g hg hg2
theorem Mem.perm {W:World} {L L':List Ch} (h:Mem W L) (hp:L.Perm L'):Mem W L':=by
 induction hp with
 | nil=>exact h
 | cons x hp ih =>
   obtain ⟨h1,h2,h3⟩:=Mem.cons_iff.1 h
   exact Mem.cons_iff.2 ⟨h1,ih h2,fun d hd=>h3 d (hp.mem_iff.2 hd)⟩
 | swap x y l =>
   obtain ⟨h1,h2,h3⟩:=Mem.cons_iff.1 h
   obtain ⟨k1,k2,k3⟩:=Mem.cons_iff.1 h2
   refine Mem.cons_iff.2 ⟨k1,Mem.cons_iff.2 ⟨h1,k2,fun d hd=>h3 d (List.mem_cons_of_mem _ hd)⟩,fun d hd hm g hg hg2=>?_⟩
   rcases List.mem_cons.1 hd with rfl | hd
   · exact h3 x (List.mem_cons_self ..) hm.symm g hg2 hg
   · exact k3 d hd hm g hg hg2
 | trans _ _ ih1 ih2=>exact ih2 (ih1 h)
def bodyOk (K:World→Prop):Exit→Act→World→Prop
 | .normal,_,W=>K W
 | _,_,_=>False
def loopP (D l:Nat) (o:Obj):List Ch:=[.obj D (.deferred (some [])),.obj l o]
theorem Mem.loop {w W1:World} {L:List Ch} {o:Obj} (h:Mem w L) (hd:W1.heap[w.heap.size]?=some (.deferred (some []))) (hl:W1.heap[w.heap.size+1]?=some o) (hb:Below w.heap.size w W1):Mem W1 (L++loopP w.heap.size (w.heap.size+1) o):=by
 have h1:=h.push (c:=.obj w.heap.size (.deferred (some []))) hb hd (fun g hg=>by cases hg;exact Nat.le_refl _)
 have h2:=h1.add (c:=.obj (w.heap.size+1) o) hl (fun i d hi _ g hg hg2=>by
  cases hg
  rcases snoc_at hi with ⟨_,h3⟩ | ⟨_,rfl⟩
  · have:=Ch.lt (h.holds i d h3) hg2
    omega
  · have:w.heap.size+1=w.heap.size:=hg2
    omega)
 rw [List.append_assoc] at h2
 exact h2
theorem loopP_at {L M:List Ch} {D l:Nat} {o:Obj}:(L++loopP D l o++M)[L.length+1]?=some (.obj l o):=by
 rw [List.append_assoc,List.getElem?_append_right (by omega),Nat.add_sub_cancel_left]
 rfl
theorem loopP_set {L M:List Ch} {D l:Nat} {o o':Obj}:(L++loopP D l o++M).set (L.length+1) (.obj l o')=L++loopP D l o'++M:=by
 rw [List.append_assoc,List.set_append_right _ _ (by omega),Nat.add_sub_cancel_left,List.append_assoc]
 rfl
theorem Mem.putL {W:World} {L M:List Ch} {D l:Nat} {o:Obj} (h:Mem W (L++loopP D l o++M)) (o':Obj):Mem (W.putObj l o') (L++loopP D l o'++M):=by
 have h1:=h.put loopP_at o'
 rwa [loopP_set] at h1
theorem wpIn_range_mem {P:Program} {n:Nat} {g:Operand} {ps:Array Tmp} {assign body:Code} {Q:Exit→Act→World→Prop} {a:Act} {w:World} {gf:Nat} {lb:Array Value}
  (hg:a.eval g=.func (.func gf) #[] lb) (eg:∀ args w,(callFunc gf args).run P w=.ok (.enter gf args) w)
  (S:Nat→List Ch→Prop) (m:Nat) (args:Nat→Array Value) (h0:∃ L,S 0 L∧Mem w L) (hps:∀ k,(args k).size=ps.size)
  (hI:∀ (l:Nat) (J:Nat→World→Prop),(∀ k W,J k W→∃ L M,S k L∧Mem W (L++M))→(∀ k W W',J k W→Below W.heap.size W W'→J k W') →
   (∀ k W,k<m→J k W→YieldAt Fence.wide (n-1-1) P l (args k) W fun e W'=>e=.returned (.bool true)∧J (k+1) W') →
   ∀ W,J 0 W→CallsIn Fence.wide (n-1) P gf (#[.func (.yield l) #[] #[]]++lb) W fun e W'=>(∃ v,e=.returned v)∧J m W')
  (hB:∀ (k D l:Nat) (o:Obj) (L:List Ch) (W:World),k<m→S k L→Mem W (L++loopP D l o) →
   assign.wpIn (Fence.wide.inRound l) (n-1-1) P (Exit.then (fun a1 w1=>∃ M,Mem w1 (L++loopP D l o++M)∧∀ (o':Obj) (w2:World),Mem w2 (L++loopP D l o'++M) →
    body.wpIn (Fence.wide.inRound l) (n-1-1) P (bodyOk fun W'=>∃ L' M',S (k+1) L'∧Mem W' (L'++loopP D l o'++M')) a1 w2) (fun _ _ _=>False)) { tmps:=(ps.zip (args k)).foldl (fun tmps (t,a)=>tmps.setIfInBounds t a) a.tmps,defers:=[] } W)
  (hQ:∀ (D l:Nat) (o:Obj) (L:List Ch) (W:World),S m L→Mem W (L++loopP D l o)→Q .normal { a with defers:=[{ target:=.collected D,args:=#[] }]++a.defers } W) :
  (Code.rangeFunc g ps assign body).wpIn Fence.wide n P Q a w:=by
 refine wpIn_range_w hg eg fun fn rec W1 hrec hl1 hd1 hb1=>?_
 obtain ⟨L0,hS0,hM0⟩:=h0
 have HJ:=hM0.loop hd1 hl1 hb1
 refine (hI (w.heap.size+1) (fun k W=>∃ L,S k L∧Mem W (L++loopP w.heap.size (w.heap.size+1) (.loop (rec .ready none)))) (fun k W ⟨L,h1,h2⟩=>⟨L,_,h1,h2⟩) (fun k W W' ⟨L,h1,h2⟩ hb=>⟨L,h1,h2.below hb⟩) (fun k W hk h=>?_) W1 ⟨L0,hS0,HJ⟩).mono ?_
 · obtain ⟨L,hS,h⟩:=h
   have hr:W.heap[w.heap.size+1]?=some (.loop (rec .ready none)):=h.obj _ (by have:=loopP_at (L:=L) (M:=[]) (D:=w.heap.size) (l:=w.heap.size+1) (o:=.loop (rec .ready none));rwa [List.append_nil] at this)
   have hy:=run_yield (P:=P) (args:=args k) hr (by rw [hrec];exact hps k)
   rw [hrec] at hy
   refine ⟨fn,_,_,_,hy,roundIn_of_wpIn trivial ?_⟩
   refine wpIn_mono (hB k _ _ _ L W hk hS h) ?_
   intro e a1 w1 hq
   cases e with
   | normal =>
     obtain ⟨M,hM,hb⟩:=hq
     have hr1:w1.heap[w.heap.size+1]?=some (.loop (rec .ready none)):=hM.obj _ loopP_at
     refine ⟨_,run_beginRound (P:=P) hr1 (by rw [hrec]),?_⟩
     refine wpIn_mono (hb _ _ (hM.putL _)) ?_
     intro e a2 w2 hq2
     cases e with
     | normal =>
       obtain ⟨L',M',hS',hM'⟩:=hq2
       refine ⟨_,_,run_endRound (P:=P) none (hM'.obj _ loopP_at),rfl,L',hS',?_⟩
       have h3:=(hM'.putL (.loop { rec .ready none with state:=.ready,pending:=none })).left
       have he:({ rec .ready none with state:=.ready,pending:=none }:Loop)=rec .ready none:=by rw [hrec]
       rw [he] at h3
       exact (by rw [hrec] at h3 ⊢;exact h3)
     | _=>exact hq2.elim
   | _=>exact hq.elim
 · rintro e W2 ⟨⟨v0,rfl⟩,L,hS,h2⟩
   have hr2:W2.heap[w.heap.size+1]?=some (.loop (rec .ready none)):=h2.obj _ (by have:=loopP_at (L:=L) (M:=[]) (D:=w.heap.size) (l:=w.heap.size+1) (o:=.loop (rec .ready none));rwa [List.append_nil] at this)
   have hend:=run_endLoop (P:=P) hr2 (by simp [hrec])
   have hp:(rec .ready none).pending=none:=by rw [hrec]
   replace hend:=hend.trans (congrArg (fun p=>Result.ok p _) hp)
   have h3:Mem W2 (L++loopP w.heap.size (w.heap.size+1) (.loop (rec .ready none))++[]):=by rw [List.append_nil];exact h2
   have h4:=(h3.putL (.loop { rec .ready none with state:=.exhausted })).left
   exact ⟨_,_,hend,hQ _ _ _ L _ hS h4⟩
end Go.Proofs.YtdpojpcoghcieaaGreat
namespace Go.Proofs.YtdpojpcoghcieaaGreat
open Lib renaming hid → K1
open Go.RowKit Go.Shelf
abbrev matV (r c:Nat) (A:Option Addr) (n cap:Nat):Value:=.agg #[.int .i64 r,.int .i64 c,.slice A n cap]
def matB (g r c:Nat) (A:Option Addr) (n cap:Nat):Ch:=.obj g (.cells #[.int .i64 r,.int .i64 c,.slice A n cap] 333 (0,0))
set_option maxRecDepth 100000 in
theorem sides_any (w:World) (r c:Nat) (hr:1≤r∧r≤1048576) (hc:1≤c∧c≤1048576) :
  Calls Tryz.prog 239 #[.int .i64 r,.int .i64 c] w fun e w'=>e=.returned (.bool true)∧w=w':=by
 obtain ⟨hr1,hr2⟩:=hr
 obtain ⟨hc1,hc2⟩:=hc
 go_enter Tryz.func239,Tryz.ntmps239
 go_wp2
 all_goals
  go_ret
  exact ⟨by simp;omega,rfl⟩
set_option maxRecDepth 100000 in
theorem right_any (w:World) (r c n cap:Nat) (A:Option Addr) (hr:1≤r∧r≤1048576) (hc:1≤c∧c≤1048576) (hn:n=r*c) (hn2:n≤1048576) :
  Calls Tryz.prog 230 #[matV r c A n cap] w fun e w'=>e=.returned (.bool true)∧Below w.heap.size w w':=by
 have CS:=K1 (fun W=>sides_any W r c hr hc)
 have HM:=K1 ((Mem.start w).alloc (.cells #[.int .i64 r,.int .i64 c,.slice A n cap] 333))
 have e1:(r:Int)*(c:Int)=(n:Int):=by rw [hn,Int.natCast_mul]
 clear hn
 go_enter Tryz.func230,Tryz.ntmps230
 have c0:=HM.out.cells 1 rfl
 go_wp2_with fail
 (with_reducible refine (CS.out _).mono ?_)
 rintro e w1 ⟨rfl,rfl⟩
 clear CS
 go_wp2_with fail
 all_goals
  go_ret
  exact ⟨rfl,HM.out.bel 0 rfl⟩
set_option maxRecDepth 100000 in
theorem row_any (w:World) (A:Option Addr) (r c n cap k lo:Nat) (hlo:lo=k*c) (hc:1≤c) (hn:lo+c≤n) (hcap:n≤cap) (hm:n≤1048576) (hk:k≤1048576) :
  Calls Tryz.prog 245 #[matV r c A n cap,.int .i64 k] w fun e w'=>e=.returned (.slice (A.map fun p=>p.add lo) c c)∧Below w.heap.size w w':=by
 have HM:=K1 ((Mem.start w).alloc (.cells #[.int .i64 r,.int .i64 c,.slice A n cap] 333))
 obtain ⟨hi,hhi⟩:∃ hi,hi=lo+c:=⟨_,rfl⟩
 have e1:(k:Int)*(c:Int)=(lo:Int):=by rw [hlo,Int.natCast_mul]
 have e2:((k:Int)+1)*(c:Int)=(hi:Int):=by rw [Int.add_mul,e1];omega
 have h1:lo≤hi:=by omega
 have h2:hi≤cap:=by omega
 have h3:hi≤1048576:=by omega
 have h4:¬ hi=lo:=by omega
 have h5:hi-lo=c:=by omega
 have h6:(hi:Int)-(lo:Int)=(c:Int):=by omega
 clear hlo hhi hn
 have c0:=HM.out.cells 1 rfl
 go_enter Tryz.func245,Tryz.ntmps245
 go_wp2_with fail
 go_region
 go_wp2_with fail
 go_ret
 exact ⟨rfl,below_drew (HM.out.bel 0 rfl)⟩
theorem rows_any (A:Option Addr) (r c n cap:Nat) (w:World) :
  Calls Tryz.prog 235 #[matV r c A n cap] w fun e w'=>e=.returned (.func (.func 244) #[] #[.pointer (some ⟨w.heap.size,0,none⟩)])∧w'=w.alloc (.cells #[.int .i64 r,.int .i64 c,.slice A n cap] 333):=by
 go_enter Tryz.func235,Tryz.ntmps235
 go_wp2
 go_ret
 exact ⟨rfl,rfl⟩
def rowArgs (A:Option Addr) (c k:Nat):Array Value:=#[.int .i64 k,.slice (A.map fun p=>p.add (k*c)) c c]
set_option maxRecDepth 100000 in
theorem rows1_in (n l Bm r c N cap:Nat) (A:Option Addr) (hc:1≤c) (hN:N=r*c) (hcap:N≤cap) (hm:N≤1048576) (hr:r≤1048576) (J:Nat→World→Prop)
  (hE:∀ k W,J k W→∀ i,W.cell? ⟨Bm,i,none⟩=([.int .i64 r,.int .i64 c,.slice A N cap]:List Value)[i]?) (hJ:∀ k W W',J k W→Below W.heap.size W W'→J k W')
  (hY:∀ k W,k<r→J k W→YieldAt Fence.wide (n-1) Tryz.prog l (rowArgs A c k) W fun e W'=>e=.returned (.bool true)∧J (k+1) W')
  (W:World) (h0:J 0 W):CallsIn Fence.wide n Tryz.prog 244 #[.func (.yield l) #[] #[],.pointer (some ⟨Bm,0,none⟩)] W fun e W'=>(∃ v,e=.returned v)∧J r W':=by
 have HE:=K1 hE
 have HJ:=K1 hJ
 have HY:=K1 hY
 have HN:=K1 hN
 have c1:=hE _ _ h0
 clear hE hJ hY hN
 refine callsIn_of_wp Tryz.func244 rfl trivial ?_ rfl
 simp only [Tryz.ntmps244,List.size_toArray,List.length_cons,List.length_nil,Nat.reduceAdd,Nat.reduceSub,Array.replicate_succ,Array.replicate_zero,List.push_toArray,List.append_toArray,List.nil_append,List.cons_append]
 gi_wp2_with fail
 gi_loopw [6] (fun i wr=>∃ k:Nat,k≤r∧i=.int .i64 k∧Hid (J k wr)) (fun i _=>r-(intOf i).toNat)
 case atStart=>exact ⟨0,Nat.zero_le _,rfl,K1 h0⟩
 case round =>
  clear c1 h0
  obtain ⟨k,hk,rfl,HS⟩:=hrel
  by_cases hlt:k<r
  · have c1:=HE.out _ _ HS.out
    have hle:=Nat.mul_le_mul_right c (show k+1≤r by omega)
    rw [Nat.succ_mul] at hle
    have CR:=K1 (row_any wr A r c N cap k (k*c) rfl hc (by rw [HN.out];exact hle) hcap hm (by omega))
    clear hle
    gi_wp2_with fail
    refine ⟨trivial,fun h=>(by cases h),(callsIn_wide.2 CR.out).mono ?_⟩
    rintro e' w3 ⟨rfl,hb3⟩
    have J3:=HJ.out _ _ _ HS.out hb3
    obtain ⟨fn,tmps,assign,body,hy,hR⟩:=HY.out k w3 hlt J3
    unfold rowArgs at hy
    clear J3 hb3 HS c1 CR
    gi_wp2_with fail
    refine ⟨fun h=>(by cases h),hR.mono ?_⟩
    rintro e' w4 ⟨rfl,hJ4⟩
    have H4:=K1 hJ4
    clear hJ4 hy hR
    gi_wp2_with fail
    go_roundw
    case rel=>exact ⟨k+1,by omega,by go_num,H4⟩
    case measure=>simp [intOf];omega
  · have hkr:k=r:=by omega
    subst hkr
    gi_wp2_with fail
    go_end0
    exact ⟨⟨_,rfl⟩,HS.out⟩
end Go.Proofs.YtdpojpcoghcieaaGreat
