/- A part of the proof of TopSerial: Collect, RingRound. Conditions: none. -/
import Derived.Test.YtdpojpcoghcieaaGreatSdAE
import Derived.Test.YtdpojpcoghcieaaGreatSdAD
set_option maxHeartbeats 8000000
namespace Go.Proofs.YtdpojpcoghcieaaGreat
open Lib renaming hid → K1
open Go.RowKit Go.Shelf
attribute [local go_sem] Oper.semAt_some
theorem wpIn_range_w {P:Program} {n:Nat} {g:Operand} {ps:Array Tmp} {assign body:Code} {Q:Exit→Act→World→Prop} {a:Act} {w:World} {gf:Nat} {lb:Array Value} (hg:a.eval g=.func (.func gf) #[] lb)
  (eg:∀ args w,(callFunc gf args).run P w=.ok (.enter gf args) w)
  (h:∀ (fn:FuncId) (rec:LoopState→Option Code→Loop) (W1:World),rec=(fun st pe=>{ state:=st,pending:=pe,fn,tmps:=a.tmps,params:=ps,assign,body,defers:=w.heap.size }) →
   W1.heap[w.heap.size+1]?=some (.loop (rec .ready none))→W1.heap[w.heap.size]?=some (.deferred (some []))→Below w.heap.size w W1 →
   CallsIn Fence.wide (n-1) P gf (#[.func (.yield (w.heap.size+1)) #[] #[]]++lb) W1 (rangePost Fence.wide n P (w.heap.size+1) Q { a with defers:=[{ target:=.collected w.heap.size,args:=#[] }]++a.defers })):(Code.rangeFunc g ps assign body).wpIn Fence.wide n P Q a w:=by
 refine wpIn_rangeFunc fun fn _=>?_
 obtain ⟨W1,hW1⟩:∃ W1,W1=(w.alloc (.deferred (some []))).alloc (.loop { state:=.ready,pending:=none,fn,tmps:=a.tmps,params:=ps,assign,body,defers:=w.heap.size }):=⟨_,rfl⟩
 have he:=run_enterLoop_outer (P:=P) (w:=w) fn a.tmps ps assign body
 rw [← hW1] at he
 have e0:(resolve a.eval (rangeCall g (w.heap.size+1)) 0).run P W1=.ok { target:=.fn (.func gf) lb,args:=#[.func (.yield (w.heap.size+1)) #[] #[]] } W1:=by
  have e0:resolve a.eval (rangeCall g (w.heap.size+1)) 0=Deferred.ofValue (a.eval g) #[Value.func (.yield (w.heap.size+1)) #[] #[]]:=by
   simp only [resolve,List.map_toArray,List.map_cons,List.map_nil]
   rfl
  rw [e0,hg]
  simp [Deferred.ofValue]
 refine ⟨w.heap.size+1,[{ target:=.collected w.heap.size,args:=#[] }],W1,_,W1,gf,_,W1,he,e0,fun _ _=>trivial,eg _ _,fun h=>(by cases h),?_⟩
 refine h fn _ W1 rfl ?_ ?_ ?_
 · rw [hW1]
   have:=World.alloc_heap_new (w.alloc (.deferred (some []))) (.loop { state:=.ready,pending:=none,fn,tmps:=a.tmps,params:=ps,assign,body,defers:=w.heap.size })
   rwa [World.size_alloc] at this
 · rw [hW1]
   exact blk_alloc (heap_alloc_new w _) _
 · rw [hW1]
   exact ((Below.refl _ _).alloc (Nat.le_refl _) _).alloc (by simp) _
theorem own_ne_obj {W:World} {base e size n k:Nat} {v:Value} {xs:List Value} {o:Obj} (h:W.ownsRow base e size v n xs) (ho:W.heap[k]?=some o) (hc:o.isCells=false):v.ownBlock≠some k:=by
 rcases h.2 with ⟨rfl,_⟩ | ⟨g,cap,cur,rfl,_,hh,_⟩
 · simp [Value.ownBlock]
 · simp only [Value.ownBlock]
   intro e
   injection e with e
   subst e
   rw [hh] at ho
   injection ho with ho
   subst ho
   cases hc
theorem own_put {W:World} {base e size n k:Nat} {v:Value} {xs:List Value} {o o':Obj} (h:W.ownsRow base e size v n xs) (ho:W.heap[k]?=some o) (hc:o.isCells=false):(W.putObj k o').ownsRow base e size v n xs :=
 h.kept (grownBy_putObj' W k o') (.inr (own_ne_obj h ho hc))
theorem below_put {B k:Nat} {w W:World} {o':Obj} (h:Below B w W) (hB:B≤W.heap.size) (hk:B≤k):Below B w (W.putObj k o') :=
 h.grown (grownBy_putObj' W k o') hB (fun j e=>by injection e with e;omega)
structure Col (w:World) (rec:LoopState→Option Code→Loop) (D l S:Nat) (pre:List (Nat × Nat)) (W:World):Prop where
 rec_:W.heap[l]?=some (.loop (rec .ready none))
 dfr:W.heap[D]?=some (.deferred (some []))
 box:∃ v,W.heap[S]?=some (.cells #[v] 44 (0,0))∧OwnR W w.heap.size v pre
 bel:Below w.heap.size w W
theorem Col.below {w W W':World} {rec:LoopState→Option Code→Loop} {D l S:Nat} {pre:List (Nat × Nat)} (h:Col w rec D l S pre W) (hb:Below W.heap.size W W'):Col w rec D l S pre W':=by
 obtain ⟨v,h1,h2⟩:=h.box
 exact ⟨blk_below h.rec_ hb (blk_lt h.rec_),blk_below h.dfr hb (blk_lt h.dfr),⟨v,blk_below h1 hb (blk_lt h1),own_below h2 hb⟩,h.bel.trans (hb.mono h.bel.size)⟩
set_option maxRecDepth 100000 in
theorem appendSeq_any (Bl Bs Bb cap by_:Nat) (A:Option Addr) (rs:List (Nat × Nat)) (hm:rs.length≤1048576) (hr:∀ p∈rs,p.1≤1048576∧p.2≤1048576) (hby:by_≤1048576) (w:World) (hl:LaterAt w Bl Bs Bb A rs cap by_) :
  Calls Tryz.prog 175 #[.slice none 0 0,.func (.func 79) #[] #[.pointer (some ⟨Bl,0,none⟩),.pointer (some ⟨Bs,0,none⟩)]] w fun e w'=>∃ v,e=.returned v∧OwnR w' w.heap.size v (shiftL by_ rs)∧Below w.heap.size w w':=by
 obtain ⟨i0,hi,hz0,hz1,hz2⟩:=info_parts infoPR
 have HI:=K1 (And.intro hi (And.intro hz0 (And.intro hz1 hz2)))
 have HL:=K1 hl
 have HR:=K1 hr
 clear hi hz0 hz1 hz2 hl hr
 refine (callsIn_wide (n:=5)).1 ?_
 refine callsIn_of_wp_marks Tryz.func175 rfl trivial ?_ rfl
 simp only [Tryz.ntmps175,List.size_toArray,List.length_cons,List.length_nil,Nat.reduceAdd,Nat.reduceSub,Array.replicate_succ,Array.replicate_zero,List.push_toArray,List.append_toArray,List.nil_append,List.cons_append]
 gi_wp2_with fail
 have hbox:=heap_alloc_new w (.cells #[.slice none 0 0] 44)
 have hbel:Below w.heap.size w (w.alloc (.cells #[.slice none 0 0] 44)):=(Below.refl _ _).alloc (Nat.le_refl _) _
 have hsz:(w.alloc (.cells #[.slice none 0 0] 44)).heap.size=w.heap.size+1:=by simp
 have hat:=HL.out.below hbel
 have HX:=K1 (And.intro hbox (And.intro hbel (And.intro hsz hat)))
 clear hbox hbel hsz hat
 generalize w.alloc (.cells #[.slice none 0 0] 44)=w0 at *
 refine wpIn_range_w rfl (fun _ _=>by go_simp) fun fn rec W1 hrec hl1 hd1 hb1=>?_
 have HJ:Hid (Col w rec w0.heap.size (w0.heap.size+1) w.heap.size [] W1):=K1 ⟨hl1,hd1,⟨_,blk_below HX.out.1 hb1 (blk_lt HX.out.1),OwnR.nil_ _ _⟩,HX.out.2.1.trans (hb1.mono HX.out.2.1.size)⟩
 refine (later2_in _ _ Bl Bs Bb cap by_ A rs hm HR.out hby (Col w rec w0.heap.size (w0.heap.size+1) w.heap.size) (fun pre W h=>HL.out.below h.bel) (fun pre W W' h hb=>h.below hb) (fun pre x y W h hlt _=>?_) W1 HJ.out).mono ?_
 · have hy:=run_yield (P:=Tryz.prog) (args:=#[.agg #[.int .i64 x,.int .i64 y]]) h.rec_ (by rw [hrec];rfl)
   rw [hrec] at hy
   have HREC:=K1 hrec
   refine ⟨fn,_,_,_,hy,roundIn_of_wpIn trivial ?_⟩
   clear hy hrec
   obtain ⟨v,hv1,hv2⟩:=h.box
   have hsz:=h.bel.size
   have hrc:=blk_alloc h.rec_ (.cells #[.int .i64 x,.int .i64 y] 47)
   have hdf:=blk_alloc h.dfr (.cells #[.int .i64 x,.int .i64 y] 47)
   have hbx:=blk_alloc hv1 (.cells #[.int .i64 x,.int .i64 y] 47)
   have hrb:=heap_alloc_new W (.cells #[.int .i64 x,.int .i64 y] 47)
   have how:=hv2.alloc (.cells #[.int .i64 x,.int .i64 y] 47)
   have hbl:=h.bel.alloc hsz (.cells #[.int .i64 x,.int .i64 y] 47)
   have hW0:=HX.out.2.2.1
   have hbg:=run_beginRound (P:=Tryz.prog) hrc (by rw [HREC.out])
   have ne1:w.heap.size≠w0.heap.size+1:=by omega
   have ne2:w0.heap.size≠w0.heap.size+1:=by omega
   have ne3:W.heap.size≠w0.heap.size+1:=fun e=>by have:=blk_lt h.rec_;omega
   have hrc2:=World.putObj_heap_same (o:=.loop { rec .ready none with state:=.busy }) (blk_lt hrc)
   have hdf2:=(World.putObj_heap_other (o:=.loop { rec .ready none with state:=.busy }) ne2).trans hdf
   have hbx2:=(World.putObj_heap_other (o:=.loop { rec .ready none with state:=.busy }) ne1).trans hbx
   have hrb2:=(World.putObj_heap_other (o:=.loop { rec .ready none with state:=.busy }) ne3).trans hrb
   have how2:=own_put (o':=.loop { rec .ready none with state:=.busy }) how hrc rfl
   have hbl2:=below_put (o':=.loop { rec .ready none with state:=.busy }) hbl hbl.size (k:=w0.heap.size+1) (by omega)
   have H2:=K1 (And.intro hrc2 (And.intro hdf2 (And.intro hbx2 (And.intro how2 hbl2))))
   have HBG:=K1 hbg
   have HLT:=K1 hlt
   have c1:=blk_cell hbx2 0
   have f1:=blk_frozen hbx2 0
   have c2:=blk_cell hrb2 0
   have c3:=blk_cell hrb2 1
   have HW0:=K1 (And.intro hW0 (And.intro ne1 (And.intro ne2 (And.intro ne3 hsz))))
   clear h hv1 hv2 hlt HJ hl1 hd1 hb1 hrc hdf hbx hrb how hbl hbg hrc2 hdf2 hbx2 hrb2 how2 hbl2 hW0 ne1 ne2 ne3 hsz
   simp only [List.zip_toArray,List.zip_cons_cons,List.zip_nil_left]
   gi_wp2_with fail
   refine ⟨_,HBG.out,?_⟩
   clear HBG
   obtain ⟨W2,hW2⟩:∃ W2,W2=(W.alloc (.cells #[.int .i64 x,.int .i64 y] 47)).putObj (w0.heap.size+1) (.loop { rec .ready none with state:=.busy }):=⟨_,rfl⟩
   rw [← hW2] at H2 c1 f1 c2 c3 ⊢
   clear hW2
   have HW3:=K1 (H2.out.2.2.2.1.alloc (.cells #[.int .i64 x,.int .i64 y] 47))
   have HN3:=K1 (newAtP W2 (.cells #[.int .i64 x,.int .i64 y] 47) rfl)
   have HS2:=K1 H2.out.2.2.2.2.size
   have HLM:=K1 hm
   clear hm
   gi_wp2_with (gi_at_builtin;refine wpListIn_append_own _ rfl _ _ 44 rfl w.heap.size 47 i0 (.agg #[.int .i64 0,.int .i64 0]) 2 16 Tryz.underlying44 HI.out.1 HI.out.2.1 HI.out.2.2.1 HI.out.2.2.2 rfl (by decide) _ _ _ rfl HW3.out ⟨W2.heap.size,0,none⟩ 1 1 [.int .i64 x,.int .i64 y] rfl rfl (by intro j u hj;rw [add_none,Nat.zero_add,blk_cell HN3.out];simpa using hj) (by intro u hu;simp at hu;rcases hu with rfl | rfl <;> rfl) (by have:=HLT.out;have:=HLM.out;simp [maxLen];omega) (by have:=HLT.out;have:=HLM.out;simp;omega) (by have:=HS2.out;simp;omega) ?_;intro v' w3 hown' hgrow _;obtain ⟨g',cap',rfl⟩:=ownsRow_succ hown';obtain ⟨hv1,hv2,hr2,hk2,hb2⟩:=Boxed.appended (t:=44) H2.out.2.2.1 (by decide) H2.out.2.2.2.1 H2.out.2.2.2.2.size (Nat.le_refl _) hown' hgrow;have hc1:=hv1.cell;have hf1:=hv1.frozen;have HR2:=K1 (And.intro hv2 (And.intro hr2 (And.intro hk2 hb2)));clear hv1 hv2 hr2 hk2 hb2 hown' hgrow)
   obtain ⟨w4,hw4⟩:∃ w4,w4=w3.setCell ⟨w.heap.size,0,none⟩ (.slice (some ⟨g',0,none⟩) (pre.length+1) cap'):=⟨_,rfl⟩
   rw [← hw4] at HR2 ⊢
   have hl4:=HR2.out.2.2.1.same _ _ H2.out.1 rfl
   have hd4:=HR2.out.2.2.1.same _ _ H2.out.2.1 rfl
   obtain ⟨hb4,ho4,_,hlw⟩:=HR2.out
   have hbb:=H2.out.2.2.2.2.trans (hlw.mono (Nat.le_refl _))
   obtain ⟨e0,e1,e2,e3,e4⟩:=HW0.out
   clear HR2 H2 hw4
   have hend:=run_endRound (P:=Tryz.prog) none hl4
   refine ⟨_,_,hend,rfl,⟨?_,(World.putObj_heap_other e2).trans hd4,⟨_,(World.putObj_heap_other e1).trans hb4,?_⟩,below_put hbb hbb.size (by omega)⟩⟩
   · rw [World.putObj_heap_same (blk_lt hl4),HREC.out]
     rfl
   · exact own_put (OwnR.snoc ho4 rfl) hl4 rfl
 · rintro e W2 ⟨⟨v0,rfl⟩,h2⟩
   obtain ⟨v,hv,hrow⟩:=h2.box
   have hend:=run_endLoop (P:=Tryz.prog) h2.rec_ (by simp [hrec])
   have hp:(rec .ready none).pending=none:=by rw [hrec]
   replace hend:=hend.trans (congrArg (fun p=>Result.ok p _) hp)
   have hX:=HX.out.2.2.1
   have ne1:w.heap.size≠w0.heap.size+1:=by omega
   have ne2:w0.heap.size≠w0.heap.size+1:=by omega
   have hv3:=(World.putObj_heap_other (o:=.loop { rec .ready none with state:=.exhausted }) ne1).trans hv
   have hd3:=(World.putObj_heap_other (o:=.loop { rec .ready none with state:=.exhausted }) ne2).trans h2.dfr
   have hr3:=own_put (o':=.loop { rec .ready none with state:=.exhausted }) hrow h2.rec_ rfl
   have hb3:=below_put (o':=.loop { rec .ready none with state:=.exhausted }) h2.bel h2.bel.size (k:=w0.heap.size+1) (by omega)
   refine ⟨_,_,hend,?_⟩
   have hsz:=h2.bel.size
   obtain ⟨W3,hW3⟩:∃ W3,W3=W2.putObj (w0.heap.size+1) (.loop { rec .ready none with state:=.exhausted }):=⟨_,rfl⟩
   rw [← hW3] at hv3 hd3 hr3 hb3 ⊢
   have c1:=blk_cell hv3 0
   have f1:=blk_frozen hv3 0
   have HF:=K1 (And.intro hd3 (And.intro hr3 (And.intro hb3 hX)))
   clear hend h2 hv hrow hW3 hv3 hd3 hr3 hb3 HJ hl1 hd1 hb1 hrec hX ne1 ne2 hsz
   clear hp
   gi_wp2_with fail
   refine ⟨by simp,.inl ⟨_,_,rfl,run_takeDeferred HF.out.1,?_⟩⟩
   have hX:=HF.out.2.2.2
   exact ⟨_,results_tmp rfl _ _ _,v,rfl,own_put HF.out.2.1 HF.out.1 rfl,below_put HF.out.2.2.1 HF.out.2.2.1.size (by omega)⟩
theorem collect_any (Bl Bs Bb cap by_:Nat) (A:Option Addr) (rs:List (Nat × Nat)) (hm:rs.length≤1048576) (hr:∀ p∈rs,p.1≤1048576∧p.2≤1048576) (hby:by_≤1048576) (w:World) (hl:LaterAt w Bl Bs Bb A rs cap by_) :
  Calls Tryz.prog 174 #[.func (.func 79) #[] #[.pointer (some ⟨Bl,0,none⟩),.pointer (some ⟨Bs,0,none⟩)]] w fun e w'=>∃ v,e=.returned v∧OwnR w' w.heap.size v (shiftL by_ rs)∧Below w.heap.size w w':=by
 have C:=K1 (appendSeq_any Bl Bs Bb cap by_ A rs hm hr hby w hl)
 clear hl hr
 go_enter Tryz.func174,Tryz.ntmps174
 go_wp2_with fail
 (with_reducible refine C.out.mono ?_)
 rintro e w1 ⟨v,rfl,hv,hb⟩
 go_wp2_with fail
 go_ret
 exact ⟨v,rfl,hv,hb⟩
abbrev laterV (Bl Bs:Nat):Value:=.func (.func 79) #[] #[.pointer (some ⟨Bl,0,none⟩),.pointer (some ⟨Bs,0,none⟩)]
theorem laterAt_any (A:Option Addr) (n cap by_:Nat) (rs:List (Nat × Nat)) (w:World) (hn:n=rs.length) (hr:RdR w w.heap.size A rs) :
  Calls Tryz.prog 41 #[.slice A n cap,.int .i64 by_] w fun e w'=>∃ Bl Bs Bb,e=.returned (laterV Bl Bs)∧LaterAt w' Bl Bs Bb A rs cap by_∧Below w.heap.size w w'∧w.heap.size≤Bl∧w.heap.size≤Bs∧w.heap.size≤Bb:=by
 refine (later_any A n cap by_ w).mono ?_
 rintro e w' ⟨rfl,t,rfl⟩
 subst hn
 have k0:=newAtP w (.cells #[.slice A rs.length cap] 44) rfl
 have k1:=newAtP (w.alloc (.cells #[.slice A rs.length cap] 44)) (.cells #[.int .i64 by_] 3) (g:=w.heap.size+1) (by simp)
 have k2:=newAtP ((w.alloc (.cells #[.slice A rs.length cap] 44)).alloc (.cells #[.int .i64 by_] 3)) (.cells #[.func (.func 78) #[] #[.pointer (some ⟨w.heap.size+1,0,none⟩)]] t) (g:=w.heap.size+2) (by simp)
 have hb:Below w.heap.size w (((w.alloc (.cells #[.slice A rs.length cap] 44)).alloc (.cells #[.int .i64 by_] 3)).alloc (.cells #[.func (.func 78) #[] #[.pointer (some ⟨w.heap.size+1,0,none⟩)]] t)):=(((Below.refl _ _).alloc (Nat.le_refl _) _).alloc (by simp) _).alloc (by simp only [World.size_alloc];omega) _
 exact ⟨_,_,w.heap.size+1,rfl,⟨blk_cell (blk_alloc (blk_alloc k0 _) _) 0,blk_cell k2 0,blk_cell (blk_alloc k1 _) 0,(hr.below hb).more hb.size⟩,hb,Nat.le_refl _,Nat.le_add_right _ _,Nat.le_add_right _ _⟩
theorem even_le (n k:Nat) (hk:1≤k):∀ p∈evenL n k,p.1≤n∧p.2≤n:=by
 intro p hp
 obtain ⟨i,hi,rfl⟩:=List.mem_map.1 hp
 have hi:=List.mem_range.1 hi
 exact ⟨bnd_le hk (by omega),bnd_le hk (by omega)⟩
theorem blocks_le (n s:Nat) (hs:1≤s):∀ p∈blocksL n s,p.1≤n∧p.2≤n:=by
 intro p hp
 obtain ⟨i,hi,rfl⟩:=List.mem_map.1 hp
 have hi:=pcnt_lt hs (List.mem_range.1 hi)
 unfold blk1
 exact ⟨by dsimp only;omega,by dsimp only;omega⟩
set_option maxRecDepth 100000 in
theorem segments_any (lo hi wk:Nat) (hlo:lo≤hi) (hhi:hi≤1048576) (hk:1≤wk∧wk≤1000) (w:World) :
  Calls Tryz.prog 166 #[.agg #[.int .i64 lo,.int .i64 hi],.int .i64 wk] w fun e w'=>∃ v,e=.returned v∧OwnR w' w.heap.size v (shiftL lo (evenL (hi-lo) wk))∧Below w.heap.size w w':=by
 have CS:=K1 (fun W=>psize_any lo hi W hlo hhi)
 have CE:=K1 (fun W=>even_any (hi-lo) wk W (by omega) hk)
 have HL:=K1 (fun p hp=>And.intro (Nat.le_trans (even_le (hi-lo) wk hk.1 p hp).1 (show hi-lo≤1048576 by omega)) (Nat.le_trans (even_le (hi-lo) wk hk.1 p hp).2 (show hi-lo≤1048576 by omega)))
 have HN:=K1 (show (evenL (hi-lo) wk).length≤1048576 by rw [even_len];omega)
 have HLO:=K1 (show lo≤1048576 by omega)
 have HE:=K1 (heap_alloc_new w (.cells #[.int .i64 lo,.int .i64 hi] 47))
 have HB:=K1 ((Below.refl w.heap.size w).alloc (Nat.le_refl _) (.cells #[.int .i64 lo,.int .i64 hi] 47))
 generalize evenL (hi-lo) wk=rs at *
 generalize hi-lo=d at *
 go_enter Tryz.func166,Tryz.ntmps166
 go_wp2_with fail
 go_region_held3 (fun w'=>w'.cell? ⟨w.heap.size,0,none⟩=some (.int .i64 lo)∧w'.cell? ⟨w.heap.size,1,none⟩=some (.int .i64 hi))
  (first
   | exact ⟨blk_cell HE4.out 0,blk_cell HE4.out 1⟩
   | exact ⟨blk_cell HE3.out 0,blk_cell HE3.out 1⟩
   | exact ⟨blk_cell HE2.out 0,blk_cell HE2.out 1⟩
   | exact ⟨blk_cell HE1.out 0,blk_cell HE1.out 1⟩
   | exact ⟨blk_cell HE.out 0,blk_cell HE.out 1⟩)
  (first
   | (go_at_call 43
      (with_reducible refine (CS.out _).mono ?_)
      rintro e w1 ⟨rfl,hw1⟩
      have HE1:=K1 (blk_below (blk_drew HE.out) (show Below (w.heap.size+1) _ w1 by rw [hw1];exact (Below.refl _ _).alloc (by simp) _) (Nat.lt_succ_self _))
      have HB1:=K1 (show Below w.heap.size w w1 by rw [hw1];exact (below_drew HB.out).alloc (by simp) _)
      clear hw1 CS HE HB)
   | (go_at_call 42
      (with_reducible refine (CE.out _).mono ?_)
      rintro e w2 ⟨v,rfl,hv,hb2⟩
      obtain ⟨A1,c1,rfl⟩:=own_slice hv
      have HV:=K1 (OwnR.rd hv).1
      have HE2:=K1 (blk_below HE1.out hb2 (blk_lt HE1.out))
      have HB2:=K1 (HB1.out.trans (hb2.mono HB1.out.size))
      clear hv hb2 CE HE1 HB1)
   | (go_at_call 41
      (with_reducible refine (laterAt_any _ _ _ _ rs _ rfl HV.out).mono ?_)
      rintro e w3 ⟨Bl,Bs,Bb,rfl,hat,hb3,_⟩
      have HAT:=K1 hat
      have HE3:=K1 (blk_below HE2.out hb3 (blk_lt HE2.out))
      have HB3:=K1 (HB2.out.trans (hb3.mono HB2.out.size))
      clear hat hb3 HV HE2 HB2)
   | (go_at_call 174
      (with_reducible refine (collect_any _ _ _ _ _ _ rs HN.out HL.out HLO.out _ HAT.out).mono ?_)
      rintro e w4 ⟨v,rfl,hv,hb4⟩
      have HE4:=K1 (blk_below HE3.out hb4 (blk_lt HE3.out))
      have HV4:=K1 (own_from HB3.out.size hv)
      have HB4:=K1 (HB3.out.trans (hb4.mono HB3.out.size))
      clear hv hb4 HAT HE3 HB3))
 go_wp2_with fail
 go_ret
 exact ⟨_,rfl,HV4.out,HB4.out⟩
set_option maxRecDepth 100000 in
theorem chunks_any (lo hi s:Nat) (hlo:lo≤hi) (hhi:hi≤1048576) (hs:1≤s∧s≤1048576) (w:World) :
  Calls Tryz.prog 167 #[.agg #[.int .i64 lo,.int .i64 hi],.int .i64 s] w fun e w'=>∃ v,e=.returned v∧OwnR w' w.heap.size v (shiftL lo (blocksL (hi-lo) s))∧Below w.heap.size w w':=by
 have CS:=K1 (fun W=>psize_any lo hi W hlo hhi)
 have CE:=K1 (fun W=>pblocks_any (hi-lo) s W (by omega) hs)
 have HL:=K1 (fun p hp=>And.intro (Nat.le_trans (blocks_le (hi-lo) s hs.1 p hp).1 (show hi-lo≤1048576 by omega)) (Nat.le_trans (blocks_le (hi-lo) s hs.1 p hp).2 (show hi-lo≤1048576 by omega)))
 have HN:=K1 (show (blocksL (hi-lo) s).length≤1048576 by rw [blocks_len];have:=pcnt_le (hi-lo) s;omega)
 have HLO:=K1 (show lo≤1048576 by omega)
 have HE:=K1 (heap_alloc_new w (.cells #[.int .i64 lo,.int .i64 hi] 47))
 have HB:=K1 ((Below.refl w.heap.size w).alloc (Nat.le_refl _) (.cells #[.int .i64 lo,.int .i64 hi] 47))
 generalize blocksL (hi-lo) s=rs at *
 generalize hi-lo=d at *
 go_enter Tryz.func167,Tryz.ntmps167
 go_wp2_with fail
 go_region_held3 (fun w'=>w'.cell? ⟨w.heap.size,0,none⟩=some (.int .i64 lo)∧w'.cell? ⟨w.heap.size,1,none⟩=some (.int .i64 hi))
  (first
   | exact ⟨blk_cell HE4.out 0,blk_cell HE4.out 1⟩
   | exact ⟨blk_cell HE3.out 0,blk_cell HE3.out 1⟩
   | exact ⟨blk_cell HE2.out 0,blk_cell HE2.out 1⟩
   | exact ⟨blk_cell HE1.out 0,blk_cell HE1.out 1⟩
   | exact ⟨blk_cell HE.out 0,blk_cell HE.out 1⟩)
  (first
   | (go_at_call 43
      (with_reducible refine (CS.out _).mono ?_)
      rintro e w1 ⟨rfl,hw1⟩
      have HE1:=K1 (blk_below (blk_drew HE.out) (show Below (w.heap.size+1) _ w1 by rw [hw1];exact (Below.refl _ _).alloc (by simp) _) (Nat.lt_succ_self _))
      have HB1:=K1 (show Below w.heap.size w w1 by rw [hw1];exact (below_drew HB.out).alloc (by simp) _)
      clear hw1 CS HE HB)
   | (go_at_call 39
      (with_reducible refine (CE.out _).mono ?_)
      rintro e w2 ⟨v,rfl,hv,hb2⟩
      obtain ⟨A1,c1,rfl⟩:=own_slice hv
      have HV:=K1 (OwnR.rd hv).1
      have HE2:=K1 (blk_below HE1.out hb2 (blk_lt HE1.out))
      have HB2:=K1 (HB1.out.trans (hb2.mono HB1.out.size))
      clear hv hb2 CE HE1 HB1)
   | (go_at_call 41
      (with_reducible refine (laterAt_any _ _ _ _ rs _ rfl HV.out).mono ?_)
      rintro e w3 ⟨Bl,Bs,Bb,rfl,hat,hb3,_⟩
      have HAT:=K1 hat
      have HE3:=K1 (blk_below HE2.out hb3 (blk_lt HE2.out))
      have HB3:=K1 (HB2.out.trans (hb3.mono HB2.out.size))
      clear hat hb3 HV HE2 HB2)
   | (go_at_call 174
      (with_reducible refine (collect_any _ _ _ _ _ _ rs HN.out HL.out HLO.out _ HAT.out).mono ?_)
      rintro e w4 ⟨v,rfl,hv,hb4⟩
      have HE4:=K1 (blk_below HE3.out hb4 (blk_lt HE3.out))
      have HV4:=K1 (own_from HB3.out.size hv)
      have HB4:=K1 (HB3.out.trans (hb4.mono HB3.out.size))
      clear hv hb4 HAT HE3 HB3))
 go_wp2_with fail
 go_ret
 exact ⟨_,rfl,HV4.out,HB4.out⟩
end Go.Proofs.YtdpojpcoghcieaaGreat
namespace Go.Proofs.YtdpojpcoghcieaaGreat
open Lib renaming hid → K1
open Go.RowKit
def jobSegs (j:Jb):List (Nat × Nat):=shiftL j.lo (evenL (j.hi-j.lo) j.workers)
def segChunks (s:Nat) (p:Nat × Nat):List (Nat × Nat):=shiftL p.1 (blocksL (p.2-p.1) s)
def addsAt (j:Jb) (ph r:Nat) (xs ys:List (Nat × Nat)) (i:Nat):List Ac:=(xs[i]?.map (addAc j true ph r i)).toList++(ys[i]?.map (addAc j false ph r i)).toList
def addsTo (j:Jb) (ph r:Nat) (xs ys:List (Nat × Nat)) (k:Nat):List Ac:=(List.range k).flatMap (addsAt j ph r xs ys)
def roundL (j:Jb) (u ph r:Nat):List Ac :=
 let xs:=segChunks j.chunk ((jobSegs j)[segS j.workers u ph r]?.getD (0,0))
 let ys:=segChunks j.chunk ((jobSegs j)[segR j.workers u ph r]?.getD (0,0))
 addsTo j ph r xs ys (max xs.length ys.length)
theorem addsTo_succ (j:Jb) (ph r:Nat) (xs ys:List (Nat × Nat)) (k:Nat):addsTo j ph r xs ys (k+1)=addsTo j ph r xs ys k++addsAt j ph r xs ys k:=by
 simp [addsTo,List.range_succ]
theorem addsAt_len (j:Jb) (ph r:Nat) (xs ys:List (Nat × Nat)) (i:Nat):(addsAt j ph r xs ys i).length≤2:=by
 unfold addsAt
 cases xs[i]? <;> cases ys[i]? <;> simp
theorem addsTo_len (j:Jb) (ph r:Nat) (xs ys:List (Nat × Nat)):∀ k,(addsTo j ph r xs ys k).length≤2*k
 | 0=>by simp [addsTo]
 | k+1=>by
   rw [addsTo_succ,List.length_append]
   have:=addsTo_len j ph r xs ys k
   have:=addsAt_len j ph r xs ys k
   omega
theorem segs_in {j:Jb} (h:j.lo≤j.hi) (hk:1≤j.workers):∀ p∈jobSegs j,p.1≤p.2∧p.2≤j.hi:=by
 intro p hp
 obtain ⟨q,hq,rfl⟩:=List.mem_map.1 hp
 obtain ⟨i,hi,rfl⟩:=List.mem_map.1 hq
 have h1:=bnd_mono (j.hi-j.lo) j.workers i
 have h2:=bnd_le (n:=j.hi-j.lo) hk (i:=i+1) (by have:=List.mem_range.1 hi;omega)
 dsimp only
 omega
theorem segChunks_len (s:Nat) (p:Nat × Nat):(segChunks s p).length=pcnt (p.2-p.1) s:=by rw [segChunks,shift_len,blocks_len]
theorem round_eq {j:Jb} {u ph r:Nat} {p q:Nat × Nat} (h:(jobSegs j)[segS j.workers u ph r]?=some p) (k:(jobSegs j)[segR j.workers u ph r]?=some q) :
  roundL j u ph r=addsTo j ph r (segChunks j.chunk p) (segChunks j.chunk q) (max (segChunks j.chunk p).length (segChunks j.chunk q).length):=by
 unfold roundL
 rw [h,k]
 rfl
set_option maxRecDepth 100000 in
theorem round_any (j:Jb) (u ph r:Nat) (w:World) (hk:1≤j.workers∧j.workers≤1000) (hw:u<j.workers) (hr:r+1<j.workers) (hp:ph≤1) (hlo:j.lo≤j.hi) (hhi:j.hi≤1048576) (hs:1≤j.chunk∧j.chunk≤1048576) :
  Calls Tryz.prog 159 #[.agg j.cells.toArray,.int .i64 u,.int .i64 ph,.int .i64 r] w fun e w'=>∃ v,e=.returned v∧w'.ownsRow w.heap.size 144 9 v (roundL j u ph r).length (acells (roundL j u ph r))∧Below w.heap.size w w':=by
 have C1:=K1 (fun W=>segment_send j u ph r W hk hw hr hp)
 have C2:=K1 (fun W=>segment_recv j u ph r W hk hw hr hp)
 have C3:Hid (∀ W:World,Calls Tryz.prog 166 #[.agg #[.int .i64 j.lo,.int .i64 j.hi],.int .i64 j.workers] W fun e w'=>∃ v,e=.returned v∧OwnR w' W.heap.size v (jobSegs j)∧Below W.heap.size W w'):=K1 (fun W=>segments_any j.lo j.hi j.workers hlo hhi hk W)
 have C5:=K1 (fun lo hi (h1:lo≤hi) (h2:hi≤1048576) W=>chunks_any lo hi j.chunk h1 h2 hs W)
 have C4:=K1 (fun lo hi (h1:lo≤hi) (h2:hi≤1048576) W=>chunks_any lo hi j.chunk h1 h2 hs W)
 have hm:=(((Mem.start w).alloc (.cells j.cells.toArray 277)).alloc (.cells #[.int .i64 ph] 3)).alloc (.cells #[.int .i64 r] 3)
 simp only [World.size_alloc] at hm
 have HM:=K1 hm
 clear hm
 have hl1:=segS_lt (w:=u) (ph:=ph) (r:=r) hk.1
 have hl2:=segR_lt (w:=u) (ph:=ph) (r:=r) hk.1
 have hsl:(jobSegs j).length=j.workers:=by rw [jobSegs,shift_len,even_len]
 have hin:=segs_in hlo hk.1
 obtain ⟨po,hpo⟩:=get_some (jobSegs j) (segS j.workers u ph r) (by omega)
 obtain ⟨pi,hpi⟩:=get_some (jobSegs j) (segR j.workers u ph r) (by omega)
 have HRL:=K1 (round_eq hpo hpi)
 generalize segS j.workers u ph r=so at *
 generalize segR j.workers u ph r=si at *
 generalize jobSegs j=segs at *
 obtain ⟨lo1,hi1⟩:=po
 obtain ⟨lo2,hi2⟩:=pi
 obtain ⟨o1,o2⟩:=hin _ (List.mem_of_getElem? hpo)
 obtain ⟨p1,p2⟩:=hin _ (List.mem_of_getElem? hpi)
 dsimp only at o1 o2 p1 p2
 have HO:=K1 hpo
 have HP:=K1 hpi
 have HLT:=K1 (And.intro hl1 (And.intro hl2 hsl))
 have b1:so<segs.length:=by omega
 have b2:si<segs.length:=by omega
 clear hpo hpi hin hl1 hl2 hsl
 obtain ⟨step,bucket,lo,hi,k,chunk⟩:=j
 dsimp only [Jb.cells] at hk hw hr HM C1 C2 C3 C4 C5 hlo hhi hs HRL ⊢
 go_enter Tryz.func159,Tryz.ntmps159
 go_wp2_with fail
 (with_reducible refine (C1.out _).mono ?_)
 rintro e w1 ⟨rfl,hb⟩
 replace HM:=K1 (HM.out.below hb)
 clear hb
 have c0:=HM.out.cells 1 rfl
 have c1:=HM.out.cell 2 0 rfl rfl
 have c2:=HM.out.cell 3 0 rfl rfl
 go_wp2_with fail
 (with_reducible refine (C2.out _).mono ?_)
 rintro e w2 ⟨rfl,hb⟩
 replace HM:=K1 (HM.out.below hb)
 clear hb c0 c1 c2
 have c0:=HM.out.cells 1 rfl
 go_wp2_with fail
 (with_reducible refine (C3.out _).mono ?_)
 rintro e w3 ⟨v,rfl,hv,hb⟩
 obtain ⟨A3,cap3,rfl,_,hm⟩:=HM.out.call_rd hb hv
 obtain ⟨b3,off3,rfl,_⟩:=hm.ranges 4 rfl (by omega)
 replace HM:=K1 hm.drew
 clear hb hv c0 C1 C2 C3
 go_wp2_with fail
 go_region_held3 (fun w'=>(∀ i,w'.cell? ⟨w.heap.size,i,none⟩=([.int .i64 step,.int .i64 bucket,.int .i64 lo,.int .i64 hi,.int .i64 k,.int .i64 chunk]:List Value)[i]?)∧(w'.cell? ⟨b3,off3+so*2,none⟩=some (.int .i64 lo1)∧w'.cell? ⟨b3,off3+so*2+1,none⟩=some (.int .i64 hi1))∧(w'.cell? ⟨b3,off3+si*2,none⟩=some (.int .i64 lo2)∧w'.cell? ⟨b3,off3+si*2+1,none⟩=some (.int .i64 hi2)))
  (exact ⟨HM.out.cells 1 rfl,HM.out.range2 4 rfl HO.out,HM.out.range2 4 rfl HP.out⟩)
  (first
   | (go_at_call 167
      (with_reducible refine (C4.out _ _ (by assumption) (by omega) _).mono ?_)
      rintro e w4 ⟨v,rfl,hv,hb⟩
      obtain ⟨A4,cap4,rfl,hcap4,hm⟩:=HM.out.call_rd hb hv
      replace HM:=K1 hm
      clear hb hv hm C4)
   | (go_at_call 167
      (with_reducible refine (C5.out _ _ (by assumption) (by omega) _).mono ?_)
      rintro e w5 ⟨v,rfl,hv,hb⟩
      obtain ⟨A5,cap5,rfl,hcap5,hm⟩:=HM.out.call_rd hb hv
      replace HM:=K1 hm
      clear hb hv hm C5))
 have hx1:=segChunks_len chunk (lo1,hi1)
 have hx2:=segChunks_len chunk (lo2,hi2)
 have hx3:=pcnt_le (hi1-lo1) chunk
 have hx4:=pcnt_le (hi2-lo2) chunk
 unfold segChunks at hx1 hx2 HRL
 dsimp only at hx1 hx2 HRL
 generalize shiftL lo1 (blocksL (hi1-lo1) chunk)=xs at *
 generalize shiftL lo2 (blocksL (hi2-lo2) chunk)=ys at *
 have hxl:xs.length≤1048576:=by omega
 have hyl:ys.length≤1048576:=by omega
 clear hx1 hx2 hx3 hx4
 have HRR:=K1 (And.intro hp hs)
 have HADD:=K1 (fun (send:Bool) (i:Nat) (acs acs':List Ac) (A F:Option Addr) (c cf n:Nat) (rs:List (Nat × Nat)) (ix:Nat) (W:World) (L:List Ch) (h:Mem W L)
  (hj:L[1]?=some (.obj w.heap.size (.cells (Jb.cells ⟨step,bucket,lo,hi,k,chunk⟩).toArray 277 (0,0)))) (hp':L[2]?=some (.obj (w.heap.size+1) (.cells #[.int .i64 ph] 3 (0,0)))) (hr:L[3]?=some (.obj (w.heap.size+1+1) (.cells #[.int .i64 r] 3 (0,0))))
  (hl:L[6]?=some (.obj w5.heap.size (.cells #[.slice A acs.length c] 278 (0,0)))) (ho:L[7]?=some (.own w.heap.size 144 9 (.slice A acs.length c) acs.length (acells acs)))
  (hx:L[ix]?=some (.rd F (rcells rs))) (hn:n=rs.length) (hm:acs.length≤100000000) (he:acs'=acs++(rs[i]?.map (addAc ⟨step,bucket,lo,hi,k,chunk⟩ send ph r i)).toList)=>radd_any W L h ⟨step,bucket,lo,hi,k,chunk⟩ send ph r n i w.heap.size (w.heap.size+1) (w.heap.size+1+1) w5.heap.size w.heap.size A F c cf acs acs' rs 1 2 3 6 7 ix hj hp' hr hl ho hx hn hp hm he)
 generalize hnx:xs.length=nx at *
 generalize hny:ys.length=ny at *
 have HX:=K1 hnx
 have HY:=K1 hny
 obtain ⟨M,hMM⟩:∃ M,M=max nx ny:=⟨_,rfl⟩
 rw [← hMM] at HRL
 have HE:(ny≤nx∧M=nx)∨(nx<ny∧M=ny):=by omega
 have hM2:M≤1048576:=by omega
 have HE':=K1 HE
 clear hnx hny hMM HE
 have HM0:=K1 ((HM.out.alloc (.cells #[.slice none 0 0] 278)).add (c:=.own w.heap.size 144 9 (.slice none 0 0) 0 []) ⟨own_nil _ _ _ _,Nat.le_trans (HM.out.bel 0 rfl).size (by simp)⟩ (fun _ _ _ _ g hg=>by cases hg))
 clear HM
 go_wp2_with fail
 all_goals rcases HE'.out with ⟨h1,h2⟩ | ⟨h1,h2⟩
 all_goals first | (exfalso;omega) | subst h2
 all_goals
  clear HE' h1
  go_loopw [62] (fun i wr=>∃ (n:Nat) (A:Option Addr) (c:Nat),n≤M∧i=.int .i64 n∧Hid (Mem wr [.bel w.heap.size w,.obj w.heap.size (.cells (Jb.cells ⟨step,bucket,lo,hi,k,chunk⟩).toArray 277 (0,0)),.obj (w.heap.size+1) (.cells #[.int .i64 ph] 3 (0,0)),.obj (w.heap.size+1+1) (.cells #[.int .i64 r] 3 (0,0)),.rd A4 (rcells xs),.rd A5 (rcells ys),
    .obj w5.heap.size (.cells #[.slice A (addsTo ⟨step,bucket,lo,hi,k,chunk⟩ ph r xs ys n).length c] 278 (0,0)),.own w.heap.size 144 9 (.slice A (addsTo ⟨step,bucket,lo,hi,k,chunk⟩ ph r xs ys n).length c) (addsTo ⟨step,bucket,lo,hi,k,chunk⟩ ph r xs ys n).length (acells (addsTo ⟨step,bucket,lo,hi,k,chunk⟩ ph r xs ys n))])) (fun i _=>M-(intOf i).toNat)
  case atStart=>exact ⟨0,none,0,Nat.zero_le _,rfl,K1 (HM0.out.pick [0,1,2,3,5,6,7,8] _ rfl (by decide))⟩
  case round =>
   clear HM0
   obtain ⟨n,A,c,hn,rfl,HM⟩:=hrel
   by_cases hlt:n<M
   · have hsz:Hid ((addsTo ⟨step,bucket,lo,hi,k,chunk⟩ ph r xs ys n).length≤2*n):=K1 (addsTo_len _ _ _ _ _ n)
     have HS:=K1 (addsTo_succ ⟨step,bucket,lo,hi,k,chunk⟩ ph r xs ys n)
     unfold addsAt at HS
     generalize addsTo ⟨step,bucket,lo,hi,k,chunk⟩ ph r xs ys n=acs at *
     rw [← List.append_assoc] at HS
     obtain ⟨acs1,h1⟩:∃ acs1,acs1=acs++(Option.map (addAc ⟨step,bucket,lo,hi,k,chunk⟩ true ph r n) xs[n]?).toList:=⟨_,rfl⟩
     rw [← h1] at HS
     have H1:=K1 h1
     have hl1:Hid (acs1.length≤acs.length+1):=K1 (by rw [h1,List.length_append];cases xs[n]? <;> simp)
     clear h1
     obtain ⟨acs2,h2⟩:∃ acs2,acs2=addsTo ⟨step,bucket,lo,hi,k,chunk⟩ ph r xs ys (n+1):=⟨_,rfl⟩
     rw [← h2] at HS
     have H2:=K1 h2
     clear h2
     go_wp2_with fail
     (with_reducible refine (HADD.out true n acs acs1 A A4 c cap4 _ xs 4 _ _ HM.out rfl rfl rfl rfl rfl rfl HX.out.symm (by have:=hsz.out;omega) H1.out).mono ?_)
     rintro e w6 ⟨rfl,A1,c1,hm1⟩
     have HM1:=K1 hm1
     clear hm1 HM
     go_wp2_with fail
     (with_reducible refine (HADD.out false n acs1 acs2 A1 A5 c1 cap5 _ ys 5 _ _ HM1.out rfl rfl rfl rfl rfl rfl HY.out.symm (by have:=hsz.out;have:=hl1.out;omega) HS.out).mono ?_)
     rintro e w7 ⟨rfl,A2,c2,hm2⟩
     have HM2:=K1 hm2
     clear hm2 HM1
     go_wp2_with fail
     go_roundw
     case rel =>
      refine ⟨n+1,A2,c2,by omega,by go_num,?_⟩
      rw [← H2.out]
      exact HM2
     case measure=>simp [intOf];omega
   · have hnM:n=M:=by omega
     subst hnM
     have HF:=K1 (show Mem wr _∧_ from ⟨HM.out,HRL.out⟩)
     have c0:=HM.out.cell 6 0 rfl rfl
     clear HM HRL
     go_wp2_with fail
     go_ret
     refine ⟨_,rfl,?_⟩
     rw [HF.out.2]
     exact ⟨HF.out.1.own 7 rfl,HF.out.1.bel 0 rfl⟩
end Go.Proofs.YtdpojpcoghcieaaGreat
