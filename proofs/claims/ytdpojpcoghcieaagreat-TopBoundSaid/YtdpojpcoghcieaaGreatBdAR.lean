/- A part of the proof of TopBound: ConfInputRef, Spine. Conditions: none. -/
import Derived.StillTactics
import Derived.StillTail
import Derived.Test.YtdpojpcoghcieaaGreatBdAQ
set_option maxHeartbeats 8000000
namespace Go.Proofs.YtdpojpcoghcieaaGreat
open Lib renaming hid → K1
open Go.RowKit
theorem quiet_of' {P:Program} {f:FuncId} {args:Array Value} {w:World} {v:Value} (h:Calls P f args w fun e w'=>e=.returned v∧w=w'):Calls P f args w fun e w'=>e=.returned v∧w'=w :=
 h.mono fun _ _ ⟨a,b⟩=>⟨a,b.symm⟩
theorem refInput_bad (A DA SA RA:Option Addr) (cap dcap sn scap rn rcap:Nat) (zs:List Int) (l:List Ex) (sh ra mo wo ba mi st bu ch wi ca:Int) (w:World) (hr:RdI w w.heap.size A zs) (hm:zs.length≤9223372036854775807)
  (hk:confCode zs ⟨sh,0,0,wo,ba,mi,st,bu,ch,wi,ca⟩≠0) :
  Calls Tryz.prog 22 #[.agg #[.slice A zs.length cap,.int .i64 sh,.int .i64 ra,.int .i64 mo,.int .i64 wo,.int .i64 ba,.int .i64 mi,.int .i64 st,.int .i64 bu,.int .i64 ch,.int .i64 wi,.int .i64 ca,.slice DA l.length dcap,.slice SA sn scap,.slice RA rn rcap]] w (Coded w (inCode (confCode zs ⟨sh,0,0,wo,ba,mi,st,bu,ch,wi,ca⟩) zs st ba l sn rn)):=by
 have hb0:Below w.heap.size w ((w.alloc (.cells #[.slice A zs.length cap,.int .i64 sh,.int .i64 ra,.int .i64 mo,.int .i64 wo,.int .i64 ba,.int .i64 mi,.int .i64 st,.int .i64 bu,.int .i64 ch,.int .i64 wi,.int .i64 ca,.slice DA l.length dcap,.slice SA sn scap,.slice RA rn rcap] 29)).alloc (.cells #[.slice A zs.length cap,.int .i64 sh,.int .i64 ra,.int .i64 mo,.int .i64 wo,.int .i64 ba,.int .i64 mi,.int .i64 st,.int .i64 bu,.int .i64 ch,.int .i64 wi,.int .i64 ca] 24)):=((Below.refl _ _).alloc (Nat.le_refl _) _).alloc (by simp) _
 have C:=refConf_flat A cap zs sh ra mo wo ba mi st bu ch wi ca _ ((hr.below hb0).more hb0.size) hm
 generalize confCode zs ⟨sh,0,0,wo,ba,mi,st,bu,ch,wi,ca⟩=k at *
 have hfin:Hid (inCode k zs st ba l sn rn=k):=K1 (if_pos hk)
 have hk':(k != 0)=true:=by simpa using hk
 have HC:=K1 C
 clear C hk
 go_enter Tryz.func22,Tryz.ntmps22
 go_wp2_with (go_at_call 52;refine HC.out.mono ?_;rintro e w1 ⟨rfl,hb1⟩)
 go_ret
 exact ⟨ret_int hfin.out.symm,hb0.trans (hb1.mono hb0.size)⟩
set_option maxRecDepth 100000 in
theorem refInput_good (A DA SA RA:Option Addr) (cap dcap sn scap rn rcap:Nat) (zs:List Int) (l:List Ex) (sh ra mo wo ba mi st bu ch wi ca:Int) (w:World) (hr:RdI w w.heap.size A zs) (hm:zs.length≤9223372036854775807)
  (hd:RdE w w.heap.size DA l) (hlm:l.length≤9223372036854775807)
  (hk:confCode zs ⟨sh,0,0,wo,ba,mi,st,bu,ch,wi,ca⟩=0) :
  Calls Tryz.prog 22 #[.agg #[.slice A zs.length cap,.int .i64 sh,.int .i64 ra,.int .i64 mo,.int .i64 wo,.int .i64 ba,.int .i64 mi,.int .i64 st,.int .i64 bu,.int .i64 ch,.int .i64 wi,.int .i64 ca,.slice DA l.length dcap,.slice SA sn scap,.slice RA rn rcap]] w (Coded w (inCode (confCode zs ⟨sh,0,0,wo,ba,mi,st,bu,ch,wi,ca⟩) zs st ba l sn rn)):=by
 have hI:=heap_alloc_new w (.cells #[.slice A zs.length cap,.int .i64 sh,.int .i64 ra,.int .i64 mo,.int .i64 wo,.int .i64 ba,.int .i64 mi,.int .i64 st,.int .i64 bu,.int .i64 ch,.int .i64 wi,.int .i64 ca,.slice DA l.length dcap,.slice SA sn scap,.slice RA rn rcap] 29)
 have hb0:Below w.heap.size w ((w.alloc (.cells #[.slice A zs.length cap,.int .i64 sh,.int .i64 ra,.int .i64 mo,.int .i64 wo,.int .i64 ba,.int .i64 mi,.int .i64 st,.int .i64 bu,.int .i64 ch,.int .i64 wi,.int .i64 ca,.slice DA l.length dcap,.slice SA sn scap,.slice RA rn rcap] 29)).alloc (.cells #[.slice A zs.length cap,.int .i64 sh,.int .i64 ra,.int .i64 mo,.int .i64 wo,.int .i64 ba,.int .i64 mi,.int .i64 st,.int .i64 bu,.int .i64 ch,.int .i64 wi,.int .i64 ca] 24)):=((Below.refl _ _).alloc (Nat.le_refl _) _).alloc (by simp) _
 have hI0:=blk_alloc hI (.cells #[.slice A zs.length cap,.int .i64 sh,.int .i64 ra,.int .i64 mo,.int .i64 wo,.int .i64 ba,.int .i64 mi,.int .i64 st,.int .i64 bu,.int .i64 ch,.int .i64 wi,.int .i64 ca] 24)
 have hC0:=heap_alloc_new (w.alloc (.cells #[.slice A zs.length cap,.int .i64 sh,.int .i64 ra,.int .i64 mo,.int .i64 wo,.int .i64 ba,.int .i64 mi,.int .i64 st,.int .i64 bu,.int .i64 ch,.int .i64 wi,.int .i64 ca,.slice DA l.length dcap,.slice SA sn scap,.slice RA rn rcap] 29)) (.cells #[.slice A zs.length cap,.int .i64 sh,.int .i64 ra,.int .i64 mo,.int .i64 wo,.int .i64 ba,.int .i64 mi,.int .i64 st,.int .i64 bu,.int .i64 ch,.int .i64 wi,.int .i64 ca] 24)
 rw [World.size_alloc] at hC0
 have C:=refConf_flat A cap zs sh ra mo wo ba mi st bu ch wi ca _ ((hr.below hb0).more hb0.size) hm
 have N:=fun W (hb:Below w.heap.size w W)=>refNeed_any A cap zs sh ra mo wo ba mi st bu ch wi ca l.length W ((hr.below hb).more hb.size) hm
 have Z:=conf_zero hk
 rw [hk] at C N ⊢
 obtain ⟨⟨hst,hst'⟩,hba,hba',hsh⟩:=Z
 dsimp only at hst hst' hba hba'
 have h2:=sizes_two hsh
 have hall:zs.all okSz=true:=by
  cases h:zs.all okSz
  · unfold shCode at hsh;rw [if_neg (by omega),if_pos h] at hsh;cases hsh
  · rfl
 have M:=fun W (hb:Below w.heap.size w W)=>refCount_any A cap zs W ((hr.below hb).more hb.size) (by omega) hall
 have HM:=K1 M
 clear M hall
 obtain ⟨b,off,rfl,hbl,hc⟩:=hr.at_ (by omega)
 obtain ⟨x0,hx0⟩:=get_some zs 0 (by omega)
 obtain ⟨xl,hxl⟩:=get_some zs (zs.length-1) (by omega)
 have Hx0:=K1 (hc 0 x0 hx0)
 have Hxl:=K1 (hc _ xl hxl)
 have hz0:zAt zs 0=x0:=by simp [zAt,List.getD,hx0]
 have hzl:zAt zs (zs.length-1)=xl:=by simp [zAt,List.getD,hxl]
 have D:=fun W (hb:Below w.heap.size w W)=>refData_any x0 xl DA dcap l W ((hd.below hb).more hb.size) hlm
 have HD:=K1 D
 have Hz:=K1 (And.intro hz0 hzl)
 have HC:=K1 C
 have HN:=K1 N
 have HI0:=K1 hI0
 have HC0:=K1 hC0
 clear C N D hI hI0 hC0 hk hsh hc hx0 hxl hz0 hzl
 go_enter Tryz.func22,Tryz.ntmps22
 go_wp2_with fail
 refine HC.out.mono ?_
 rintro e w1 ⟨rfl,hb1⟩
 have hB1:=hb0.trans (hb1.mono hb0.size)
 have HI1:=K1 (blk_below HI0.out hb1 (by simp;omega))
 have HC1:=K1 (blk_below HC0.out hb1 (by simp))
 clear hb1
 have c5:w1.cell? ⟨w.heap.size+1,5,none⟩=some (.int .i64 ba):=blk_cell HC1.out 5
 have c12:w1.cell? ⟨w.heap.size,12,none⟩=some (.slice DA l.length dcap):=blk_cell HI1.out 12
 cases hbt:betw (l.length:Int) ba 1048576
 · have hfin:=K1 (in7 (zs:=zs) (st:=st) (ba:=ba) (l:=l) (sn:=sn) (rn:=rn) (betw_no hbt))
   go_wp2_with (go_at_call 53;refine (between_any _ _ _ _).mono ?_;rintro e w' ⟨rfl,rfl⟩)
   go_ret
   exact ⟨ret_int hfin.out.symm,hB1⟩
 have hby:=betw_yes hbt
 have n1:¬ (l.length:Int)<ba:=by omega
 have n2:¬ 1048576<(l.length:Int):=by omega
 have N12:=K1 (And.intro n1 n2)
 clear hby n1 n2
 have c0:w1.cell? ⟨w.heap.size+1,0,none⟩=some (.slice (some ⟨b,off,none⟩) zs.length cap):=blk_cell HC1.out 0
 have cx:w1.cell? ⟨b,off,none⟩=some (.int .i64 x0):=(hB1.cell (p:=⟨b,off,none⟩) hbl).trans Hx0.out
 have cy:w1.cell? ⟨b,off+(zs.length-1),none⟩=some (.int .i64 xl):=(hB1.cell (p:=⟨b,off+(zs.length-1),none⟩) hbl).trans Hxl.out
 have i0:(0:Int)≤(zs.length:Int)-1:=by omega
 have i1:(zs.length:Int)-1<(zs.length:Int):=by omega
 have i2:IntKind.i64.wrap ((zs.length:Int)-1)=(zs.length:Int)-1:=IntWalk.i64_in _ (by omega)
 have i3:((zs.length:Int)-1).toNat=zs.length-1:=by omega
 have i4:(0:Int)<(zs.length:Int):=by omega
 have i5:0<zs.length:=by omega
 have i6:(1:Int)≤(zs.length:Int):=by omega
 have i7:1≤zs.length:=by omega
 go_wp2_with (go_at_call 53;refine (between_any _ _ _ _).mono ?_;rintro e w' ⟨rfl,rfl⟩)
 go_quiet ((go_at_call 54;exact Calls.quiet_of_same (quiet_of' (HD.out _ (below_drewN hB1 _)))))
 clear i0 i1 i2 i3 i4 i5 i6 i7 c0 cx cy c5 c12
 have hB2:Below w.heap.size w (w1.drewN nq):=below_drewN hB1 _
 have HI2:Hid ((w1.drewN nq).heap[w.heap.size]?=_):=K1 HI1.out
 have HC2:Hid ((w1.drewN nq).heap[w.heap.size+1]?=_):=K1 HC1.out
 generalize w1.drewN nq=w2 at *
 clear hB1 HI1 HC1
 cases hf:exFits x0 xl l
 · have hfin:=K1 (in5 (zs:=zs) (st:=st) (ba:=ba) (l:=l) (sn:=sn) (rn:=rn) (by have:=N12.out;omega) (by have:=N12.out;omega) (.inl (by rw [Hz.out.1,Hz.out.2];exact hf)))
   go_wp2
   go_quiet (fail)
   go_wp2
   go_ret
   exact ⟨ret_int hfin.out.symm,below_drewN hB2 _⟩
 have c13:w2.cell? ⟨w.heap.size,13,none⟩=some (.slice SA sn scap):=blk_cell HI2.out 13
 have c0:w2.cell? ⟨w.heap.size+1,0,none⟩=some (.slice (some ⟨b,off,none⟩) zs.length cap):=blk_cell HC2.out 0
 by_cases hs:(sn:Int)=cnt zs
 · have k1:((sn:Int) != cnt zs)=false:=by simpa using hs
   have hg8:=K1 (fun h4=>in8 (zs:=zs) (st:=st) (ba:=ba) (l:=l) (sn:=sn) (rn:=rn) (by have:=N12.out;omega) (by have:=N12.out;omega) (by rw [Hz.out.1,Hz.out.2];exact hf) hs h4)
   have hg0:=K1 (fun h4=>in0 (zs:=zs) (st:=st) (ba:=ba) (l:=l) (sn:=sn) (rn:=rn) (by have:=N12.out;omega) (by have:=N12.out;omega) (by rw [Hz.out.1,Hz.out.2];exact hf) hs h4)
   generalize nee 0 st ba l.length=D at *
   clear hs
   go_wp2
   go_quiet ((go_at_call 55;exact Calls.quiet_of (HM.out _ (below_drewN hB2 _))))
   go_wp2
   have hB3:Below w.heap.size w (w2.drewN nq):=below_drewN hB2 _
   have HI3:Hid ((w2.drewN nq).heap[w.heap.size]?=_):=K1 HI2.out
   have HC3:Hid ((w2.drewN nq).heap[w.heap.size+1]?=_):=K1 HC2.out
   generalize w2.drewN nq=w3 at *
   clear c0 c13 hB2 HI2 HC2
   have c14:w3.cell? ⟨w.heap.size,14,none⟩=some (.slice RA rn rcap):=blk_cell HI3.out 14
   have c12:w3.cell? ⟨w.heap.size,12,none⟩=some (.slice DA l.length dcap):=blk_cell HI3.out 12
   clear k1
   go_region_held3 (fun w'=>(w'.cell? ⟨w.heap.size+1,0,none⟩=some (.slice (some ⟨b,off,none⟩) zs.length cap)∧w'.cell? ⟨w.heap.size+1,1,none⟩=some (.int .i64 sh)∧w'.cell? ⟨w.heap.size+1,2,none⟩=some (.int .i64 ra)∧w'.cell? ⟨w.heap.size+1,3,none⟩=some (.int .i64 mo)∧w'.cell? ⟨w.heap.size+1,4,none⟩=some (.int .i64 wo)∧w'.cell? ⟨w.heap.size+1,5,none⟩=some (.int .i64 ba)∧w'.cell? ⟨w.heap.size+1,6,none⟩=some (.int .i64 mi)∧w'.cell? ⟨w.heap.size+1,7,none⟩=some (.int .i64 st)∧w'.cell? ⟨w.heap.size+1,8,none⟩=some (.int .i64 bu)∧w'.cell? ⟨w.heap.size+1,9,none⟩=some (.int .i64 ch)∧w'.cell? ⟨w.heap.size+1,10,none⟩=some (.int .i64 wi)∧w'.cell? ⟨w.heap.size+1,11,none⟩=some (.int .i64 ca))∧w'.cell? ⟨w.heap.size,12,none⟩=some (.slice DA l.length dcap)∧w'.cell? ⟨w.heap.size,14,none⟩=some (.slice RA rn rcap))
    (first
     | exact ⟨cf_all HC4.out,blk_cell HI4.out 12,blk_cell HI4.out 14⟩
     | exact ⟨cf_all HC3.out,c12,c14⟩)
    ((go_at_call 56
      refine (HN.out _ (below_drew hB3)).mono ?_
      rintro e w4 ⟨rfl,hb4⟩
      have hB4:Below w.heap.size w w4:=Below.trans (below_drew hB3) (hb4.mono hB3.size)
      have HI4:=K1 (blk_below (by exact HI3.out) hb4 (by exact blk_lt HI3.out))
      have HC4:=K1 (blk_below (by exact HC3.out) hb4 (by exact blk_lt HC3.out))))
   by_cases hD:(rn:Int)<D
   · have hfin:=K1 (hg8.out hD)
     go_wp2
     go_ret
     exact ⟨ret_int hfin.out.symm,hB4⟩
   · have hfin:=K1 (hg0.out (by omega))
     go_wp2
     go_ret
     exact ⟨ret_int hfin.out.symm,hB4⟩
 · have k1:((sn:Int) != cnt zs)=true:=by simpa using hs
   have hfin:=K1 (in5 (zs:=zs) (st:=st) (ba:=ba) (l:=l) (sn:=sn) (rn:=rn) (by have:=N12.out;omega) (by have:=N12.out;omega) (.inr hs))
   clear hs
   go_wp2
   go_quiet ((go_at_call 55;exact Calls.quiet_of (HM.out _ (below_drewN hB2 _))))
   go_wp2
   go_ret
   exact ⟨ret_int hfin.out.symm,below_drewN hB2 _⟩
section
variable {P:Program} {ops:Array Oper} {Q:Exit→Act→World→Prop} {md:Region.Mode} {S:World→Prop} {t:Nat}
def AnyT (P:Program) (md:Region.Mode) (ops:Array Oper) (Q:Exit→Act→World→Prop) (S:World→Prop) (t:Nat):Nat→Array Bool→Act→World→Prop
 | 0,listed,a,w=>Region.ready md ops listed=[]∧Q .normal a w
 | fuel+1,listed,a,w =>
   (Region.ready md ops listed=[]→Q .normal a w) ∧
   ∀ i∈Region.ready md ops listed,wpOp P ops Q i (fun a' w'=>(i<t→S w')∧AnyT P md ops Q S t fuel (listed.setIfInBounds i true) a' w') a w
theorem AnyT.any:∀ (fuel:Nat) (listed:Array Bool) (a:Act) (w:World),AnyT P md ops Q S t fuel listed a w→wpAny P md ops Q fuel listed a w
 | 0,_,_,_,h=>h
 | fuel+1,_,_,_,h=>⟨h.1,fun i hi=>wpOp_mono (fun a' w' h'=>AnyT.any fuel _ a' w' h'.2) (h.2 i hi)⟩
theorem AnyT.of_any:∀ (fuel:Nat) (listed:Array Bool) (a:Act) (w:World),(∀ j∈Region.ready md ops listed,t≤j)→(∀ j ok,ops[j]?=some ok→j<t→listed.getD j true=true)→wpAny P md ops Q fuel listed a w→AnyT P md ops Q S t fuel listed a w
 | 0,_,_,_,_,_,h=>h
 | fuel+1,listed,a,w,hr,hl,h=>⟨h.1,fun i hi=>wpOp_mono (fun a' w' h'=>⟨fun hlt=>absurd (hr i hi) (by omega),AnyT.of_any fuel _ a' w' (fun j hj=>by
   obtain ⟨h0,oj,hoj,_⟩:=mem_ready.1 hj
   rcases Nat.lt_or_ge j t with h1 | h1
   · have h2:=hl j oj hoj h1
     have hne:i≠j:=fun e=>by subst e;have:=hr i hi;omega
     rw [getD_set_ne true hne] at h0
     rw [h0] at h2
     cases h2
   · exact h1) (fun j ok hok hlt=>by
     have hne:i≠j:=fun e=>by subst e;have:=hr i hi;omega
     rw [getD_set_ne true hne]
     exact hl j ok hok hlt) h'⟩) (h.2 i hi)⟩
def YA (P:Program) (ops:Array Oper) (S:World→Prop) (o:Oper) (v:Value) (a:Act):Prop:=∀ w,S w→YieldsAt P ops w o v a
theorem YA.of_same {o:Oper} {v:Value} {a a':Act} (hy:YA P ops S o v a) (he:execOp a'.eval o=execOp a.eval o) (hw:Region.wanted o (yielded ops a'.tmps)=Region.wanted o (yielded ops a.tmps)):YA P ops S o v a':=fun w hS=>(hy w hS).of_same he hw
theorem YA.wpOp {i:Nat} {o:Oper} {v:Value} {a:Act} (hi:ops[i]?=some o) (hy:YA P ops S o v a) {K:Act→World→Prop} {w:World} (hS:S w) (h:K (a.put o.dst v) w):wpOp P ops Q i K a w :=
 wpOp_of_stOp (K:=fun a'=>K a' w) (fun _ h=>h) ((hy w hS).stOp hi h)
theorem YA.comm {j:Nat} {oi oj:Oper} {v:Value} (hj:ops[j]?=some oj) (hap:oi.apart ops oj=true)
  (hsi:∀ cs b,oi.op≠.select cs b) (hsj:∀ cs b,oj.op≠.select cs b)
  (hQ:∀ c a w,Q (.panic c) (a.put oi.dst v) w→Q (.panic c) a w) {K:Act→World→Prop} {a:Act} {w:World}
  (hy:YA P ops S oi v a) (h:Go.wpOp P ops Q j K (a.put oi.dst v) w) :
  Go.wpOp P ops Q j (fun a' w'=>YA P ops S oi v a'∧K (a'.put oi.dst v) w') a w:=by
 obtain ⟨h1,h2,h3⟩:=Oper.apart_spec hap
 have keep:∀ (a:Act),YA P ops S oi v a→∀ u,YA P ops S oi v (a.put oj.dst u):=fun a hy u =>
  hy.of_same (execOp_put oi hsi a oj.dst u h3) (wanted_put oi a oj.dst u h3)
 have keepD:∀ d,YA P ops S oi v { a with defers:=d::a.defers }:=fun d=>hy.of_same rfl rfl
 unfold Go.wpOp at *
 simp only [hj] at *
 rw [wanted_put oj a oi.dst v h1] at h
 split
 · rename_i hw
   simp only [hw,if_true] at h
   rcases h with h | ⟨hasks,hlets⟩
   case inr=>exact .inr ⟨by unfold Oper.asks at *;rw [execOp_put oj hsj a oi.dst v h1] at hasks;exact hasks,hlets⟩
   refine .inl ?_
   unfold Oper.wp at *
   rw [execOp_put oj hsj a oi.dst v h1] at h
   generalize (execOp a.eval oj).run P w=r at *
   cases r with
   | ok n w' =>
     cases n <;> simp only [Oper.upon] at h ⊢
     case value u=>exact ⟨keep a hy u,by rw [← Act.put_comm a v u h2];exact h⟩
     case skip=>exact ⟨keep a hy _,by rw [← Act.put_comm a v undef h2];exact h⟩
     case defer d =>
      refine ⟨keep _ (keepD d) _,?_⟩
      rw [← Act.put_comm _ v undef h2,← Act.put_defers]
      exact h
     case enter f args =>
      refine Calls.mono h fun e w'' he=>?_
      cases e with
      | returned u=>exact ⟨keep a hy u,by rw [← Act.put_comm a v u h2];exact he⟩
      | panicked c=>exact hQ _ _ _ he
      | outgrown=>exact he
     case row row args=>exact Rows.mono h fun u w'' he=>⟨keep a hy u,by rw [← Act.put_comm a v u h2];exact he⟩
   | halt x w' =>
     cases x <;> simp only [Oper.upon] at h ⊢
     case panic u=>exact hQ _ _ _ h
 · rename_i hw
   simp only [hw] at h
   exact ⟨keep a hy _,by rw [← Act.put_comm a v undef h2];exact h⟩
theorem AnyT.first {i:Nat} {oi:Oper} {v:Value} (hi:ops[i]?=some oi) (hsel:∀ (j:Nat) (o:Oper) cs b,ops[j]?=some o→o.op≠.select cs b)
  (hQ:∀ c a w,Q (.panic c) (a.put oi.dst v) w→Q (.panic c) a w) (ht:∀ j,t≤j→j<ops.size→Region.waitsFor md ops j i=true) :
  ∀ (fuel:Nat) (listed:Array Bool) (a:Act) (w:World),
    (∀ j oj,ops[j]?=some oj→j≠i→listed.getD j true=false→(∀ e∈oj.after,Region.binds md e=true→e.on≠i)→oi.apart ops oj=true) →
    i∈Region.ready md ops listed→YA P ops S oi v a→S w →
    AnyT P md ops Q S t fuel (listed.setIfInBounds i true) (a.put oi.dst v) w→AnyT P md ops Q S t (fuel+1) listed a w:=by
 intro fuel
 induction fuel with
 | zero =>
   intro listed a w _ hr hy hS H
   refine ⟨fun h=>(by rw [h] at hr;cases hr),fun j hj=>?_⟩
   by_cases hji:j=i
   · subst hji;exact hy.wpOp hi hS ⟨fun _=>hS,H⟩
   · have:=ready_mono hj hji
     rw [H.1] at this
     cases this
 | succ fuel ih =>
   intro listed a w hfree hr hy hS H
   refine ⟨fun h=>(by rw [h] at hr;cases hr),fun j hj=>?_⟩
   by_cases hji:j=i
   · subst hji;exact hy.wpOp hi hS ⟨fun _=>hS,H⟩
   obtain ⟨hjun,oj,hoj,hall⟩:=mem_ready.1 hj
   have hnot:∀ e∈oj.after,Region.binds md e=true→e.on≠i:=fun e he hb heq=>by
    have h1:=hall e he hb
    have h0:=(mem_ready.1 hr).1
    rw [heq] at h1
    rcases Nat.lt_or_ge i listed.size with h' | h'
    · simp [h'] at h0 h1;rw [h0] at h1;cases h1
    · simp [Array.getElem?_eq_none h'] at h1
   have hjt:j<t:=by
    rcases Nat.lt_or_ge j t with h | h
    · exact h
    · obtain ⟨oj',hoj',e,he,hb,heq⟩:=Region.waitsFor_spec (ht j h (Array.getElem?_eq_some_iff.1 hoj).1)
      rw [hoj] at hoj'
      injection hoj' with hoj'
      subst hoj'
      exact absurd heq (hnot e he hb)
   have h2:=YA.comm hoj (hfree j oj hoj hji hjun hnot) (fun cs b=>hsel i oi cs b hi) (fun cs b=>hsel j oj cs b hoj) hQ hy (H.2 j (ready_mono hj hji))
   refine wpOp_mono (fun a' w' h3=>⟨fun _=>h3.2.1 hjt,ih (listed.setIfInBounds j true) a' w' (fun k ok hk hki hun hno=>?_) (ready_mono hr (Ne.symm hji)) h3.1 (h3.2.1 hjt) ?_⟩) h2
   · refine hfree k ok hk hki ?_ hno
     by_cases hjk:j=k
     · subst hjk;exact hjun
     · rw [getD_set_ne true hjk] at hun;exact hun
   · rw [Array.setIfInBounds_comm _ _ hji]
     exact h3.2.2
theorem still_out {w:World} {o:Oper} {a:Act} {K:Act→Prop} (h:o.still P a w K):∃ v,K (a.put o.dst v):=by
 unfold Oper.still at h
 generalize (execOp a.eval o).run P w=r at h
 cases r with
 | ok n w' =>
   cases n <;> simp only [Oper.stillUpon] at h
   case value u=>exact ⟨u,h.2⟩
   case skip=>exact ⟨_,h.2⟩
   case enter f args=>obtain ⟨_,v,_,h2⟩:=h;exact ⟨v,h2⟩
 | halt x w'=>simp only [Oper.stillUpon] at h
theorem still_keep {w:World} {a':Act} (d:Tmp):∀ (l:List Oper) (a:Act),(∀ o∈l,o.dst≠some d)→wpStill P ops w (fun x=>x=a') l a→a'.tmps[d]?=a.tmps[d]?∧a'.tmps.size=a.tmps.size
 | [],a,_,h=>by cases h;exact ⟨rfl,rfl⟩
 | o::r,a,hd,h=>by
   have key:∃ v,wpStill P ops w (fun x=>x=a') r (a.put o.dst v):=by
    unfold wpStill at h
    split at h
    · exact still_out h
    · exact ⟨_,h⟩
   obtain ⟨v,hv⟩:=key
   obtain ⟨h1,h2⟩:=still_keep d r _ (fun o' ho'=>hd o' (List.mem_cons_of_mem _ ho')) hv
   have hne:=hd o (List.mem_cons_self ..)
   rw [h1,h2]
   cases ho:o.dst with
   | none=>exact ⟨rfl,rfl⟩
   | some e =>
     rw [ho] at hne
     refine ⟨?_,by simp [Act.put]⟩
     simp only [Act.put]
     exact Array.getElem?_setIfInBounds_ne (fun e'=>hne (by rw [e']))
def dstB (size:Nat):List Oper→Bool
 | []=>true
 | o::r=>(match o.dst with | some d=>decide (d<size) && r.all (fun o'=>o'.dst != some d) | none=>false) && dstB size r
def readsB (md:Region.Mode) (ops:Array Oper) (t:Nat):Nat→Nat→Array Bool→Array Bool × Bool
 | 0,_,listed=>(listed,true)
 | f+1,k,listed=>let r:=readsB md ops t f (k+1) (listed.setIfInBounds k true)
   (r.1,(Region.ready md ops listed).contains k && Region.free md ops listed k && (List.range (ops.size-t)).all (fun j=>Region.waitsFor md ops (t+j) k) && r.2)
theorem AnyT.reads (hsel:Region.noSelect ops=true) (hQ:∀ d v c a w,Q (.panic c) (a.put d v) w→Q (.panic c) a w) {a':Act} {w:World} (hS:S w) :
  ∀ (l:List Oper) (k fuel:Nat) (listed:Array Bool) (a:Act),(∀ j,j<l.length→l[j]?=ops[k+j]?)→(readsB md ops t l.length k listed).2=true→dstB a.tmps.size l=true →
  (∀ W,S W→wpStill P ops W (fun x=>x=a') l a)→AnyT P md ops Q S t fuel (readsB md ops t l.length k listed).1 a' w→AnyT P md ops Q S t (l.length+fuel) listed a w
 | [],k,fuel,listed,a,_,_,_,hR,H=>by
   have:a=a':=hR w hS
   subst this
   simpa [readsB] using H
 | o::l,k,fuel,listed,a,hl,hB,hD,hR,H=>by
   have h0:ops[k]?=some o:=by simpa using (hl 0 (by simp)).symm
   simp only [List.length_cons,readsB,Bool.and_eq_true] at hB H
   obtain ⟨⟨⟨hr,hf⟩,hw⟩,hB'⟩:=hB
   simp only [dstB,Bool.and_eq_true] at hD
   obtain ⟨hd1,hd2⟩:=hD
   cases hod:o.dst with
   | none=>rw [hod] at hd1;cases hd1
   | some d =>
     rw [hod] at hd1
     simp only [Bool.and_eq_true,decide_eq_true_eq,List.all_eq_true,bne_iff_ne,ne_eq] at hd1
     have get:∀ W,S W→∃ v,YieldsAt P ops W o v a∧wpStill P ops W (fun x=>x=a') l (a.put o.dst v)∧a'.tmps[d]?=some v:=fun W hW=>by
      have hst:stOp P ops W k (wpStill P ops W (fun x=>x=a') l) a:=by unfold stOp;simp only [h0];exact hR W hW
      obtain ⟨v,hy,hK⟩:=yieldsAt_of_stOp h0 hst
      refine ⟨v,hy,hK,?_⟩
      rw [(still_keep d l _ (fun o' ho'=>hd1.2 o' ho') hK).1,hod]
      simp [Act.put,hd1.1]
     obtain ⟨v,hy,hK,hv⟩:=get w hS
     have hYA:YA P ops S o v a:=fun W hW=>by
      obtain ⟨u,hyu,_,hu⟩:=get W hW
      rw [hv] at hu
      injection hu with hu
      subst hu
      exact hyu
     have hsz:(a.put o.dst v).tmps.size=a.tmps.size:=by rw [hod];simp [Act.put]
     rw [show (o::l).length+fuel=(l.length+fuel)+1 by simp;omega]
     refine AnyT.first h0 (Region.noSelect_spec hsel) (hQ _ _) (fun j hj hjs=>?_) _ _ _ _ (Region.free_spec h0 hf) (by simpa using hr) hYA hS ?_
     · have:=List.all_eq_true.1 hw (j-t) (List.mem_range.2 (by omega))
       rwa [show t+(j-t)=j by omega] at this
     · refine AnyT.reads hsel hQ hS l (k+1) fuel _ _ (fun j hj=>by have:=hl (j+1) (by simp;omega);simpa [Nat.add_assoc,Nat.add_comm 1 j] using this) hB' (by rw [hsz];exact hd2) (fun W hW=>?_) H
       obtain ⟨u,hyu,hKu,hu⟩:=get W hW
       rw [hv] at hu
       injection hu with hu
       subst hu
       exact hKu
def Spine (P:Program) (ops:Array Oper) (Q:Exit→Act→World→Prop) (S:World→Prop) (rest:List Oper):List Oper→Act→World→Prop
 | [],a,w=>wpList P ops Q rest a w
 | o::l,a,w=>wpList P ops (fun e a' w'=>match e with | .normal=>S w'∧Spine P ops Q S rest l a' w' | e=>Q e a' w') [o] a w
theorem Spine.nil_ {rest:List Oper} {a:Act} {w:World} (h:wpList P ops Q rest a w):Spine P ops Q S rest [] a w:=h
def Behind (P:Program) (ops:Array Oper) (Q:Exit→Act→World→Prop) (S:World→Prop) (rest l:List Oper) (e:Exit) (a:Act) (w:World):Prop :=
 match e with | .normal=>S w∧Spine P ops Q S rest l a w | e=>Q e a w
theorem Behind.go {rest l:List Oper} {a:Act} {w:World} (hS:S w) (h:Spine P ops Q S rest l a w):Behind P ops Q S rest l .normal a w:=⟨hS,h⟩
theorem name_behind {rest l:List Oper} {e:Exit} {a:Act} {w:World} (h:∀ W,Hid (W=w)→Behind P ops Q S rest l e a W):Behind P ops Q S rest l e a w:=h w (K1 rfl)
theorem Spine.step {rest l:List Oper} {o:Oper} {a:Act} {w:World} (h:wpList P ops (Behind P ops Q S rest l) [o] a w):Spine P ops Q S rest (o::l) a w:=by
 have e:(Behind P ops Q S rest l)=(fun e a' w'=>match e with | .normal=>S w'∧Spine P ops Q S rest l a' w' | e=>Q e a' w'):=by
  funext e a' w'
  cases e <;> rfl
 rw [e] at h
 exact h
theorem upon_end {o:Oper} {a:Act} {K:Act→World→Prop} {Q Q':Exit→Act→World→Prop} (hp:∀ c a w,Q (.panic c) a w→Q' (.panic c) a w) (ho:LetsOut Q→LetsOut Q') {r:Result Next} (h:o.upon P a K Q r):o.upon P a K Q' r:=by
 cases r with
 | ok n w' =>
   cases n <;> simp only [Oper.upon] at h ⊢
   case enter f args =>
    refine Calls.mono h fun e w'' he=>?_
    cases e with
    | returned u=>exact he
    | panicked c=>exact hp _ _ _ he
    | outgrown=>exact ho he
   all_goals exact h
 | halt x w' =>
   cases x <;> simp only [Oper.upon] at h ⊢
   case panic u=>exact hp _ _ _ h
theorem wpOp_of_single {i:Nat} {o:Oper} {a:Act} {w:World} {rest l:List Oper} (hi:ops[i]?=some o) (h:wpList P ops (Behind P ops Q S rest l) [o] a w):Go.wpOp P ops Q i (fun a' w'=>S w'∧Spine P ops Q S rest l a' w') a w:=by
 unfold Go.wpOp
 simp only [hi]
 unfold wpList at h
 have hlo:LetsOut (Behind P ops Q S rest l)→LetsOut Q:=fun ⟨a,w,h⟩=>⟨a,w,h⟩
 split
 · rename_i hw
   rw [if_pos hw] at h
   rcases h with h | ⟨h1,h2⟩
   · exact .inl (upon_end (K:=fun a' w'=>S w'∧Spine P ops Q S rest l a' w') (fun _ _ _ h=>h) hlo h)
   · exact .inr ⟨h1,hlo h2⟩
 · rename_i hw
   rw [if_neg hw] at h
   exact h
def seqFrom (md:Region.Mode) (ops:Array Oper):Nat→Nat→Array Bool→Array Bool × Bool
 | 0,_,listed=>(listed,true)
 | g+1,k,listed=>let r:=seqFrom md ops g (k+1) (listed.setIfInBounds k true)
   (r.1,decide (Region.ready md ops listed=[k]) && r.2)
theorem AnyT.spine {rest:List Oper} {fuel:Nat}:∀ (l:List Oper) (k:Nat) (listed:Array Bool) (a:Act) (w:World),(∀ j,j<l.length→l[j]?=ops[k+j]?)→(seqFrom md ops l.length k listed).2=true →
  (∀ a w,wpList P ops Q rest a w→AnyT P md ops Q S t fuel (seqFrom md ops l.length k listed).1 a w)→Spine P ops Q S rest l a w→AnyT P md ops Q S t (l.length+fuel) listed a w
 | [],k,listed,a,w,_,_,H,h=>by simpa [seqFrom] using H a w h
 | o::l,k,listed,a,w,hl,hB,H,h=>by
   have h0:ops[k]?=some o:=by simpa using (hl 0 (by simp)).symm
   simp only [List.length_cons,seqFrom,Bool.and_eq_true,decide_eq_true_eq] at hB H
   rw [show (o::l).length+fuel=(l.length+fuel)+1 by simp;omega]
   refine ⟨fun h1=>(by rw [hB.1] at h1;cases h1),fun i hi=>?_⟩
   rw [hB.1] at hi
   obtain rfl:i=k:=by simpa using hi
   refine wpOp_mono (fun a' w' h'=>⟨fun _=>h'.1,AnyT.spine l (i+1) _ a' w' (fun j hj=>by have:=hl (j+1) (by simp;omega);simpa [Nat.add_assoc,Nat.add_comm 1 j] using this) hB.2 H h'.2⟩) (?_:Go.wpOp P ops Q i (fun a' w'=>S w'∧Spine P ops Q S rest l a' w') a w)
   refine wpOp_of_single h0 (?_:wpList P ops (Behind P ops Q S rest l) [o] a w)
   have e:(Behind P ops Q S rest l)=(fun e a' w'=>match e with | .normal=>S w'∧Spine P ops Q S rest l a' w' | e=>Q e a' w'):=by
    funext e a' w'
    cases e <;> rfl
   rw [e]
   exact h
def spineB (ops:Array Oper) (n m:Nat):Bool :=
 let r:=readsB .any ops (n+m) n 0 (Array.replicate ops.size false)
 let s:=seqFrom .any ops m n r.1
 Region.noSelect ops && decide (n+m≤ops.size) && r.2 && s.2 && Region.seqB .any ops (ops.size-(n+m)) (n+m) s.1 &&
  (List.range (n+m)).all (fun j=>s.1.getD j true)
theorem wp_region_spine {id:Nat} {a:Act} {w:World} {l:List Oper} (n m:Nat) (S:World→Prop) (hm:P.follows .mixedOrders=true) (hB:spineB l.toArray n m=true) (hD:dstB a.tmps.size (l.take n)=true)
  (hQ:∀ d v c a w,Q (.panic c) (a.put d v) w→Q (.panic c) a w) (hS:S w.drew)
  (hRT:∃ a',(∀ W,S W→wpStill P l.toArray W (fun x=>x=a') (l.take n) a)∧Spine P l.toArray Q S (l.drop (n+m)) ((l.drop n).take m) a' w.drew):(Code.region id l.toArray true).wp P Q a w:=by
 obtain ⟨a',hR,hT⟩:=hRT
 simp only [spineB,Bool.and_eq_true,decide_eq_true_eq] at hB
 obtain ⟨⟨⟨⟨⟨hsel,hsz⟩,h1⟩,h2⟩,h3⟩,h4⟩:=hB
 have hsz':n+m≤l.length:=by simpa using hsz
 have e1:(l.take n).length=n:=by simp;omega
 have e2:((l.drop n).take m).length=m:=by simp;omega
 have e3:(l.drop (n+m)).length=l.toArray.size-(n+m):=by simp
 refine wp_region_any hm ?_
 have H:AnyT P .any l.toArray Q S (n+m) ((l.take n).length+(((l.drop n).take m).length+(l.drop (n+m)).length)) (Array.replicate l.toArray.size false) a w.drew:=by
  refine AnyT.reads hsel hQ (a':=a') hS (l.take n) 0 _ _ a (fun j hj=>by
   have hj':j<n:=by rw [e1] at hj;exact hj
   simp [hj']) (by rw [e1];exact h1) hD hR ?_
  rw [e1]
  refine AnyT.spine ((l.drop n).take m) n _ a' _ (fun j hj=>by
   have hj':j<m:=by rw [e2] at hj;exact hj
   simp [hj']) (by rw [e2];exact h2) (fun a w h=>?_) hT
  rw [e2]
  refine AnyT.of_any _ _ _ _ (seqB_ready h3) (fun j ok hok hlt=>?_) ?_
  · have:=List.all_eq_true.1 h4 j (List.mem_range.2 hlt)
    exact this
  · exact wpAny_of_seq (l.drop (n+m)) (n+m) _ a w (fun j=>by simp [List.getElem?_drop]) (by rw [e3];exact h3) h
 have e4:(l.take n).length+(((l.drop n).take m).length+(l.drop (n+m)).length)=l.toArray.size:=by rw [e1,e2,e3];simp;omega
 rw [e4] at H
 exact AnyT.any _ _ _ _ H
end
end Go.Proofs.YtdpojpcoghcieaaGreat
