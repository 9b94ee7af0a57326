/- A part of the proof of TopSerial: ConfInputRef, RefShuf, RefBlocks. Conditions: none. -/
import Derived.Test.YtdpojpcoghcieaaGreatSdBE
set_option maxHeartbeats 8000000
namespace Go.Proofs.YtdpojpcoghcieaaGreat
open Lib renaming hid → K1
open List renaming filterMap_cons → p1, filterMap_nil → p2, getElem?_cons_zero → p3, getElem?_cons_succ → p4
open Go.RowKit
theorem quiet_of' {P:Program} {f:FuncId} {args:Array Value} {w:World} {v:Value} (h:Calls P f args w fun e w'=>e=.returned v∧w=w'):Calls P f args w fun e w'=>e=.returned v∧w'=w :=
 h.mono fun _ _ ⟨a,b⟩=>⟨a,b.symm⟩
theorem refInput_bad (A DA SA RA:Option Addr) (cap dcap sn scap rn rcap:Nat) (zs:List Int) (l:List Ex) (sh ra mo wo ba mi st bu ch wi ca:Int) (w:World) (hr:RdI w w.heap.size A zs) (hm:zs.length≤9223372036854775807)
  (hk:confCode zs ⟨sh,0,0,wo,ba,mi,st,bu,ch,wi,ca⟩≠0) :
  Calls Tryz.prog 22 #[.agg #[.slice A zs.length cap,.int .i64 sh,.int .i64 ra,.int .i64 mo,.int .i64 wo,.int .i64 ba,.int .i64 mi,.int .i64 st,.int .i64 bu,.int .i64 ch,.int .i64 wi,.int .i64 ca,.slice DA l.length dcap,.slice SA sn scap,.slice RA rn rcap]] w (Coded w (inCode (confCode zs ⟨sh,0,0,wo,ba,mi,st,bu,ch,wi,ca⟩) zs st ba l sn rn)):=by
 have hb0:Below w.heap.size w ((w.alloc (.cells #[.slice A zs.length cap,.int .i64 sh,.int .i64 ra,.int .i64 mo,.int .i64 wo,.int .i64 ba,.int .i64 mi,.int .i64 st,.int .i64 bu,.int .i64 ch,.int .i64 wi,.int .i64 ca,.slice DA l.length dcap,.slice SA sn scap,.slice RA rn rcap] 29)).alloc (.cells #[.slice A zs.length cap,.int .i64 sh,.int .i64 ra,.int .i64 mo,.int .i64 wo,.int .i64 ba,.int .i64 mi,.int .i64 st,.int .i64 bu,.int .i64 ch,.int .i64 wi,.int .i64 ca] 24)):=((Below.refl _ _).alloc (Nat.le_refl _) _).alloc (by simp) _
 have C:=refConf_flat A cap zs sh ra mo wo ba mi st bu ch wi ca _ ((hr.below hb0).more hb0.size) hm
 generalize confCode zs ⟨sh,0,0,wo,ba,mi,st,bu,ch,wi,ca⟩=k at *
 have hfin:Hid (inCode k zs st ba l sn rn=k):=K1 (if_pos hk)
 have hk':(k != 0)=true:=by simpa using hk
 have HC:=K1 C
 clear C hk
 go_enter Tryz.func22,Tryz.ntmps22
 go_wp2_with (go_at_call 52;refine HC.out.mono ?_;rintro e w1 ⟨rfl,hb1⟩)
 go_ret
 exact ⟨ret_int hfin.out.symm,hb0.trans (hb1.mono hb0.size)⟩
set_option maxRecDepth 100000 in
theorem refInput_good (A DA SA RA:Option Addr) (cap dcap sn scap rn rcap:Nat) (zs:List Int) (l:List Ex) (sh ra mo wo ba mi st bu ch wi ca:Int) (w:World) (hr:RdI w w.heap.size A zs) (hm:zs.length≤9223372036854775807)
  (hd:RdE w w.heap.size DA l) (hlm:l.length≤9223372036854775807)
  (hk:confCode zs ⟨sh,0,0,wo,ba,mi,st,bu,ch,wi,ca⟩=0) :
  Calls Tryz.prog 22 #[.agg #[.slice A zs.length cap,.int .i64 sh,.int .i64 ra,.int .i64 mo,.int .i64 wo,.int .i64 ba,.int .i64 mi,.int .i64 st,.int .i64 bu,.int .i64 ch,.int .i64 wi,.int .i64 ca,.slice DA l.length dcap,.slice SA sn scap,.slice RA rn rcap]] w (Coded w (inCode (confCode zs ⟨sh,0,0,wo,ba,mi,st,bu,ch,wi,ca⟩) zs st ba l sn rn)):=by
 have hI:=heap_alloc_new w (.cells #[.slice A zs.length cap,.int .i64 sh,.int .i64 ra,.int .i64 mo,.int .i64 wo,.int .i64 ba,.int .i64 mi,.int .i64 st,.int .i64 bu,.int .i64 ch,.int .i64 wi,.int .i64 ca,.slice DA l.length dcap,.slice SA sn scap,.slice RA rn rcap] 29)
 have hb0:Below w.heap.size w ((w.alloc (.cells #[.slice A zs.length cap,.int .i64 sh,.int .i64 ra,.int .i64 mo,.int .i64 wo,.int .i64 ba,.int .i64 mi,.int .i64 st,.int .i64 bu,.int .i64 ch,.int .i64 wi,.int .i64 ca,.slice DA l.length dcap,.slice SA sn scap,.slice RA rn rcap] 29)).alloc (.cells #[.slice A zs.length cap,.int .i64 sh,.int .i64 ra,.int .i64 mo,.int .i64 wo,.int .i64 ba,.int .i64 mi,.int .i64 st,.int .i64 bu,.int .i64 ch,.int .i64 wi,.int .i64 ca] 24)):=((Below.refl _ _).alloc (Nat.le_refl _) _).alloc (by simp) _
 have hI0:=blk_alloc hI (.cells #[.slice A zs.length cap,.int .i64 sh,.int .i64 ra,.int .i64 mo,.int .i64 wo,.int .i64 ba,.int .i64 mi,.int .i64 st,.int .i64 bu,.int .i64 ch,.int .i64 wi,.int .i64 ca] 24)
 have hC0:=heap_alloc_new (w.alloc (.cells #[.slice A zs.length cap,.int .i64 sh,.int .i64 ra,.int .i64 mo,.int .i64 wo,.int .i64 ba,.int .i64 mi,.int .i64 st,.int .i64 bu,.int .i64 ch,.int .i64 wi,.int .i64 ca,.slice DA l.length dcap,.slice SA sn scap,.slice RA rn rcap] 29)) (.cells #[.slice A zs.length cap,.int .i64 sh,.int .i64 ra,.int .i64 mo,.int .i64 wo,.int .i64 ba,.int .i64 mi,.int .i64 st,.int .i64 bu,.int .i64 ch,.int .i64 wi,.int .i64 ca] 24)
 rw [World.size_alloc] at hC0
 have C:=refConf_flat A cap zs sh ra mo wo ba mi st bu ch wi ca _ ((hr.below hb0).more hb0.size) hm
 have N:=fun W (hb:Below w.heap.size w W)=>refNeed_any A cap zs sh ra mo wo ba mi st bu ch wi ca l.length W ((hr.below hb).more hb.size) hm
 have Z:=conf_zero hk
 rw [hk] at C N ⊢
 obtain ⟨⟨hst,hst'⟩,hba,hba',hsh⟩:=Z
 dsimp only at hst hst' hba hba'
 have h2:=sizes_two hsh
 have hall:zs.all okSz=true:=by
  cases h:zs.all okSz
  · unfold shCode at hsh;rw [if_neg (by omega),if_pos h] at hsh;cases hsh
  · rfl
 have M:=fun W (hb:Below w.heap.size w W)=>refCount_any A cap zs W ((hr.below hb).more hb.size) (by omega) hall
 have HM:=K1 M
 clear M hall
 obtain ⟨b,off,rfl,hbl,hc⟩:=hr.at_ (by omega)
 obtain ⟨x0,hx0⟩:=get_some zs 0 (by omega)
 obtain ⟨xl,hxl⟩:=get_some zs (zs.length-1) (by omega)
 have Hx0:=K1 (hc 0 x0 hx0)
 have Hxl:=K1 (hc _ xl hxl)
 have hz0:zAt zs 0=x0:=by simp [zAt,List.getD,hx0]
 have hzl:zAt zs (zs.length-1)=xl:=by simp [zAt,List.getD,hxl]
 have D:=fun W (hb:Below w.heap.size w W)=>refData_any x0 xl DA dcap l W ((hd.below hb).more hb.size) hlm
 have HD:=K1 D
 have Hz:=K1 (And.intro hz0 hzl)
 have HC:=K1 C
 have HN:=K1 N
 have HI0:=K1 hI0
 have HC0:=K1 hC0
 clear C N D hI hI0 hC0 hk hsh hc hx0 hxl hz0 hzl
 go_enter Tryz.func22,Tryz.ntmps22
 go_wp2_with fail
 refine HC.out.mono ?_
 rintro e w1 ⟨rfl,hb1⟩
 have hB1:=hb0.trans (hb1.mono hb0.size)
 have HI1:=K1 (blk_below HI0.out hb1 (by simp;omega))
 have HC1:=K1 (blk_below HC0.out hb1 (by simp))
 clear hb1
 have c5:w1.cell? ⟨w.heap.size+1,5,none⟩=some (.int .i64 ba):=blk_cell HC1.out 5
 have c12:w1.cell? ⟨w.heap.size,12,none⟩=some (.slice DA l.length dcap):=blk_cell HI1.out 12
 cases hbt:betw (l.length:Int) ba 1048576
 · have hfin:=K1 (in7 (zs:=zs) (st:=st) (ba:=ba) (l:=l) (sn:=sn) (rn:=rn) (betw_no hbt))
   go_wp2_with (go_at_call 53;refine (between_any _ _ _ _).mono ?_;rintro e w' ⟨rfl,rfl⟩)
   go_ret
   exact ⟨ret_int hfin.out.symm,hB1⟩
 have hby:=betw_yes hbt
 have n1:¬ (l.length:Int)<ba:=by omega
 have n2:¬ 1048576<(l.length:Int):=by omega
 have N12:=K1 (And.intro n1 n2)
 clear hby n1 n2
 have c0:w1.cell? ⟨w.heap.size+1,0,none⟩=some (.slice (some ⟨b,off,none⟩) zs.length cap):=blk_cell HC1.out 0
 have cx:w1.cell? ⟨b,off,none⟩=some (.int .i64 x0):=(hB1.cell (p:=⟨b,off,none⟩) hbl).trans Hx0.out
 have cy:w1.cell? ⟨b,off+(zs.length-1),none⟩=some (.int .i64 xl):=(hB1.cell (p:=⟨b,off+(zs.length-1),none⟩) hbl).trans Hxl.out
 have i0:(0:Int)≤(zs.length:Int)-1:=by omega
 have i1:(zs.length:Int)-1<(zs.length:Int):=by omega
 have i2:IntKind.i64.wrap ((zs.length:Int)-1)=(zs.length:Int)-1:=IntWalk.i64_in _ (by omega)
 have i3:((zs.length:Int)-1).toNat=zs.length-1:=by omega
 have i4:(0:Int)<(zs.length:Int):=by omega
 have i5:0<zs.length:=by omega
 have i6:(1:Int)≤(zs.length:Int):=by omega
 have i7:1≤zs.length:=by omega
 go_wp2_with (go_at_call 53;refine (between_any _ _ _ _).mono ?_;rintro e w' ⟨rfl,rfl⟩)
 go_quiet ((go_at_call 54;exact Calls.quiet_of_same (quiet_of' (HD.out _ (below_drewN hB1 _)))))
 clear i0 i1 i2 i3 i4 i5 i6 i7 c0 cx cy c5 c12
 have hB2:Below w.heap.size w (w1.drewN nq):=below_drewN hB1 _
 have HI2:Hid ((w1.drewN nq).heap[w.heap.size]?=_):=K1 HI1.out
 have HC2:Hid ((w1.drewN nq).heap[w.heap.size+1]?=_):=K1 HC1.out
 generalize w1.drewN nq=w2 at *
 clear hB1 HI1 HC1
 cases hf:exFits x0 xl l
 · have hfin:=K1 (in5 (zs:=zs) (st:=st) (ba:=ba) (l:=l) (sn:=sn) (rn:=rn) (by have:=N12.out;omega) (by have:=N12.out;omega) (.inl (by rw [Hz.out.1,Hz.out.2];exact hf)))
   go_wp2
   go_quiet (fail)
   go_wp2
   go_ret
   exact ⟨ret_int hfin.out.symm,below_drewN hB2 _⟩
 have c13:w2.cell? ⟨w.heap.size,13,none⟩=some (.slice SA sn scap):=blk_cell HI2.out 13
 have c0:w2.cell? ⟨w.heap.size+1,0,none⟩=some (.slice (some ⟨b,off,none⟩) zs.length cap):=blk_cell HC2.out 0
 by_cases hs:(sn:Int)=cnt zs
 · have k1:((sn:Int) != cnt zs)=false:=by simpa using hs
   have hg8:=K1 (fun h4=>in8 (zs:=zs) (st:=st) (ba:=ba) (l:=l) (sn:=sn) (rn:=rn) (by have:=N12.out;omega) (by have:=N12.out;omega) (by rw [Hz.out.1,Hz.out.2];exact hf) hs h4)
   have hg0:=K1 (fun h4=>in0 (zs:=zs) (st:=st) (ba:=ba) (l:=l) (sn:=sn) (rn:=rn) (by have:=N12.out;omega) (by have:=N12.out;omega) (by rw [Hz.out.1,Hz.out.2];exact hf) hs h4)
   generalize nee 0 st ba l.length=D at *
   clear hs
   go_wp2
   go_quiet ((go_at_call 55;exact Calls.quiet_of (HM.out _ (below_drewN hB2 _))))
   go_wp2
   have hB3:Below w.heap.size w (w2.drewN nq):=below_drewN hB2 _
   have HI3:Hid ((w2.drewN nq).heap[w.heap.size]?=_):=K1 HI2.out
   have HC3:Hid ((w2.drewN nq).heap[w.heap.size+1]?=_):=K1 HC2.out
   generalize w2.drewN nq=w3 at *
   clear c0 c13 hB2 HI2 HC2
   have c14:w3.cell? ⟨w.heap.size,14,none⟩=some (.slice RA rn rcap):=blk_cell HI3.out 14
   have c12:w3.cell? ⟨w.heap.size,12,none⟩=some (.slice DA l.length dcap):=blk_cell HI3.out 12
   clear k1
   go_region_held3 (fun w'=>(w'.cell? ⟨w.heap.size+1,0,none⟩=some (.slice (some ⟨b,off,none⟩) zs.length cap)∧w'.cell? ⟨w.heap.size+1,1,none⟩=some (.int .i64 sh)∧w'.cell? ⟨w.heap.size+1,2,none⟩=some (.int .i64 ra)∧w'.cell? ⟨w.heap.size+1,3,none⟩=some (.int .i64 mo)∧w'.cell? ⟨w.heap.size+1,4,none⟩=some (.int .i64 wo)∧w'.cell? ⟨w.heap.size+1,5,none⟩=some (.int .i64 ba)∧w'.cell? ⟨w.heap.size+1,6,none⟩=some (.int .i64 mi)∧w'.cell? ⟨w.heap.size+1,7,none⟩=some (.int .i64 st)∧w'.cell? ⟨w.heap.size+1,8,none⟩=some (.int .i64 bu)∧w'.cell? ⟨w.heap.size+1,9,none⟩=some (.int .i64 ch)∧w'.cell? ⟨w.heap.size+1,10,none⟩=some (.int .i64 wi)∧w'.cell? ⟨w.heap.size+1,11,none⟩=some (.int .i64 ca))∧w'.cell? ⟨w.heap.size,12,none⟩=some (.slice DA l.length dcap)∧w'.cell? ⟨w.heap.size,14,none⟩=some (.slice RA rn rcap))
    (first
     | exact ⟨cf_all HC4.out,blk_cell HI4.out 12,blk_cell HI4.out 14⟩
     | exact ⟨cf_all HC3.out,c12,c14⟩)
    ((go_at_call 56
      refine (HN.out _ (below_drew hB3)).mono ?_
      rintro e w4 ⟨rfl,hb4⟩
      have hB4:Below w.heap.size w w4:=Below.trans (below_drew hB3) (hb4.mono hB3.size)
      have HI4:=K1 (blk_below (by exact HI3.out) hb4 (by exact blk_lt HI3.out))
      have HC4:=K1 (blk_below (by exact HC3.out) hb4 (by exact blk_lt HC3.out))))
   by_cases hD:(rn:Int)<D
   · have hfin:=K1 (hg8.out hD)
     go_wp2
     go_ret
     exact ⟨ret_int hfin.out.symm,hB4⟩
   · have hfin:=K1 (hg0.out (by omega))
     go_wp2
     go_ret
     exact ⟨ret_int hfin.out.symm,hB4⟩
 · have k1:((sn:Int) != cnt zs)=true:=by simpa using hs
   have hfin:=K1 (in5 (zs:=zs) (st:=st) (ba:=ba) (l:=l) (sn:=sn) (rn:=rn) (by have:=N12.out;omega) (by have:=N12.out;omega) (.inr hs))
   clear hs
   go_wp2
   go_quiet ((go_at_call 55;exact Calls.quiet_of (HM.out _ (below_drewN hB2 _))))
   go_wp2
   go_ret
   exact ⟨ret_int hfin.out.symm,below_drewN hB2 _⟩
set_option maxRecDepth 100000 in
theorem rnext_any (w:World) (Ad:Option Addr) (cd at_ n d:Nat) (ds:List Nat) (hr:Rd w w.heap.size Ad (uCells ds)) (hd:ds[at_]?=some d) (hn:1≤n∧n≤1000000) (hl:ds.length≤1000000000) :
  Calls Tryz.prog 144 #[.agg #[.slice Ad ds.length cd,.int .i64 at_],.int .i64 n] w fun e w'=>e=.returned (.tuple #[.agg #[.slice Ad ds.length cd,.int .i64 (at_+1:Nat)],.int .i64 (d % n:Nat),.bool true])∧Below w.heap.size w w':=by
 have hm:=(((Mem.start w).add_rd (i:=0) rfl hr).alloc (.cells #[.slice Ad ds.length cd,.int .i64 at_] 221)).alloc (.cells #[.slice none 0 0,.int .i64 0] 221)
 simp only [World.size_alloc] at hm
 have HM:=K1 hm
 have hm2:=(((Mem.start w).add_rd (i:=0) rfl hr).alloc (.cells #[.slice Ad ds.length cd,.int .i64 (at_+1:Nat)] 221)).alloc (.cells #[.slice none 0 0,.int .i64 0] 221)
 simp only [World.size_alloc] at hm2
 have HM2:=K1 hm2
 have hat:at_<ds.length:=(List.getElem?_eq_some_iff.1 hd).1
 have hu:(uCells ds)[at_]?=some (.int .u64 d):=by simp [uCells,hd]
 obtain ⟨b,o,rfl⟩:=HM.out.rdA 1 rfl (by simp [uCells];omega)
 have q1:=K1 (fun W L (h:Mem W L) (hi:L[1]?=some (.rd (some ⟨b,o,none⟩) (uCells ds)))=>h.rdAt 1 hi hu)
 obtain ⟨nl,hnl⟩:∃ nl,nl=ds.length:=⟨_,rfl⟩
 rw [← hnl] at HM HM2 hat hl ⊢
 obtain ⟨a1,ha1⟩:∃ a1,a1=at_+1:=⟨_,rfl⟩
 rw [← ha1] at HM2 ⊢
 have e1:(at_:Int)+1=(a1:Int):=by omega
 obtain ⟨r,hr1⟩:∃ r,r=d % n:=⟨_,rfl⟩
 rw [← hr1]
 have hrn:r<n:=by rw [hr1];exact Nat.mod_lt _ (by omega)
 have e2:(d:Int).tmod (n:Int)=(r:Int):=by rw [hr1];exact (Int.ofNat_tmod _ _).symm
 have e3:(d:Int) % (n:Int)=(r:Int):=by rw [hr1];exact (Int.natCast_emod _ _).symm
 have hn0:¬ n=0:=by omega
 have hnw:IntKind.u64.wrap (n:Int)=(n:Int):=by rw [u64_wrap];omega
 have hrw:IntKind.i64.wrap (r:Int)=(r:Int):=IntWalk.i64_in _ (by omega)
 have ha2:a1≤1000000001:=by omega
 clear hm hm2 hr hu hd hnl ha1 hr1
 go_enter Tryz.func144,Tryz.ntmps144
 have c1:=HM.out.cells 2 rfl
 have f1:=fun j=>HM.out.frozen 2 j rfl
 have q2:=q1.out _ _ HM.out rfl
 go_wp2_with fail
 clear c1 f1 q2 HM
 have HM:=K1 HM2.out
 clear HM2
 refine name_wp fun W0 hW=>?_
 replace HM:=K1 (hW.out.symm ▸ HM.out)
 clear hW
 refine wp_region_stage (.reads [0,1,2,3,4,5] (.eff 6 (.reads [7,8] (.fin)))) 9 (fun W'=>∀ j,W'.cell? ⟨w.heap.size,j,none⟩=([.slice (some ⟨b,o,none⟩) nl cd,.int .i64 a1]:List Value)[j]?)
  (by kernel_rfl) (by kernel_rfl) (by intro d v c a w h;cases d <;> exact h) ?_
 replace HM:=K1 HM.out.drew
 generalize W0.drew=V at *
 refine PlS.reads_ (HM.out.cells 2 rfl) (by kernel_rfl) ?_
 simp only [pickO,p1,p2,p3,p4]
 apply Exists.intro
 apply And.intro
 · intro W' hS
   repeat still_step
   exact wpStill_nil rfl
 refine PlS.eff_ ?_
 simp only [pickO,p1,p2,p3,p4]
 have c3:=HM.out.cells 3 rfl
 have f3:=fun j=>HM.out.frozen 3 j rfl
 replace HM:=K1 (HM.out.set2 (i:=3) rfl (.slice (some ⟨b,o,none⟩) nl cd) (.int .i64 a1))
 go_wp2_with fail
 refine After.go (HM.out.cells 2 rfl) ?_
 clear c3 f3
 refine PlS.reads_ (HM.out.cells 2 rfl) (by kernel_rfl) ?_
 simp only [pickO,p1,p2,p3,p4]
 apply Exists.intro
 apply And.intro
 · intro W' hS
   clear hS
   repeat still_step
   exact wpStill_nil rfl
 refine PlS.fin_ ?_
 have c3:=HM.out.cells 3 rfl
 go_wp2_with fail
 refine bodyPost_ret (v:=.tuple #[.agg #[.slice (some ⟨b,o,none⟩) nl cd,.int .i64 a1],.int .i64 r,.bool true]) ?_ rfl ⟨rfl,HM.out.bel 0 rfl⟩
 simp [results,Tryz.results144,go_sem,c3]
theorem drawsAt_at {ds bnds:List Nat} {at_ m k:Nat} (h:k<m):(drawsAt ds bnds at_ m)[k]?.getD 0=(ds[at_+k]?.getD 0) % (bnds[k]?.getD 1):=by simp [drawsAt,h]
theorem set_read {ps:List Nat} {j x v:Nat} (hv:ps[x]?=some v):(iCells (ps.set j v))[x]?=some (.int .i64 v):=by
 have hl:=(List.getElem?_eq_some_iff.1 hv).1
 unfold iCells
 rw [List.getElem?_map,List.getElem?_set]
 split
 · rename_i h
   subst h
   rw [if_pos hl]
   rfl
 · rw [hv]
   rfl
theorem bndL_at {n m k:Nat} (h:k<m):(bndL n m)[k]?.getD 1=n-k:=by simp [bndL,h]
set_option maxRecDepth 100000 in
theorem rshuffle_any (w:World) (Ad:Option Addr) (cd at_ n:Nat) (ds:List Nat) (hr:Rd w w.heap.size Ad (uCells ds)) (hn:1≤n∧n≤1000) (hd:at_+(n-1)≤ds.length) (hl:ds.length≤1000000000) :
  Calls Tryz.prog 116 #[.int .i64 n,.agg #[.slice Ad ds.length cd,.int .i64 at_]] w fun e w'=>∃ A c,e=.returned (.tuple #[.agg #[.slice Ad ds.length cd,.int .i64 (at_+(n-1):Nat)],.slice A n c,.bool true])∧n≤c∧Mem w' [.bel w.heap.size w,.own w.heap.size 3 1 (.slice A n c) n (iCells (shufL ds at_ n))]:=by
 have CN:=K1 (fun W=>refPermNeed_pos (n:Int) W (by omega) (by omega))
 have CX:=K1 (fun W a k d (hr:Rd W W.heap.size Ad (uCells ds)) (hd:ds[a]?=some d) (hk:1≤k∧k≤1000000)=>rnext_any W Ad cd a k d ds hr hd hk hl)
 have hm:=(((Mem.start w).add_rd (i:=0) rfl hr).alloc (.cells #[.slice Ad ds.length cd,.int .i64 at_] 221)).alloc (.cells #[.slice none 0 0,.int .i64 0] 221)
 simp only [World.size_alloc] at hm
 have hm2:=hm.add (c:=.own w.heap.size 3 1 (.slice none 0 0) 0 (iCells [])) ⟨own_nil _ _ _ _,(hm.bel 0 rfl).size⟩ (fun _ _ _ _ g hg=>by cases hg)
 have HM:=K1 (show Mem _ [.bel w.heap.size w,.rd Ad (uCells ds),.obj w.heap.size (.cells #[.slice Ad ds.length cd,.int .i64 at_] 221 (0,0)),.obj (w.heap.size+1) (.cells #[.slice none 0 0,.int .i64 0] 221 (0,0)),.own w.heap.size 3 1 (.slice none 0 0) 0 (iCells [])] from hm2)
 obtain ⟨JS,hJS⟩:∃ JS,JS=drawsAt ds (bndL n (n-1)) at_ (n-1):=⟨_,rfl⟩
 have HJ:=K1 (show ∀ k d,k<n-1→ds[at_+k]?=some d→JS[k]?.getD 0=d % (n-k) by
  intro k d hk hd
  rw [hJS,drawsAt_at hk,bndL_at hk,hd]
  rfl)
 have HS:=K1 (show shufL ds at_ n=permTo n JS (n-1) by rw [hJS];rfl)
 rw [HS.out]
 obtain ⟨nl,hnl⟩:∃ nl,nl=ds.length:=⟨_,rfl⟩
 rw [← hnl] at HM CX hd hl ⊢
 have HNL:=K1 hnl
 obtain ⟨n1,hn1⟩:∃ n1,n1=n-1:=⟨_,rfl⟩
 rw [← hn1] at hd HJ ⊢
 have e0:(n:Int)-1=(n1:Int):=by omega
 rw [e0] at CN
 obtain ⟨fr,hfr⟩:∃ fr,fr=nl-at_:=⟨_,rfl⟩
 have e5:(nl:Int)-(at_:Int)=(fr:Int):=by omega
 have hfn:n1≤fr:=by omega
 have HN1:=K1 hn1
 have hn1b:n1≤999:=by omega
 have hatb:at_≤1000000000:=by omega
 have hfrb:fr≤1000000000:=by omega
 have HAT:=K1 hd
 have gd1:decide ((n:Int)<0)=false:=decide_eq_false (by omega)
 have gd2:decide ((1048576:Int)<(n:Int))=false:=decide_eq_false (by omega)
 have gd5:decide (fr<n1)=false:=decide_eq_false (by omega)
 have gd6:¬ fr<n1:=by omega
 have gd3:¬ (n:Int)<0:=by omega
 have gd4:¬ (1048576:Int)<(n:Int):=by omega
 clear hm hm2 hr hJS HS hnl hn1 hfr hd
 go_enter Tryz.func116,Tryz.ntmps116
 have c1:=HM.out.cells 2 rfl
 go_wp2_with fail
 go_quiet ((go_at_call 91;exact Calls.quiet_of_same (quiet_of' (CN.out _))))
 clear c1 CN
 replace HM:=K1 (HM.out.drewN nq)
 go_wp2_with fail
 generalize hg0:w.heap.size=g0 at *
 have HG0:=K1 hg0
 clear hg0
 go_loopw [7,8] (fun s7 s8 wr=>∃ (i:Nat) (A:Option Addr) (c:Nat),i≤n∧s7=.slice A i c∧s8=.int .i64 i∧Hid (Mem wr [.bel g0 w,.rd Ad (uCells ds),.obj g0 (.cells #[.slice Ad nl cd,.int .i64 at_] 221 (0,0)),.obj (g0+1) (.cells #[.slice none 0 0,.int .i64 0] 221 (0,0)),.own g0 3 1 (.slice A i c) i (iCells (List.range i))])) (fun _ s8 _=>n-(intOf s8).toNat)
 case atStart=>exact ⟨0,none,0,Nat.zero_le _,rfl,rfl,HM⟩
 case round =>
  clear HM
  obtain ⟨i,A,c,hi,rfl,rfl,HM⟩:=hrel
  by_cases hlt:i<n
  · have HM3:=K1 (HM.out.alloc (.cells #[.int .i64 i] 3))
    go_wp2_with (at_builtin;refine wpList_append_mem (n:=i) rfl _ _ 22 rfl HM3.out 4 rowCI rfl rfl _ 1 _ [.int .i64 i] rfl (HM3.out.box 5 rfl) rfl (by intro u hu;simp at hu;subst hu;rfl) (by omega) ?_;intro A' c' W4 hM4)
    have HM5:=K1 (hM4.front 5)
    clear hM4 HM3
    go_wp2_with fail
    go_roundw
    case rel =>
     have hf:=K1 (show Mem W4 [.bel g0 w,.rd Ad (uCells ds),.obj g0 (.cells #[.slice Ad nl cd,.int .i64 at_] 221 (0,0)),.obj (g0+1) (.cells #[.slice none 0 0,.int .i64 0] 221 (0,0)),.own g0 3 1 (.slice A' (i+1) c') (i+1) (iCells (List.range (i+1)))] by rw [List.range_succ,iCells,List.map_append];exact HM5.out)
     first
      | exact ⟨i+1,A',c',by omega,rfl,by go_num,hf⟩
      | exact ⟨i+1,by omega,A',c',⟨rfl,rfl,rfl⟩,by omega,hf⟩
    case measure=>simp [intOf];omega
  · have hin:n=i:=by omega
    subst hin
    go_wp2_with fail
    obtain ⟨gp,rfl⟩:=HM.out.ownA 4 rfl (by omega)
    clear hlt hi
    go_loopw [9] (fun s9 wr=>∃ (k j a:Nat),k+j=n1∧a=at_+k∧s9=.int .i64 j∧Hid (Mem wr [.bel g0 w,.rd Ad (uCells ds),.obj g0 (.cells #[.slice Ad nl cd,.int .i64 a] 221 (0,0)),.obj (g0+1) (.cells #[.slice none 0 0,.int .i64 0] 221 (0,0)),.own g0 3 1 (.slice (some ⟨gp,0,none⟩) n c) n (iCells (permTo n JS k))])) (fun s9 _=>(intOf s9).toNat)
    case atStart=>exact ⟨0,n1,at_,by omega,rfl,rfl,HM⟩
    case round =>
     clear HM
     obtain ⟨k,j,a,hkj,rfl,rfl,HM⟩:=hrel
     obtain ⟨a,ha⟩:∃ a,a=at_+k:=⟨_,rfl⟩
     rw [← ha] at HM
     by_cases hj:0<j
     · obtain ⟨d,hd⟩:=get_some ds a (by have:=HAT.out;have:=HNL.out;omega)
       obtain ⟨j1,hj1⟩:∃ j1,j1=j+1:=⟨_,rfl⟩
       have ej:(j:Int)+1=(j1:Int):=by omega
       obtain ⟨x,hx⟩:∃ x,x=d % j1:=⟨_,rfl⟩
       have HX:=K1 (show JS[k]?.getD 0=x by rw [HJ.out k d (by omega) (by rw [← ha];exact hd),hx,show n-k=j1 by have:=HN1.out;omega])
       have hxl:x<j1:=by rw [hx];exact Nat.mod_lt _ (by omega)
       have CX2:=K1 (fun W (hr:Rd W W.heap.size Ad (uCells ds))=>CX.out W a j1 d hr hd (by omega))
       rw [← hx] at CX2
       obtain ⟨a1,ha1⟩:∃ a1,a1=a+1:=⟨_,rfl⟩
       rw [← ha1] at CX2
       obtain ⟨ps,hps⟩:∃ ps,ps=permTo n JS k:=⟨_,rfl⟩
       rw [← hps] at HM
       have hpl:ps.length=n:=by rw [hps,permTo_len]
       obtain ⟨u,hu⟩:=get_some ps j (by have:=HN1.out;omega)
       obtain ⟨v,hv⟩:=get_some ps x (by have:=HN1.out;omega)
       have HSW:=K1 (show permTo n JS (k+1)=(ps.set j v).set x u by rw [permTo,← hps,HX.out,show n-1-k=j by have:=HN1.out;omega,swapL,hu,hv];rfl)
       have hj1b:j1≤1000:=by omega
       have hab:a1≤2000000000:=by omega
       have hjn:j<n:=by have:=HN1.out;omega
       have hxn:x<n:=by have:=HN1.out;omega
       have HK:=K1 (And.intro hkj (And.intro ha ha1))
       have HUV:=K1 (And.intro hu hv)
       have hjp:j1-1=j:=by omega
       clear hd hx hps hu hv ha ha1 hj1
       have c1:=HM.out.cells 2 rfl
       go_wp2_with fail
       refine (CX2.out _ (HM.out.rd 1 rfl)).mono ?_
       rintro e w2 ⟨rfl,hb⟩
       replace HM:=K1 (HM.out.below hb)
       clear hb c1 CX2
       have HM2:=K1 (HM.out.alloc (.cells #[.slice Ad nl cd,.int .i64 a1] 221))
       have c5:=HM2.out.cells 5 rfl
       have c2:=HM2.out.cells 2 rfl
       have f2:=fun j=>HM2.out.frozen 2 j rfl
       have HM3:=K1 (HM2.out.set2 (i:=2) rfl (.slice Ad nl cd) (.int .i64 a1))
       have hc1:=(HM3.out.own 4 rfl).cellAt j (by omega)
       have hc2:=(HM3.out.own 4 rfl).cellAt x (by omega)
       rw [show (iCells ps)[j]?=some (.int .i64 u) by simp [iCells,HUV.out.1]] at hc1
       rw [show (iCells ps)[x]?=some (.int .i64 v) by simp [iCells,HUV.out.2]] at hc2
       have f0:=HM2.out.ownF 4 rfl
       have f3:=HM3.out.ownF 4 rfl
       have HM4:=K1 (HM3.out.setOwn (i:=4) (j:=j) rfl (.int .i64 v))
       have f4:=HM4.out.ownF 4 rfl
       have hc4:=(HM4.out.own 4 rfl).cellAt x (by omega)
       rw [← iCells_set,set_read HUV.out.2] at hc4
       have HM5:=K1 (HM4.out.setOwn (i:=4) (j:=x) rfl (.int .i64 u))
       go_wp2_with fail
       clear c5 c2 f2 hc1 hc2 hc4 f0 f3 f4
       go_roundw
       case rel =>
        have hf:=HM5.out.front 5
        refine ⟨k+1,j-1,a1,by omega,by have:=HK.out;omega,congrArg (Value.int .i64) (by omega),K1 ?_⟩
        rw [HSW.out,iCells_set,iCells_set]
        exact hf
       case measure=>simp [intOf];omega
     · have HA:=K1 ha
       clear ha
       have hj0:j=0:=by omega
       subst hj0
       have hk1:k=n1:=by omega
       subst hk1
       have c2:=HM.out.cells 2 rfl
       have c3:=HM.out.cells 3 rfl
       have f3:=fun j=>HM.out.frozen 3 j rfl
       have HM3:=K1 (HM.out.set2 (i:=3) rfl (.slice Ad nl cd) (.int .i64 a))
       go_wp2_with fail
       clear c3 f3
       have c3:=HM3.out.cells 3 rfl
       have hpk:=HM3.out.pick [0,4] [.bel g0 w,.own g0 3 1 (.slice (some ⟨gp,0,none⟩) n c) n (iCells (permTo n JS k))] rfl (by decide)
       rw [HG0.out]
       refine bodyPost_ret (v:=.tuple #[.agg #[.slice Ad nl cd,.int .i64 a],.slice (some ⟨gp,0,none⟩) n c,.bool true]) ?_ rfl ⟨some ⟨gp,0,none⟩,c,by rw [HA.out];simp,own_cap (hpk.own 1 rfl),hpk⟩
       simp [results,Tryz.results116,go_sem,c3]
theorem infoRR:(Tryz.prog.info? 72).map (fun i=>(i.zero,i.size,i.bytes))=some (some (.agg #[.int .i64 0,.int .i64 0]),2,16):=by kernel_rfl
theorem rowRR:RowT Tryz.prog 192 72 2 16:=by
 obtain ⟨i0,hi,hz0,hz1,hz2⟩:=info_parts infoRR
 exact ⟨i0,_,Tryz.underlying192,hi,hz0,hz1,hz2,rfl,by decide,by decide⟩
def rrO (base n c:Nat) (A:Option Addr) (l:List (Nat × Nat)):Ch:=.own base 72 2 (.slice A n c) n (rcells l)
theorem pcnt_next {n s k:Nat} (hs:1≤s) (h:k<pcnt n s):((k+1)*s<n→k+1<pcnt n s)∧(n≤(k+1)*s→k+1=pcnt n s):=by
 have h0:=pcnt_lt hs h
 have hn:¬ n=0:=by omega
 unfold pcnt at h ⊢
 rw [if_neg hn] at h ⊢
 refine ⟨fun h1=>?_,fun h1=>?_⟩
 · have:k+1≤(n-1) / s:=(Nat.le_div_iff_mul_le (by omega)).2 (by omega)
   omega
 · have:(n-1) / s<k+1:=(Nat.div_lt_iff_lt_mul (by omega)).2 (by omega)
   omega
set_option maxRecDepth 100000 in
theorem rblocks_any (n s:Nat) (w:World) (hn:n≤1000000) (hs:1≤s∧s≤1048576) :
  Calls Tryz.prog 132 #[.int .i64 n,.int .i64 s] w fun e w'=>∃ A c,e=.returned (.slice A (blocksL n s).length c)∧(blocksL n s).length≤c∧Mem w' [.bel w.heap.size w,rrO w.heap.size (blocksL n s).length c A (blocksL n s)]:=by
 have HM0:=K1 ((Mem.start w).add (c:=rrO w.heap.size 0 0 none []) ⟨own_nil _ _ _ _,Nat.le_refl _⟩ (fun _ _ _ _ g hg=>by cases hg))
 rcases Nat.eq_zero_or_pos n with h0 | h0
 · subst h0
   have HE:=K1 (show blocksL 0 s=[] from rfl)
   go_enter Tryz.func132,Tryz.ntmps132
   go_wp2_with fail
   go_ret
   rw [HE.out]
   exact ⟨none,0,rfl,Nat.le_refl _,HM0.out⟩
 · have hn1:¬ n<1:=by omega
   have hs1:¬ s<1:=by omega
   have HN:=K1 (fun k=>pcnt_next (n:=n) (k:=k) hs.1)
   have HL:=K1 (fun k (hk:k<pcnt n s)=>pcnt_lt hs.1 hk)
   have HB:=K1 (blocks_len n s)
   have HB2:=K1 (show blocksL n s=(List.range (pcnt n s)).map (blk1 n s) from rfl)
   have hp0:0<pcnt n s:=by unfold pcnt;rw [if_neg (by omega)];exact Nat.succ_pos _
   have hpn:=pcnt_le n s
   obtain ⟨c0,hc0⟩:∃ c0,c0=pcnt n s:=⟨_,rfl⟩
   rw [← hc0] at HN HL HB HB2 hp0 hpn
   clear hc0
   go_enter Tryz.func132,Tryz.ntmps132
   go_wp2_with fail
   go_loopw [5,6] (fun s5 s6 wr=>∃ (k x:Nat) (A:Option Addr) (c:Nat),((k<c0∧x=k*s)∨(k=c0∧x=n))∧x≤n∧s5=.slice A k c∧s6=.int .i64 x∧Hid (Mem wr [.bel w.heap.size w,rrO w.heap.size k c A ((List.range k).map (blk1 n s))])) (fun _ s6 _=>n-(intOf s6).toNat)
   case atStart=>exact ⟨0,0,none,0,.inl ⟨hp0,by omega⟩,Nat.zero_le _,rfl,rfl,HM0⟩
   case round =>
    clear HM0
    obtain ⟨k,x,A,c,hkx,hxn,rfl,rfl,HM⟩:=hrel
    rcases hkx with ⟨hk,hx⟩ | ⟨hk,hx⟩
    · have hlt:x<n:=by rw [hx];exact HL.out k hk
      obtain ⟨y,hy⟩:∃ y,y=x+min s (n-x):=⟨_,rfl⟩
      have HY:=K1 (show (List.range (k+1)).map (blk1 n s)=(List.range k).map (blk1 n s)++[(x,y)] by
       rw [blocks_snoc,show blk1 n s k=(x,y) by unfold blk1;rw [← hx,← hy]])
      have hxy:x<y:=by omega
      have hyn:y≤n:=by omega
      have HK:Hid ((k+1<c0∧y=(k+1)*s)∨(k+1=c0∧y=n)):=K1 (by
       have h1:=HN.out k hk
       rw [Nat.succ_mul,← hx] at h1 ⊢
       rcases Nat.lt_or_ge (x+s) n with h2 | h2
       · exact .inl ⟨h1.1 h2,by omega⟩
       · exact .inr ⟨h1.2 h2,by omega⟩)
      have HM3:=K1 (HM.out.alloc (.cells #[.int .i64 x,.int .i64 y] 72))
      have hkb:k≤1000000:=by omega
      have HX:=K1 hx
      clear hx HM
      by_cases hsn:(s:Int)<(n:Int)-(x:Int)
      · have e2:(x:Int)+(s:Int)=(y:Int):=by omega
        have wy:IntKind.i64.wrap (y:Int)=(y:Int):=IntWalk.i64_in _ (by omega)
        clear hy
        go_wp2_with (at_builtin;refine wpList_append_mem (n:=k) rfl _ _ 192 rfl HM3.out 1 rowRR rfl rfl _ 1 _ [.int .i64 x,.int .i64 y] rfl (HM3.out.box 2 rfl) rfl (by intro u hu;simp at hu;rcases hu with rfl | rfl <;> rfl) (by omega) ?_;intro A' c' W4 hM4)
        have HM5:=K1 (hM4.front 2)
        clear hM4 HM3
        go_wp2_with fail
        go_roundw
        case rel =>
         refine ⟨k+1,y,A',c',HK.out,hyn,rfl,rfl,?_⟩
         rw [HY.out]
         unfold rrO
         rw [rcells_snoc]
         exact HM5
        case measure=>simp [intOf];omega
      · have hyn2:n=y:=by omega
        have HYN:=K1 hyn2
        have hsn2:(n:Int)-(x:Int)≤(s:Int):=by omega
        rw [← hyn2] at HM3
        clear hy hyn2
        go_wp2_with (at_builtin;refine wpList_append_mem (n:=k) rfl _ _ 192 rfl HM3.out 1 rowRR rfl rfl _ 1 _ [.int .i64 x,.int .i64 n] rfl (HM3.out.box 2 rfl) rfl (by intro u hu;simp at hu;rcases hu with rfl | rfl <;> rfl) (by omega) ?_;intro A' c' W4 hM4)
        have HM5:=K1 (hM4.front 2)
        clear hM4 HM3
        go_wp2_with fail
        go_roundw
        case rel =>
         refine ⟨k+1,n,A',c',?_,Nat.le_refl _,rfl,rfl,?_⟩
         · have:=HK.out;rw [← HYN.out] at this;exact this
         · rw [HY.out,← HYN.out]
           unfold rrO
           rw [rcells_snoc]
           exact HM5
        case measure=>simp [intOf];omega
    · subst hk
      have hnn:¬ x<n:=by omega
      have HF:=K1 HM.out
      clear HM
      go_wp2_with fail
      go_ret
      rw [HB.out]
      refine ⟨A,c,rfl,own_cap (HF.out.own 1 rfl),?_⟩
      rw [HB2.out]
      exact HF.out
end Go.Proofs.YtdpojpcoghcieaaGreat
