/- A part of the proof of TopTags: ConfInputRef, FewIn, GiP, TopFew. Conditions: none. -/
import Derived.Test.YtdpojpcoghcieaaGreatSxAN
import Derived.Test.YtdpojpcoghcieaaGreatSxAM
set_option maxHeartbeats 8000000
set_option linter.all false
namespace Go.Proofs.YtdpojpcoghcieaaGreat
open Lib renaming hid → K1
open Go.RowKit
set_option maxRecDepth 100000
open Value renaming int → U, slice → Us
open IntKind renaming i64 → O
open Bool renaming eq_iff_iff → YU, and_eq_true → YW, or_eq_true → Zc
open Mem renaming start → YV
open World renaming size_alloc → YX
open Below renaming refl → YY
open Nat renaming le_refl → YZ
open List renaming mem_cons_self → Za, mem_cons_of_mem → Zb
section
theorem L7 {P:Program} {f:FuncId} {args:Array Value} {w:World} {v:Value} (h:Calls P f args w fun e w'=>e=.returned v/\w=w'):Calls P f args w fun e w'=>e=.returned v/\w'=w :=
 h.mono fun _ _ ⟨a,b⟩=>⟨a,b.symm⟩
theorem Qv (A DA SA RA:Option Addr) (cap dcap sn scap rn rcap:Nat) (zs:List Int) (l:List Ex) (sh ra mo wo ba mi st bu ch wi ca:Int) (w:World) (hr:RdI w w.heap.size A zs) (hm:zs.length<=9223372036854775807)
  (hk:AT zs ⟨sh,0,0,wo,ba,mi,st,bu,ch,wi,ca⟩≠0) :
  Calls Tryz.prog 22 #[.agg #[Us A zs.length cap,U O sh,U O ra,U O mo,U O wo,U O ba,U O mi,U O st,U O bu,U O ch,U O wi,U O ca,Us DA l.length dcap,Us SA sn scap,Us RA rn rcap]] w (Coded w (BY (AT zs ⟨sh,0,0,wo,ba,mi,st,bu,ch,wi,ca⟩) zs st ba l sn rn)):=by
 have hb0:Below w.heap.size w ((w.alloc (.cells #[Us A zs.length cap,U O sh,U O ra,U O mo,U O wo,U O ba,U O mi,U O st,U O bu,U O ch,U O wi,U O ca,Us DA l.length dcap,Us SA sn scap,Us RA rn rcap] 29)).alloc (.cells #[Us A zs.length cap,U O sh,U O ra,U O mo,U O wo,U O ba,U O mi,U O st,U O bu,U O ch,U O wi,U O ca] 24)):=((YY _ _).alloc (YZ _) _).alloc (by simp) _;have C:=Ha A cap zs sh ra mo wo ba mi st bu ch wi ca _ ((hr.below hb0).more hb0.size) hm;generalize AT zs ⟨sh,0,0,wo,ba,mi,st,bu,ch,wi,ca⟩=k at *;have hfin:Hid (BY k zs st ba l sn rn=k):=K1 (if_pos hk)
 have hk':(k != 0)=true:=by simpa using hk
 have HC:=K1 C;clear C hk;go_enter Tryz.func22,Tryz.ntmps22
 go_wp2_with (go_at_call 52;refine HC.out.mono ?_;rintro e w1 ⟨rfl,hb1⟩)
 go_ret;exact ⟨AN hfin.out.symm,hb0.trans (hb1.mono hb0.size)⟩
theorem Qx (A DA SA RA:Option Addr) (cap dcap sn scap rn rcap:Nat) (zs:List Int) (l:List Ex) (sh ra mo wo ba mi st bu ch wi ca:Int) (w:World) (hr:RdI w w.heap.size A zs) (hm:zs.length<=9223372036854775807)
  (hd:RdE w w.heap.size DA l) (hlm:l.length<=9223372036854775807)
  (hk:AT zs ⟨sh,0,0,wo,ba,mi,st,bu,ch,wi,ca⟩=0) :
  Calls Tryz.prog 22 #[.agg #[Us A zs.length cap,U O sh,U O ra,U O mo,U O wo,U O ba,U O mi,U O st,U O bu,U O ch,U O wi,U O ca,Us DA l.length dcap,Us SA sn scap,Us RA rn rcap]] w (Coded w (BY (AT zs ⟨sh,0,0,wo,ba,mi,st,bu,ch,wi,ca⟩) zs st ba l sn rn)):=by
 have hI:=heap_alloc_new w (.cells #[Us A zs.length cap,U O sh,U O ra,U O mo,U O wo,U O ba,U O mi,U O st,U O bu,U O ch,U O wi,U O ca,Us DA l.length dcap,Us SA sn scap,Us RA rn rcap] 29);have hb0:Below w.heap.size w ((w.alloc (.cells #[Us A zs.length cap,U O sh,U O ra,U O mo,U O wo,U O ba,U O mi,U O st,U O bu,U O ch,U O wi,U O ca,Us DA l.length dcap,Us SA sn scap,Us RA rn rcap] 29)).alloc (.cells #[Us A zs.length cap,U O sh,U O ra,U O mo,U O wo,U O ba,U O mi,U O st,U O bu,U O ch,U O wi,U O ca] 24)):=((YY _ _).alloc (YZ _) _).alloc (by simp) _
 have hI0:=Ct hI (.cells #[Us A zs.length cap,U O sh,U O ra,U O mo,U O wo,U O ba,U O mi,U O st,U O bu,U O ch,U O wi,U O ca] 24);have hC0:=heap_alloc_new (w.alloc (.cells #[Us A zs.length cap,U O sh,U O ra,U O mo,U O wo,U O ba,U O mi,U O st,U O bu,U O ch,U O wi,U O ca,Us DA l.length dcap,Us SA sn scap,Us RA rn rcap] 29)) (.cells #[Us A zs.length cap,U O sh,U O ra,U O mo,U O wo,U O ba,U O mi,U O st,U O bu,U O ch,U O wi,U O ca] 24);rw [YX] at hC0;have C:=Ha A cap zs sh ra mo wo ba mi st bu ch wi ca _ ((hr.below hb0).more hb0.size) hm
 have N:=fun W (hb:Below w.heap.size w W)=>Qd A cap zs sh ra mo wo ba mi st bu ch wi ca l.length W ((hr.below hb).more hb.size) hm
 have Z:=DT hk;rw [hk] at C N ⊢;obtain ⟨⟨hst,hst'⟩,hba,hba',hsh⟩:=Z;dsimp only at hst hst' hba hba';have h2:=FZ hsh
 have hall:zs.all okSz=true:=by
  cases h:zs.all okSz
  . unfold AV at hsh;rw [if_neg (by omega),if_pos h] at hsh;cases hsh
  . rfl
 have M:=fun W (hb:Below w.heap.size w W)=>FF A cap zs W ((hr.below hb).more hb.size) (by omega) hall
 have HM:=K1 M;clear M hall;obtain ⟨b,off,rfl,hbl,hc⟩:=hr.at_ (by omega);obtain ⟨x0,hx0⟩:=Au zs 0 (by omega);obtain ⟨xl,hxl⟩:=Au zs (zs.length-1) (by omega);have Hx0:=K1 (hc 0 x0 hx0);have Hxl:=K1 (hc _ xl hxl);have hz0:zAt zs 0=x0:=by simp [zAt,List.getD,hx0]
 have hzl:zAt zs (zs.length-1)=xl:=by simp [zAt,List.getD,hxl]
 have D:=fun W (hb:Below w.heap.size w W)=>On x0 xl DA dcap l W ((hd.below hb).more hb.size) hlm
 have HD:=K1 D;have Hz:=K1 (And.intro hz0 hzl);have HC:=K1 C;have HN:=K1 N;have HI0:=K1 hI0;have HC0:=K1 hC0;clear C N D hI hI0 hC0 hk hsh hc hx0 hxl hz0 hzl;go_enter Tryz.func22,Tryz.ntmps22;go_wp2_with fail;refine HC.out.mono ?_;rintro e w1 ⟨rfl,hb1⟩;have hB1:=hb0.trans (hb1.mono hb0.size);have HI1:=K1 (Bp HI0.out hb1 (by simp;omega));have HC1:=K1 (Bp HC0.out hb1 (by simp));clear hb1;have c5:w1.cell? ⟨w.heap.size+1,5,none⟩=some (U O ba):=Ay HC1.out 5;have c12:w1.cell? ⟨w.heap.size,12,none⟩=some (Us DA l.length dcap):=Ay HI1.out 12
 cases hbt:betw (l.length:Int) ba 1048576
 . have hfin:=K1 (in7 (zs:=zs) (st:=st) (ba:=ba) (l:=l) (sn:=sn) (rn:=rn) (FQ hbt))
   go_wp2_with (go_at_call 53;refine (C9 _ _ _ _).mono ?_;rintro e w' ⟨rfl,rfl⟩)
   go_ret;exact ⟨AN hfin.out.symm,hB1⟩
 have hby:=Bz hbt;have n1:¬ (l.length:Int)<ba:=by omega
 have n2:¬ 1048576<(l.length:Int):=by omega
 have N12:=K1 (And.intro n1 n2);clear hby n1 n2;have c0:w1.cell? ⟨w.heap.size+1,0,none⟩=some (Us (some ⟨b,off,none⟩) zs.length cap):=Ay HC1.out 0;have cx:w1.cell? ⟨b,off,none⟩=some (U O x0):=(hB1.cell (p:=⟨b,off,none⟩) hbl).trans Hx0.out;have cy:w1.cell? ⟨b,off+(zs.length-1),none⟩=some (U O xl):=(hB1.cell (p:=⟨b,off+(zs.length-1),none⟩) hbl).trans Hxl.out;have i0:(0:Int)<=(zs.length:Int)-1:=by omega
 have i1:(zs.length:Int)-1<(zs.length:Int):=by omega
 have i2:IntKind.i64.wrap ((zs.length:Int)-1)=(zs.length:Int)-1:=IntWalk.i64_in _ (by omega);have i3:((zs.length:Int)-1).toNat=zs.length-1:=by omega
 have i4:(0:Int)<(zs.length:Int):=by omega
 have i5:0<zs.length:=by omega
 have i6:(1:Int)<=(zs.length:Int):=by omega
 have i7:1<=zs.length:=by omega
 go_wp2_with (go_at_call 53;refine (C9 _ _ _ _).mono ?_;rintro e w' ⟨rfl,rfl⟩)
 go_quiet ((go_at_call 54;exact Calls.quiet_of_same (L7 (HD.out _ (B6 hB1 _)))))
 clear i0 i1 i2 i3 i4 i5 i6 i7 c0 cx cy c5 c12;have hB2:Below w.heap.size w (w1.drewN nq):=B6 hB1 _;have HI2:Hid ((w1.drewN nq).heap[w.heap.size]?=_):=K1 HI1.out;have HC2:Hid ((w1.drewN nq).heap[w.heap.size+1]?=_):=K1 HC1.out;generalize w1.drewN nq=w2 at *;clear hB1 HI1 HC1
 cases hf:B3 x0 xl l
 . have hfin:=K1 (in5 (zs:=zs) (st:=st) (ba:=ba) (l:=l) (sn:=sn) (rn:=rn) (by have:=N12.out;omega) (by have:=N12.out;omega) (.inl (by rw [Hz.out.1,Hz.out.2];exact hf)))
   go_wp2
   go_quiet (fail)
   go_wp2
   go_ret;exact ⟨AN hfin.out.symm,B6 hB2 _⟩
 have c13:w2.cell? ⟨w.heap.size,13,none⟩=some (Us SA sn scap):=Ay HI2.out 13;have c0:w2.cell? ⟨w.heap.size+1,0,none⟩=some (Us (some ⟨b,off,none⟩) zs.length cap):=Ay HC2.out 0
 by_cases hs:(sn:Int)=cnt zs
 . have k1:((sn:Int) != cnt zs)=false:=by simpa using hs
   have hg8:=K1 (fun h4=>in8 (zs:=zs) (st:=st) (ba:=ba) (l:=l) (sn:=sn) (rn:=rn) (by have:=N12.out;omega) (by have:=N12.out;omega) (by rw [Hz.out.1,Hz.out.2];exact hf) hs h4);have hg0:=K1 (fun h4=>in0 (zs:=zs) (st:=st) (ba:=ba) (l:=l) (sn:=sn) (rn:=rn) (by have:=N12.out;omega) (by have:=N12.out;omega) (by rw [Hz.out.1,Hz.out.2];exact hf) hs h4);generalize nee 0 st ba l.length=D at *;clear hs
   go_wp2
   go_quiet ((go_at_call 55;exact Calls.quiet_of (HM.out _ (B6 hB2 _))))
   go_wp2
   have hB3:Below w.heap.size w (w2.drewN nq):=B6 hB2 _;have HI3:Hid ((w2.drewN nq).heap[w.heap.size]?=_):=K1 HI2.out;have HC3:Hid ((w2.drewN nq).heap[w.heap.size+1]?=_):=K1 HC2.out;generalize w2.drewN nq=w3 at *;clear c0 c13 hB2 HI2 HC2;have c14:w3.cell? ⟨w.heap.size,14,none⟩=some (Us RA rn rcap):=Ay HI3.out 14;have c12:w3.cell? ⟨w.heap.size,12,none⟩=some (Us DA l.length dcap):=Ay HI3.out 12;clear k1
   go_region_held3 (fun w'=>(w'.cell? ⟨w.heap.size+1,0,none⟩=some (Us (some ⟨b,off,none⟩) zs.length cap)/\w'.cell? ⟨w.heap.size+1,1,none⟩=some (U O sh)/\w'.cell? ⟨w.heap.size+1,2,none⟩=some (U O ra)/\w'.cell? ⟨w.heap.size+1,3,none⟩=some (U O mo)/\w'.cell? ⟨w.heap.size+1,4,none⟩=some (U O wo)/\w'.cell? ⟨w.heap.size+1,5,none⟩=some (U O ba)/\w'.cell? ⟨w.heap.size+1,6,none⟩=some (U O mi)/\w'.cell? ⟨w.heap.size+1,7,none⟩=some (U O st)/\w'.cell? ⟨w.heap.size+1,8,none⟩=some (U O bu)/\w'.cell? ⟨w.heap.size+1,9,none⟩=some (U O ch)/\w'.cell? ⟨w.heap.size+1,10,none⟩=some (U O wi)/\w'.cell? ⟨w.heap.size+1,11,none⟩=some (U O ca))/\w'.cell? ⟨w.heap.size,12,none⟩=some (Us DA l.length dcap)/\w'.cell? ⟨w.heap.size,14,none⟩=some (Us RA rn rcap))
    (first
     | exact ⟨D0 HC4.out,Ay HI4.out 12,Ay HI4.out 14⟩
     | exact ⟨D0 HC3.out,c12,c14⟩)
    ((go_at_call 56
      refine (HN.out _ (Cs hB3)).mono ?_;rintro e w4 ⟨rfl,hb4⟩;have hB4:Below w.heap.size w w4:=Below.trans (Cs hB3) (hb4.mono hB3.size);have HI4:=K1 (Bp (by exact HI3.out) hb4 (by exact AZ HI3.out))
      have HC4:=K1 (Bp (by exact HC3.out) hb4 (by exact AZ HC3.out))))
   by_cases hD:(rn:Int)<D
   . have hfin:=K1 (hg8.out hD)
     go_wp2
     go_ret;exact ⟨AN hfin.out.symm,hB4⟩
   . have hfin:=K1 (hg0.out (by omega))
     go_wp2
     go_ret;exact ⟨AN hfin.out.symm,hB4⟩
 . have k1:((sn:Int) != cnt zs)=true:=by simpa using hs
   have hfin:=K1 (in5 (zs:=zs) (st:=st) (ba:=ba) (l:=l) (sn:=sn) (rn:=rn) (by have:=N12.out;omega) (by have:=N12.out;omega) (.inr hs));clear hs
   go_wp2
   go_quiet ((go_at_call 55;exact Calls.quiet_of (HM.out _ (B6 hB2 _))))
   go_wp2
   go_ret;exact ⟨AN hfin.out.symm,B6 hB2 _⟩
theorem Qy (A DA SA RA:Option Addr) (cap dcap sn scap rn rcap:Nat) (zs:List Int) (l:List Ex) (sh ra mo wo ba mi st bu ch wi ca:Int) (w:World) (hr:RdI w w.heap.size A zs) (hm:zs.length<=9223372036854775807)
  (hd:RdE w w.heap.size DA l) (hlm:l.length<=9223372036854775807) :
  Calls Tryz.prog 22 #[.agg #[Us A zs.length cap,U O sh,U O ra,U O mo,U O wo,U O ba,U O mi,U O st,U O bu,U O ch,U O wi,U O ca,Us DA l.length dcap,Us SA sn scap,Us RA rn rcap]] w (Coded w (BY (AT zs ⟨sh,0,0,wo,ba,mi,st,bu,ch,wi,ca⟩) zs st ba l sn rn)):=by
 by_cases h:AT zs ⟨sh,0,0,wo,ba,mi,st,bu,ch,wi,ca⟩=0
 . exact Qx A DA SA RA cap dcap sn scap rn rcap zs l sh ra mo wo ba mi st bu ch wi ca w hr hm hd hlm h
 . exact Qv A DA SA RA cap dcap sn scap rn rcap zs l sh ra mo wo ba mi st bu ch wi ca w hr hm h
def Dq (n:Nat) (l:List Ex) (sn rn:Nat):Bool:=decide (n<=40) && DR l && decide (sn<=600) && decide (rn<=2000)
theorem Qz (A DA SA RA:Option Addr) (cap dcap sn scap rn rcap:Nat) (zs:List Int) (l:List Ex) (sh ra mo wo ba mi st bu ch wi ca:Int) (w:World)
  (hd:RdE w w.heap.size DA l) (hlm:l.length<=9223372036854775807) (hm:zs.length<=9223372036854775807) (hsm:sn<=9223372036854775807) (hrm:rn<=9223372036854775807) :
  Calls Tryz.prog 130 #[.agg #[Us A zs.length cap,U O sh,U O ra,U O mo,U O wo,U O ba,U O mi,U O st,U O bu,U O ch,U O wi,U O ca,Us DA l.length dcap,Us SA sn scap,Us RA rn rcap]] w fun e w'=>e=.returned (.bool (Dq zs.length l sn rn))/\Below w.heap.size w w':=by
 have hb0:Below w.heap.size w (w.alloc (.cells #[Us A zs.length cap,U O sh,U O ra,U O mo,U O wo,U O ba,U O mi,U O st,U O bu,U O ch,U O wi,U O ca,Us DA l.length dcap,Us SA sn scap,Us RA rn rcap] 29)):=(YY _ _).alloc (YZ _) _;have hI:=heap_alloc_new w (.cells #[Us A zs.length cap,U O sh,U O ra,U O mo,U O wo,U O ba,U O mi,U O st,U O bu,U O ch,U O wi,U O ca,Us DA l.length dcap,Us SA sn scap,Us RA rn rcap] 29)
 have C:=K1 (Oo DA dcap l (w.alloc (.cells #[Us A zs.length cap,U O sh,U O ra,U O mo,U O wo,U O ba,U O mi,U O st,U O bu,U O ch,U O wi,U O ca,Us DA l.length dcap,Us SA sn scap,Us RA rn rcap] 29)) ((hd.below hb0).more hb0.size) hlm);clear hI
 by_cases h1:zs.length<=40
 . cases hf:DR l
   . have hfin:Hid (Dq zs.length l sn rn=false):=K1 (by simp [Dq,hf]);go_enter Tryz.func130,Tryz.ntmps130
     go_wp2_with (go_at_call 153;refine C.out.mono ?_;rintro e w1 ⟨rfl,q,rfl⟩;rw [hf])
     go_ret;exact ⟨AY (by first | exact hfin.out.symm | (rw [hfin.out];simp;omega)),B6 hb0 _⟩
   by_cases h2:sn<=600
   . by_cases h3:rn<=2000
     . have hfin:Hid (Dq zs.length l sn rn=true):=K1 (by simp [Dq,hf,h1,h2,h3]);go_enter Tryz.func130,Tryz.ntmps130
       go_wp2_with (go_at_call 153;refine C.out.mono ?_;rintro e w1 ⟨rfl,q,rfl⟩;rw [hf])
       go_ret;exact ⟨AY (by first | exact hfin.out.symm | (rw [hfin.out];simp;omega)),B6 hb0 _⟩
     . have hfin:Hid (Dq zs.length l sn rn=false):=K1 (by simp [Dq,h3]);go_enter Tryz.func130,Tryz.ntmps130
       go_wp2_with (go_at_call 153;refine C.out.mono ?_;rintro e w1 ⟨rfl,q,rfl⟩;rw [hf])
       go_ret;exact ⟨AY (by first | exact hfin.out.symm | (rw [hfin.out];simp;omega)),B6 hb0 _⟩
   . have hfin:Hid (Dq zs.length l sn rn=false):=K1 (by simp [Dq,h2]);go_enter Tryz.func130,Tryz.ntmps130
     go_wp2_with (go_at_call 153;refine C.out.mono ?_;rintro e w1 ⟨rfl,q,rfl⟩;rw [hf])
     go_ret;exact ⟨AY (by first | exact hfin.out.symm | (rw [hfin.out];simp;omega)),B6 hb0 _⟩
 . have hfin:Hid (Dq zs.length l sn rn=false):=K1 (by simp [Dq,h1]);go_enter Tryz.func130,Tryz.ntmps130
   go_wp2
   go_ret;exact ⟨AY hfin.out.symm,hb0⟩
structure Gi where
 A:Option Addr
 cap:Nat
 zs:List Int
 DA:Option Addr
 dcap:Nat
 l:List Ex
 SA:Option Addr
 scap:Nat
 ss:List Int
 RA:Option Addr
 rcap:Nat
 ds:List Nat
 sh:Int
 ra:Int
 mo:Int
 wo:Int
 ba:Int
 mi:Int
 st:Int
 bu:Int
 ch:Int
 wi:Int
 ca:Int
def Gi.cf (g:Gi):List Value:=[Us g.A g.zs.length g.cap,U O g.sh,U O g.ra,U O g.mo,U O g.wo,U O g.ba,U O g.mi,U O g.st,U O g.bu,U O g.ch,U O g.wi,U O g.ca]
def Gi.cells (g:Gi):List Value:=[Us g.A g.zs.length g.cap,U O g.sh,U O g.ra,U O g.mo,U O g.wo,U O g.ba,U O g.mi,U O g.st,U O g.bu,U O g.ch,U O g.wi,U O g.ca,Us g.DA g.l.length g.dcap,Us g.SA g.ss.length g.scap,Us g.RA g.ds.length g.rcap]
def Gi.pl (g:Gi):List Value:=[Us g.A g.zs.length g.cap,U O g.sh,U O g.ra,U O g.mo,U O g.wo,U O g.ba,U O g.mi,U O g.st,U O g.bu,U O g.ch,U O g.wi,U O g.ca,U O g.ss.length]
def Gi.cc (g:Gi):Int:=AT g.zs ⟨g.sh,0,0,g.wo,g.ba,g.mi,g.st,g.bu,g.ch,g.wi,g.ca⟩
def Gi.code (g:Gi):Int:=BY g.cc g.zs g.st g.ba g.l g.ss.length g.ds.length
structure Gi.At (g:Gi) (w:World):Prop where
 z:RdI w w.heap.size g.A g.zs
 zc:g.zs.length<=g.cap
 zm:g.zs.length<=9223372036854775807
 l:RdE w w.heap.size g.DA g.l
 lm:g.l.length<=9223372036854775807
 ex:∀ e∈g.l,In64 e.xs/\In64 e.ys
 s:Rd w w.heap.size g.SA (zC g.ss)
 sm:g.ss.length<=9223372036854775807
 si:In64 g.ss
 d:Rd w w.heap.size g.RA (Bq g.ds)
 dm:g.ds.length<=9223372036854775807
 ra:-9223372036854775808<=g.ra/\g.ra<=9223372036854775807
 mo:-9223372036854775808<=g.mo/\g.mo<=9223372036854775807
 sc:g.ss.length<=g.scap
theorem Gi.At.below {g:Gi} {w w':World} (h:g.At w) (hb:Below w.heap.size w w'):g.At w' :=
 ⟨(RdI.below h.z hb).more hb.size,h.zc,h.zm,(RdE.below h.l hb).more hb.size,h.lm,h.ex,(h.s.below hb).more hb.size,h.sm,h.si,(h.d.below hb).more hb.size,h.dm,h.ra,h.mo,h.sc⟩
structure Gi.Small (g:Gi):Prop where
 code:g.code=0
 wo:g.wo<=6
 st:g.st<=5
 s:g.ss.length<=40
 l:g.l.length<=40
 mi:g.mi<=20
 d:g.ds.length<=2000
theorem Gi.check {g:Gi} {W:World} (ha:g.At W):Calls Tryz.prog 52 #[.agg g.cf.toArray] W fun e w'=>e=.returned (U O g.cc)/\Below W.heap.size W w':=by
 obtain ⟨A,cap,zs,DA,dcap,l,SA,scap,ss,RA,rcap,ds,sh,ra,mo,wo,ba,mi,st,bu,ch,wi,ca⟩:=g;exact Ha A cap zs sh ra mo wo ba mi st bu ch wi ca W ha.z ha.zm
theorem Gi.input {g:Gi} {W:World} (ha:g.At W):Calls Tryz.prog 22 #[.agg g.cells.toArray] W fun e w'=>e=.returned (U O g.code)/\Below W.heap.size W w':=by
 obtain ⟨A,cap,zs,DA,dcap,l,SA,scap,ss,RA,rcap,ds,sh,ra,mo,wo,ba,mi,st,bu,ch,wi,ca⟩:=g;exact Qy A DA SA RA cap dcap ss.length scap ds.length rcap zs l sh ra mo wo ba mi st bu ch wi ca W ha.z ha.zm ha.l ha.lm
def Gi.few11 (g:Gi):Bool:=Dq g.zs.length g.l g.ss.length g.ds.length
theorem Gi.few11_any {g:Gi} {W:World} (ha:g.At W):Calls Tryz.prog 130 #[.agg g.cells.toArray] W fun e w'=>e=.returned (.bool g.few11)/\Below W.heap.size W w':=by
 obtain ⟨A,cap,zs,DA,dcap,l,SA,scap,ss,RA,rcap,ds,sh,ra,mo,wo,ba,mi,st,bu,ch,wi,ca⟩:=g;exact Qz A DA SA RA cap dcap ss.length scap ds.length rcap zs l sh ra mo wo ba mi st bu ch wi ca W ha.l ha.lm ha.zm ha.sm ha.dm
def Gi.right (g:Gi):Bool:=decide (g.cc=0) && decide (1<=g.ss.length) && decide (g.ss.length<=1048576)
def Gi.few20 (g:Gi):Bool:=decide (g.zs.length<=40) && (!g.right || (decide (g.ss.length<=60) && decide (g.wo<=8) && decide (g.mi<=20) && decide (g.st<=12)))
def Gi.few14 (g:Gi):Bool:=g.few11 && (decide (g.cc≠0) || (decide (g.st<=12) && decide (cnt g.zs<=150) && decide (g.ba<=40)))
def Gi.few21 (g:Gi):Bool:=g.few14 && (decide (g.code≠0) || (g.few20 && decide (g.st<=6) && decide (g.l.length<=40)))
def Gi.few22 (g:Gi):Bool:=g.few21 && (decide (g.code≠0) || (decide (g.wo<=6) && decide (g.st<=5) && decide (g.ss.length<=40)))
def Gi.few (g:Gi) (n:Nat):Bool:=g.few22 && decide (g.code=0) && decide (n<=300)
theorem Gi.right_any {g:Gi} {w:World} (ha:g.At w):Calls Tryz.prog 131 #[.agg g.pl.toArray] w fun e w'=>e=.returned (.bool g.right)/\Below w.heap.size w w':=by
 have CC:=K1 (fun W (hb:Below w.heap.size w W)=>Gi.check (ha.below hb));have hsm:=ha.sm;clear ha;have hm:=(YV w).alloc (.cells g.pl.toArray 82);have HM:=K1 hm;clear hm;have HD:=K1 (show g.right=(decide (g.cc=0) && decide (1<=g.ss.length) && decide (g.ss.length<=1048576)) from rfl);generalize g.right=res at *;generalize g.cc=k at *;obtain ⟨A,cap,zs,DA,dcap,l,SA,scap,ss,RA,rcap,ds,sh,ra,mo,wo,ba,mi,st,bu,ch,wi,ca⟩:=g;dsimp only [Gi.pl,Gi.cf] at *;generalize ss.length=n at *;go_enter Tryz.func131,Tryz.ntmps131;have c1:=HM.out.cells 1 rfl;go_wp2_with fail
 refine (CC.out _ (HM.out.bel 0 rfl)).mono ?_;rintro e w1 ⟨rfl,hb⟩;replace HM:=K1 (HM.out.below hb);clear hb;clear c1;have c1:=HM.out.cells 1 rfl
 by_cases hz_k:k=0
 . subst hz_k
   by_cases h0:1<=n
   . by_cases h1:n<=1048576
     . go_wp2_with fail;go_ret;exact ⟨AY (by rw [HD.out,YU];simp <;> omega),HM.out.bel 0 rfl⟩
     . go_wp2_with fail;go_ret;exact ⟨AY (by rw [HD.out,YU];simp <;> omega),HM.out.bel 0 rfl⟩
   . go_wp2_with fail;go_ret;exact ⟨AY (by rw [HD.out,YU];simp <;> omega),HM.out.bel 0 rfl⟩
 . have hz1_k:(k == 0)=false:=by simpa using hz_k
   have hz2_k:(k != 0)=true:=by simpa using hz_k
   go_wp2_with fail;go_ret;exact ⟨AY (by rw [HD.out,YU];simp <;> omega),HM.out.bel 0 rfl⟩
theorem Gi.few20_any {g:Gi} {w:World} (ha:g.At w):Calls Tryz.prog 88 #[.agg g.pl.toArray] w fun e w'=>e=.returned (.bool g.few20)/\Below w.heap.size w w':=by
 have CC:=K1 (fun W (hb:Below w.heap.size w W)=>Gi.right_any (ha.below hb));have hsm:=ha.sm;have hzm:=ha.zm;clear ha;have hm:=(YV w).alloc (.cells g.pl.toArray 82);have HM:=K1 hm;clear hm;have HD:=K1 (show g.few20=(decide (g.zs.length<=40) && (!g.right || (decide (g.ss.length<=60) && decide (g.wo<=8) && decide (g.mi<=20) && decide (g.st<=12)))) from rfl);generalize g.few20=res at *;generalize g.right=r at *;obtain ⟨A,cap,zs,DA,dcap,l,SA,scap,ss,RA,rcap,ds,sh,ra,mo,wo,ba,mi,st,bu,ch,wi,ca⟩:=g;dsimp only [Gi.pl,Gi.cf] at *;generalize ss.length=n at *;generalize zs.length=m at *
 go_enter Tryz.func88,Tryz.ntmps88;have c1:=HM.out.cells 1 rfl
 by_cases h0:m<=40
 . have h0':¬ 40<m:=by omega
   go_wp2_with fail;refine (CC.out _ (HM.out.bel 0 rfl)).mono ?_;rintro e w1 ⟨rfl,hb⟩;replace HM:=K1 (HM.out.below hb);clear hb;clear c1;have c1:=HM.out.cells 1 rfl
   cases r
   . go_wp2_with fail;go_ret;exact ⟨AY (by rw [HD.out,YU];simp <;> omega),HM.out.bel 0 rfl⟩
   . by_cases h0:n<=60
     . by_cases h1:wo<=8
       . by_cases h2:mi<=20
         . by_cases h3:st<=12
           . go_wp2_with fail;go_ret;exact ⟨AY (by rw [HD.out,YU];simp <;> omega),HM.out.bel 0 rfl⟩
           . go_wp2_with fail;go_ret;exact ⟨AY (by rw [HD.out,YU];simp <;> omega),HM.out.bel 0 rfl⟩
         . go_wp2_with fail;go_ret;exact ⟨AY (by rw [HD.out,YU];simp <;> omega),HM.out.bel 0 rfl⟩
       . go_wp2_with fail;go_ret;exact ⟨AY (by rw [HD.out,YU];simp <;> omega),HM.out.bel 0 rfl⟩
     . go_wp2_with fail;go_ret;exact ⟨AY (by rw [HD.out,YU];simp <;> omega),HM.out.bel 0 rfl⟩
 . have h0':40<m:=by omega
   go_wp2_with fail;go_ret;exact ⟨AY (by rw [HD.out,YU];simp <;> omega),HM.out.bel 0 rfl⟩
theorem L8 {zs:List Int} (h:AV zs=0):zs.all okSz=true:=by
 unfold AV at h
 split at h
 . cases h
 split at h
 . cases h
 . next hq2 hq3 =>
   cases hb:zs.all okSz
   . first | exact absurd hb hq2 | exact absurd hb hq3 | exact absurd hb (by assumption)
   . rfl
theorem Gi.few14_any {g:Gi} {w:World} (ha:g.At w):Calls Tryz.prog 87 #[.agg g.cells.toArray] w fun e w'=>e=.returned (.bool g.few14)/\Below w.heap.size w w':=by
 have CC:=K1 (fun W (hb:Below w.heap.size w W)=>Gi.check (ha.below hb));have CF:=K1 (fun W (hb:Below w.heap.size w W)=>Gi.few11_any (ha.below hb));have CN:=K1 (fun (h:g.cc=0) W (hb:Below w.heap.size w W)=>FF g.A g.cap g.zs W (ha.below hb).z (FZ (DT h).2.2.2).2 (L8 (DT h).2.2.2));clear ha;have hm:=((YV w).alloc (.cells g.cells.toArray 29)).alloc (.cells g.cf.toArray 24);simp only [YX] at hm;have HM:=K1 hm;clear hm;have HD:=K1 (show g.few14=(g.few11 && (decide (g.cc≠0) || (decide (g.st<=12) && decide (cnt g.zs<=150) && decide (g.ba<=40)))) from rfl);generalize g.few14=res at *
 generalize g.few11=r at *;generalize g.cc=k at *;obtain ⟨A,cap,zs,DA,dcap,l,SA,scap,ss,RA,rcap,ds,sh,ra,mo,wo,ba,mi,st,bu,ch,wi,ca⟩:=g;dsimp only [Gi.cells,Gi.cf] at *;generalize cnt zs=cn at *;go_enter Tryz.func87,Tryz.ntmps87;have c1:=HM.out.cells 1 rfl;have c2:=HM.out.cells 2 rfl;go_wp2_with fail;refine (CF.out _ (HM.out.bel 0 rfl)).mono ?_;rintro e w1 ⟨rfl,hb⟩;replace HM:=K1 (HM.out.below hb);clear hb;clear c1 c2;have c1:=HM.out.cells 1 rfl;have c2:=HM.out.cells 2 rfl
 cases r
 . go_wp2_with fail;refine (CF.out _ (HM.out.bel 0 rfl)).mono ?_;rintro e w2 ⟨rfl,hb⟩;replace HM:=K1 (HM.out.below hb);clear hb;clear c1 c2;have c1:=HM.out.cells 1 rfl;have c2:=HM.out.cells 2 rfl;go_wp2_with fail;go_ret;exact ⟨AY (by rw [HD.out,YU];simp <;> omega),HM.out.bel 0 rfl⟩
 . go_wp2_with fail;refine (CC.out _ (HM.out.bel 0 rfl)).mono ?_;rintro e w2 ⟨rfl,hb⟩;replace HM:=K1 (HM.out.below hb);clear hb;clear c1 c2;have c1:=HM.out.cells 1 rfl;have c2:=HM.out.cells 2 rfl
   by_cases hz_k:k=0
   . subst hz_k
     by_cases h1:st<=12
     . go_wp2_with fail;refine (CN.out (by trivial) _ (HM.out.bel 0 rfl)).mono ?_;rintro e w3 ⟨rfl,nq,rfl⟩;replace HM:=K1 (HM.out.drewN nq);clear c1 c2;have c1:=HM.out.cells 1 rfl;have c2:=HM.out.cells 2 rfl
       by_cases h0:cn<=150
       . by_cases h1:ba<=40
         . go_wp2_with fail;go_ret;exact ⟨AY (by rw [HD.out,YU];simp <;> omega),HM.out.bel 0 rfl⟩
         . go_wp2_with fail;go_ret;exact ⟨AY (by rw [HD.out,YU];simp <;> omega),HM.out.bel 0 rfl⟩
       . go_wp2_with fail;go_ret;exact ⟨AY (by rw [HD.out,YU];simp <;> omega),HM.out.bel 0 rfl⟩
     . go_wp2_with fail;go_ret;exact ⟨AY (by rw [HD.out,YU];simp <;> omega),HM.out.bel 0 rfl⟩
   . have hz1_k:(k == 0)=false:=by simpa using hz_k
     have hz2_k:(k != 0)=true:=by simpa using hz_k
     go_wp2_with fail;refine (CF.out _ (HM.out.bel 0 rfl)).mono ?_;rintro e w3 ⟨rfl,hb⟩;replace HM:=K1 (HM.out.below hb);clear hb;clear c1 c2;have c1:=HM.out.cells 1 rfl;have c2:=HM.out.cells 2 rfl;go_wp2_with fail;go_ret;exact ⟨AY (by rw [HD.out,YU];simp <;> omega),HM.out.bel 0 rfl⟩
theorem Gi.plan_any {g:Gi} (w:World):Calls Tryz.prog 24 #[.agg g.cells.toArray] w fun e w'=>e=.returned (.agg g.pl.toArray)/\Below w.heap.size w w':=by
 have hm:=((YV w).alloc (.cells g.cells.toArray 29)).alloc (.cells #[Us none 0 0,U O 0,U O 0,U O 0,U O 0,U O 0,U O 0,U O 0,U O 0,U O 0,U O 0,U O 0,U O 0] 82);simp only [YX] at hm;have HM:=K1 hm;clear hm;obtain ⟨A,cap,zs,DA,dcap,l,SA,scap,ss,RA,rcap,ds,sh,ra,mo,wo,ba,mi,st,bu,ch,wi,ca⟩:=g;dsimp only [Gi.cells,Gi.pl] at *;go_enter Tryz.func24,Tryz.ntmps24;have c1:=HM.out.cells 1 rfl;have c2:=HM.out.cells 2 rfl;have f2:=fun j=>HM.out.frozen 2 j rfl
 have hp:=(((YV w).alloc (.cells #[Us A zs.length cap,U O sh,U O ra,U O mo,U O wo,U O ba,U O mi,U O st,U O bu,U O ch,U O wi,U O ca,Us DA l.length dcap,Us SA ss.length scap,Us RA ds.length rcap] 29)).alloc (.cells #[Us A zs.length cap,U O sh,U O ra,U O mo,U O wo,U O ba,U O mi,U O st,U O bu,U O ch,U O wi,U O ca,U O ss.length] 82))
 simp only [YX] at hp;have HP:=K1 hp;clear hp;go_wp2_with fail;clear c1 c2 f2;have c2:=HP.out.cells 2 rfl;refine bodyPost_ret (v:=.agg #[Us A zs.length cap,U O sh,U O ra,U O mo,U O wo,U O ba,U O mi,U O st,U O bu,U O ch,U O wi,U O ca,U O ss.length]) ?_ rfl ⟨rfl,HP.out.bel 0 rfl⟩;simp [results,Tryz.results24,go_sem,c2]
theorem Gi.few21_any {g:Gi} {w:World} (ha:g.At w):Calls Tryz.prog 51 #[.agg g.cells.toArray] w fun e w'=>e=.returned (.bool g.few21)/\Below w.heap.size w w':=by
 have CF:=K1 (fun W (hb:Below w.heap.size w W)=>Gi.few14_any (ha.below hb));have CI:=K1 (fun W (hb:Below w.heap.size w W)=>Gi.input (ha.below hb));have CP:=K1 (fun W (_:Below w.heap.size w W)=>Gi.plan_any (g:=g) W);have CG:=K1 (fun W (hb:Below w.heap.size w W)=>Gi.few20_any (ha.below hb));have hlm:=ha.lm;clear ha;have hm:=(YV w).alloc (.cells g.cells.toArray 29);have HM:=K1 hm;clear hm;have HD:=K1 (show g.few21=(g.few14 && (decide (g.code≠0) || (g.few20 && decide (g.st<=6) && decide (g.l.length<=40)))) from rfl);generalize g.few21=res at *;generalize g.few14=r at *;generalize g.few20=q at *
 generalize g.code=k at *;obtain ⟨A,cap,zs,DA,dcap,l,SA,scap,ss,RA,rcap,ds,sh,ra,mo,wo,ba,mi,st,bu,ch,wi,ca⟩:=g;dsimp only [Gi.cells,Gi.pl] at *;generalize l.length=n at *;go_enter Tryz.func51,Tryz.ntmps51;have c1:=HM.out.cells 1 rfl;go_wp2_with fail;refine (CF.out _ (HM.out.bel 0 rfl)).mono ?_;rintro e w1 ⟨rfl,hb⟩;replace HM:=K1 (HM.out.below hb);clear hb;clear c1;have c1:=HM.out.cells 1 rfl
 cases r
 . go_wp2_with fail;go_ret;exact ⟨AY (by rw [HD.out,YU];simp <;> omega),HM.out.bel 0 rfl⟩
 . go_wp2_with fail;refine (CI.out _ (HM.out.bel 0 rfl)).mono ?_;rintro e w2 ⟨rfl,hb⟩;replace HM:=K1 (HM.out.below hb);clear hb;clear c1;have c1:=HM.out.cells 1 rfl
   by_cases hz_k:k=0
   . subst hz_k;go_wp2_with fail;refine (CP.out _ (HM.out.bel 0 rfl)).mono ?_;rintro e w3 ⟨rfl,hb⟩;replace HM:=K1 (HM.out.below hb);clear hb;clear c1;have c1:=HM.out.cells 1 rfl;go_wp2_with fail;refine (CG.out _ (HM.out.bel 0 rfl)).mono ?_;rintro e w4 ⟨rfl,hb⟩;replace HM:=K1 (HM.out.below hb);clear hb;clear c1;have c1:=HM.out.cells 1 rfl
     cases q
     . go_wp2_with fail;go_ret;exact ⟨AY (by rw [HD.out,YU];simp <;> omega),HM.out.bel 0 rfl⟩
     . by_cases h0:st<=6
       . by_cases h1:n<=40
         . go_wp2_with fail;go_ret;exact ⟨AY (by rw [HD.out,YU];simp <;> omega),HM.out.bel 0 rfl⟩
         . go_wp2_with fail;go_ret;exact ⟨AY (by rw [HD.out,YU];simp <;> omega),HM.out.bel 0 rfl⟩
       . go_wp2_with fail;go_ret;exact ⟨AY (by rw [HD.out,YU];simp <;> omega),HM.out.bel 0 rfl⟩
   . have hz1_k:(k == 0)=false:=by simpa using hz_k
     have hz2_k:(k != 0)=true:=by simpa using hz_k
     go_wp2_with fail;go_ret;exact ⟨AY (by rw [HD.out,YU];simp <;> omega),HM.out.bel 0 rfl⟩
theorem Gi.few22_any {g:Gi} {w:World} (ha:g.At w):Calls Tryz.prog 21 #[.agg g.cells.toArray] w fun e w'=>e=.returned (.bool g.few22)/\Below w.heap.size w w':=by
 have CF:=K1 (fun W (hb:Below w.heap.size w W)=>Gi.few21_any (ha.below hb));have CI:=K1 (fun W (hb:Below w.heap.size w W)=>Gi.input (ha.below hb));have hsm:=ha.sm;clear ha;have hm:=(YV w).alloc (.cells g.cells.toArray 29);have HM:=K1 hm;clear hm;have HD:=K1 (show g.few22=(g.few21 && (decide (g.code≠0) || (decide (g.wo<=6) && decide (g.st<=5) && decide (g.ss.length<=40)))) from rfl);generalize g.few22=res at *;generalize g.few21=r at *;generalize g.code=k at *;obtain ⟨A,cap,zs,DA,dcap,l,SA,scap,ss,RA,rcap,ds,sh,ra,mo,wo,ba,mi,st,bu,ch,wi,ca⟩:=g;dsimp only [Gi.cells] at *
 generalize ss.length=n at *;go_enter Tryz.func21,Tryz.ntmps21;have c1:=HM.out.cells 1 rfl;go_wp2_with fail;refine (CF.out _ (HM.out.bel 0 rfl)).mono ?_;rintro e w1 ⟨rfl,hb⟩;replace HM:=K1 (HM.out.below hb);clear hb;clear c1;have c1:=HM.out.cells 1 rfl
 cases r
 . go_wp2_with fail;go_ret;exact ⟨AY (by rw [HD.out,YU];simp <;> omega),HM.out.bel 0 rfl⟩
 . go_wp2_with fail;refine (CI.out _ (HM.out.bel 0 rfl)).mono ?_;rintro e w2 ⟨rfl,hb⟩;replace HM:=K1 (HM.out.below hb);clear hb;clear c1;have c1:=HM.out.cells 1 rfl
   by_cases hz_k:k=0
   . subst hz_k
     by_cases h0:wo<=6
     . by_cases h1:st<=5
       . by_cases h2:n<=40
         . go_wp2_with fail;go_ret;exact ⟨AY (by rw [HD.out,YU];simp <;> omega),HM.out.bel 0 rfl⟩
         . go_wp2_with fail;go_ret;exact ⟨AY (by rw [HD.out,YU];simp <;> omega),HM.out.bel 0 rfl⟩
       . go_wp2_with fail;go_ret;exact ⟨AY (by rw [HD.out,YU];simp <;> omega),HM.out.bel 0 rfl⟩
     . go_wp2_with fail;go_ret;exact ⟨AY (by rw [HD.out,YU];simp <;> omega),HM.out.bel 0 rfl⟩
   . have hz1_k:(k == 0)=false:=by simpa using hz_k
     have hz2_k:(k != 0)=true:=by simpa using hz_k
     go_wp2_with fail;go_ret;exact ⟨AY (by rw [HD.out,YU];simp <;> omega),HM.out.bel 0 rfl⟩
theorem Gi.few_any {g:Gi} {w:World} (ha:g.At w) (B:Option Addr) (n m:Nat) (hn:n<=9223372036854775807):Calls Tryz.prog 6 #[.agg g.cells.toArray,Us B n m] w fun e w'=>e=.returned (.bool (g.few n))/\Below w.heap.size w w':=by
 have CF:=K1 (fun W (hb:Below w.heap.size w W)=>Gi.few22_any (ha.below hb));have CI:=K1 (fun W (hb:Below w.heap.size w W)=>Gi.input (ha.below hb));clear ha;have hm:=(YV w).alloc (.cells g.cells.toArray 29);have HM:=K1 hm;clear hm;have HD:=K1 (show g.few n=(g.few22 && decide (g.code=0) && decide (n<=300)) from rfl);generalize g.few n=res at *;generalize g.few22=r at *;generalize g.code=k at *;obtain ⟨A,cap,zs,DA,dcap,l,SA,scap,ss,RA,rcap,ds,sh,ra,mo,wo,ba,mi,st,bu,ch,wi,ca⟩:=g;dsimp only [Gi.cells] at *;go_enter Tryz.func6,Tryz.ntmps6;have c1:=HM.out.cells 1 rfl;go_wp2_with fail
 refine (CF.out _ (HM.out.bel 0 rfl)).mono ?_;rintro e w1 ⟨rfl,hb⟩;replace HM:=K1 (HM.out.below hb);clear hb;clear c1;have c1:=HM.out.cells 1 rfl
 cases r
 . go_wp2_with fail;go_ret;exact ⟨AY (by rw [HD.out,YU];simp <;> omega),HM.out.bel 0 rfl⟩
 . go_wp2_with fail;refine (CI.out _ (HM.out.bel 0 rfl)).mono ?_;rintro e w2 ⟨rfl,hb⟩;replace HM:=K1 (HM.out.below hb);clear hb;clear c1;have c1:=HM.out.cells 1 rfl
   by_cases hz_k:k=0
   . subst hz_k
     by_cases h0:n<=300
     . go_wp2_with fail;go_ret;exact ⟨AY (by rw [HD.out,YU];simp <;> omega),HM.out.bel 0 rfl⟩
     . go_wp2_with fail;go_ret;exact ⟨AY (by rw [HD.out,YU];simp <;> omega),HM.out.bel 0 rfl⟩
   . have hz1_k:(k == 0)=false:=by simpa using hz_k
     have hz2_k:(k != 0)=true:=by simpa using hz_k
     go_wp2_with fail;go_ret;exact ⟨AY (by rw [HD.out,YU];simp <;> omega),HM.out.bel 0 rfl⟩
theorem Q1:∀ {zs:List Int},2<=zs.length->zs.all okSz=true->1<=cnt zs
 | a::b::r,_,h=>by
   have ha:=Di.1 (List.all_eq_true.1 h a (Za ..));have hb:=Di.1 (List.all_eq_true.1 h b (Zb _ (Za ..)));have hr:=(GF (b::r) fun z hz=>List.all_eq_true.1 h z (Zb _ hz)).1;have hm:1*1<=(a+1)*b:=Int.mul_le_mul (by omega) hb.1 (by omega) (by omega);simp only [cnt];omega
theorem Gi.few_small {g:Gi} {n:Nat} (h:g.few n=true):g.Small/\n<=300:=by
 unfold Gi.few Gi.few22 Gi.few21 at h;simp only [YW,Zc,decide_eq_true_eq] at h;obtain ⟨⟨⟨⟨h1,h2⟩,h3⟩,h4⟩,h5⟩:=h;have hc:¬ g.code≠0:=by omega
 have h2:=h2.resolve_left hc;have h3:=h3.resolve_left hc
 have hcc:g.cc=0:=by
  by_cases hk:g.cc=0
  . exact hk
  . unfold Gi.code BY at h4;rw [if_pos hk] at h4;exact absurd h4 hk
 have hf:g.few11=true:=by
  unfold Gi.few14 at h1;simp only [YW] at h1;exact h1.1
 unfold Gi.few11 Dq at hf;simp only [YW,decide_eq_true_eq] at hf
 have hmi:g.mi<=20:=by
  have hq:=h2.1.1
  have hr:g.right=true:=by
   have hs:=(DT hcc).2.2.2
   have hcn:(g.ss.length:Int)=cnt g.zs:=by
    have h5:=h4;unfold Gi.code at h5;rw [hcc] at h5;unfold BY at h5;rw [if_neg (by omega)] at h5
    split at h5
    . cases h5
    split at h5
    . cases h5
    . rename_i _ hx
      exact Decidable.byContradiction fun hc=>hx (.inr hc)
   have hpos:=Q1 (FZ hs).1 (L8 hs);unfold Gi.right;simp only [YW,decide_eq_true_eq];omega
  unfold Gi.few20 at hq;rw [hr] at hq;simp only [YW,Zc,decide_eq_true_eq,Bool.not_true,Bool.false_eq_true,false_or] at hq;exact hq.2.1.2
 exact ⟨⟨h4,h3.1.1,h3.1.2,h3.2,h2.2,hmi,hf.2⟩,h5⟩
end
end Go.Proofs.YtdpojpcoghcieaaGreat
