/- A part of the proof of TopSerial: ConfRef, ConfFlat, PlanNew. Conditions: none. -/
import Derived.Test.YtdpojpcoghcieaaGreatSdAK
set_option maxHeartbeats 8000000
namespace Go.Proofs.YtdpojpcoghcieaaGreat
open Lib renaming hid → K1
open List renaming filterMap_cons → p1, filterMap_nil → p2, getElem?_cons_zero → p3, getElem?_cons_succ → p4
open Go.RowKit
def CodedR (w:World) (k:Int) (e:Ending) (w':World):Prop:=e=.returned (.int .i64 k)∧Below w.heap.size w w'
def five (c:Cf):List Int:=[c.mi,c.bu,c.ch,c.wi,c.ca]
theorem betw_yes {x a b:Int} (h:betw x a b=true):a≤x∧x≤b:=by simpa [betw] using h
theorem betw_no {x a b:Int} (h:betw x a b=false):x<a∨b<x:=by
 unfold betw at h;rw [decide_eq_false_iff_not] at h;omega
theorem nums_five (c:Cf) (h:(five c).all okSz=true) (h0:0≤c.st) (h1:c.st≤1048576):numsOk c=true:=by
 simp [five] at h
 have hs:c.st=0∨okSz c.st=true:=by
  by_cases e:c.st=0
  · exact .inl e
  · exact .inr (okSz_iff.2 (by omega))
 simp [numsOk,h,hs]
theorem nums_five_no (c:Cf) (h:(five c).all okSz=false):numsOk c=false:=by
 simp only [five,List.all_cons,List.all_nil,Bool.and_true] at h
 rw [numsOk]
 revert h
 cases okSz c.mi <;> cases okSz c.bu <;> cases okSz c.ch <;> cases okSz c.wi <;> cases okSz c.ca <;> simp
theorem nums_st (c:Cf) (h:c.st<0∨1048576<c.st):numsOk c=false:=by
 have h1:decide (c.st=0)=false:=by simp;omega
 have h2:okSz c.st=false:=okSz_no.2 (by omega)
 rw [numsOk,h1,h2]
 simp
theorem five_cell (c:Cf) (s:Int):∀ (k:Nat) (z:Int),(five c)[k]?=some z→(#[.int .i64 c.mi,.int .i64 c.bu,.int .i64 c.ch,.int .i64 c.wi,.int .i64 c.ca,.int .i64 s]:Array Value)[k]?=some (.int .i64 z)
 | 0,_,h | 1,_,h | 2,_,h | 3,_,h | 4,_,h=>by simp [five] at h;subst h;rfl
 | _+5,_,h=>by simp [five] at h
theorem refConf6 (A:Option Addr) (cap:Nat) (zs:List Int) (c:Cf) (w:World) (h1:betw c.wo 1 64=false) :
  Calls Tryz.prog 52 #[cfVal A zs.length cap c] w (CodedR w (confCode zs c)):=by
 obtain ⟨sh,ra,mo,wo,ba,mi,st,bu,ch,wi,ca⟩:=c
 dsimp only [cfVal]
 dsimp only at h1
 have hfin:=K1 (code6 (zs:=zs) (c:=⟨sh,ra,mo,wo,ba,mi,st,bu,ch,wi,ca⟩) (by have:=betw_no h1;dsimp only;omega))
 go_enter Tryz.func52,Tryz.ntmps52
 go_wp2_with (go_at_call 53;refine (between_any _ _ _ _).mono ?_;rintro e w' ⟨rfl,rfl⟩)
 go_ret
 exact ⟨ret_int hfin.out.symm,(Below.refl _ _).alloc (Nat.le_refl _) _⟩
theorem refConf9 (A:Option Addr) (cap:Nat) (zs:List Int) (c:Cf) (w:World) (h1:betw c.wo 1 64=true) (h2:betw c.sh 1 62=false) :
  Calls Tryz.prog 52 #[cfVal A zs.length cap c] w (CodedR w (confCode zs c)):=by
 obtain ⟨sh,ra,mo,wo,ba,mi,st,bu,ch,wi,ca⟩:=c
 dsimp only [cfVal]
 dsimp only at h1 h2
 have hfin:=K1 (code9 (zs:=zs) (c:=⟨sh,ra,mo,wo,ba,mi,st,bu,ch,wi,ca⟩) (by have:=betw_yes h1;dsimp only;omega) (by have:=betw_yes h1;dsimp only;omega) (by have:=betw_no h2;dsimp only;omega))
 go_enter Tryz.func52,Tryz.ntmps52
 go_wp2_with (go_at_call 53;refine (between_any _ _ _ _).mono ?_;rintro e w' ⟨rfl,rfl⟩)
 go_ret
 exact ⟨ret_int hfin.out.symm,(Below.refl _ _).alloc (Nat.le_refl _) _⟩
theorem refConfS (A:Option Addr) (cap:Nat) (zs:List Int) (c:Cf) (w:World) (hr:RdI w w.heap.size A zs) (hm:zs.length≤9223372036854775807) (h1:betw c.wo 1 64=true) (h2:betw c.sh 1 62=true) (h3:shCode zs≠0) :
  Calls Tryz.prog 52 #[cfVal A zs.length cap c] w (CodedR w (confCode zs c)):=by
 obtain ⟨sh,ra,mo,wo,ba,mi,st,bu,ch,wi,ca⟩:=c
 dsimp only [cfVal]
 dsimp only at h1 h2
 have hfin:=K1 (codeS (zs:=zs) (c:=⟨sh,ra,mo,wo,ba,mi,st,bu,ch,wi,ca⟩) (by have:=betw_yes h1;dsimp only;omega) (by have:=betw_yes h1;dsimp only;omega) (by have:=betw_yes h2;dsimp only;omega) (by have:=betw_yes h2;dsimp only;omega) h3)
 have hr1:RdI (w.alloc (.cells #[.slice A zs.length cap,.int .i64 sh,.int .i64 ra,.int .i64 mo,.int .i64 wo,.int .i64 ba,.int .i64 mi,.int .i64 st,.int .i64 bu,.int .i64 ch,.int .i64 wi,.int .i64 ca] 24)) (w.alloc (.cells #[.slice A zs.length cap,.int .i64 sh,.int .i64 ra,.int .i64 mo,.int .i64 wo,.int .i64 ba,.int .i64 mi,.int .i64 st,.int .i64 bu,.int .i64 ch,.int .i64 wi,.int .i64 ca] 24)).heap.size A zs :=
  (hr.alloc (Nat.le_refl _) _).more (by simp)
 have C:=K1 (refShape_any A cap zs _ hr1 hm)
 clear hr1
 have h0:(shCode zs != 0)=true:=by simpa using h3
 generalize shCode zs=k at *
 go_enter Tryz.func52,Tryz.ntmps52
 go_wp2_with (first | (go_at_call 53;refine (between_any _ _ _ _).mono ?_;rintro e w' ⟨rfl,rfl⟩) | (go_at_call 89;refine C.out.mono ?_;rintro e w1 ⟨rfl,n1,rfl⟩))
 go_ret
 exact ⟨ret_int hfin.out.symm,below_drewN ((Below.refl _ _).alloc (Nat.le_refl _) _) _⟩
theorem refConfA (A:Option Addr) (cap:Nat) (zs:List Int) (c:Cf) (w:World) (hr:RdI w w.heap.size A zs) (hm:zs.length≤9223372036854775807) (h1:betw c.wo 1 64=true) (h2:betw c.sh 1 62=true) (h3:shCode zs=0) (h4:c.st<0) :
  Calls Tryz.prog 52 #[cfVal A zs.length cap c] w (CodedR w (confCode zs c)):=by
 obtain ⟨sh,ra,mo,wo,ba,mi,st,bu,ch,wi,ca⟩:=c
 dsimp only [cfVal]
 dsimp only at h1 h2 h4
 have hfin:=K1 (code2 (zs:=zs) (c:=⟨sh,ra,mo,wo,ba,mi,st,bu,ch,wi,ca⟩) (by have:=betw_yes h1;dsimp only;omega) (by have:=betw_yes h1;dsimp only;omega) (by have:=betw_yes h2;dsimp only;omega) (by have:=betw_yes h2;dsimp only;omega) h3 (nums_st _ (by dsimp only;omega)))
 have hr1:RdI (w.alloc (.cells #[.slice A zs.length cap,.int .i64 sh,.int .i64 ra,.int .i64 mo,.int .i64 wo,.int .i64 ba,.int .i64 mi,.int .i64 st,.int .i64 bu,.int .i64 ch,.int .i64 wi,.int .i64 ca] 24)) (w.alloc (.cells #[.slice A zs.length cap,.int .i64 sh,.int .i64 ra,.int .i64 mo,.int .i64 wo,.int .i64 ba,.int .i64 mi,.int .i64 st,.int .i64 bu,.int .i64 ch,.int .i64 wi,.int .i64 ca] 24)).heap.size A zs :=
  (hr.alloc (Nat.le_refl _) _).more (by simp)
 have C:=K1 (refShape_any A cap zs _ hr1 hm)
 clear hr1
 have H3:=K1 h3
 clear h3
 go_enter Tryz.func52,Tryz.ntmps52
 go_wp2_with (first | (go_at_call 53;refine (between_any _ _ _ _).mono ?_;rintro e w' ⟨rfl,rfl⟩) | (go_at_call 89;refine C.out.mono ?_;rintro e w1 ⟨rfl,n1,rfl⟩;rw [H3.out]))
 go_ret
 exact ⟨ret_int hfin.out.symm,below_drewN (((Below.refl _ _).alloc (Nat.le_refl _) _).alloc (by simp) _) _⟩
theorem refConfB (A:Option Addr) (cap:Nat) (zs:List Int) (c:Cf) (w:World) (hr:RdI w w.heap.size A zs) (hm:zs.length≤9223372036854775807) (h1:betw c.wo 1 64=true) (h2:betw c.sh 1 62=true) (h3:shCode zs=0) (h4:¬ c.st<0) (h5:1048576<c.st) :
  Calls Tryz.prog 52 #[cfVal A zs.length cap c] w (CodedR w (confCode zs c)):=by
 obtain ⟨sh,ra,mo,wo,ba,mi,st,bu,ch,wi,ca⟩:=c
 dsimp only [cfVal]
 dsimp only at h1 h2 h4 h5
 have hfin:=K1 (code2 (zs:=zs) (c:=⟨sh,ra,mo,wo,ba,mi,st,bu,ch,wi,ca⟩) (by have:=betw_yes h1;dsimp only;omega) (by have:=betw_yes h1;dsimp only;omega) (by have:=betw_yes h2;dsimp only;omega) (by have:=betw_yes h2;dsimp only;omega) h3 (nums_st _ (by dsimp only;omega)))
 have hr1:RdI (w.alloc (.cells #[.slice A zs.length cap,.int .i64 sh,.int .i64 ra,.int .i64 mo,.int .i64 wo,.int .i64 ba,.int .i64 mi,.int .i64 st,.int .i64 bu,.int .i64 ch,.int .i64 wi,.int .i64 ca] 24)) (w.alloc (.cells #[.slice A zs.length cap,.int .i64 sh,.int .i64 ra,.int .i64 mo,.int .i64 wo,.int .i64 ba,.int .i64 mi,.int .i64 st,.int .i64 bu,.int .i64 ch,.int .i64 wi,.int .i64 ca] 24)).heap.size A zs :=
  (hr.alloc (Nat.le_refl _) _).more (by simp)
 have C:=K1 (refShape_any A cap zs _ hr1 hm)
 clear hr1
 have H3:=K1 h3
 clear h3
 go_enter Tryz.func52,Tryz.ntmps52
 go_wp2_with (first | (go_at_call 53;refine (between_any _ _ _ _).mono ?_;rintro e w' ⟨rfl,rfl⟩) | (go_at_call 89;refine C.out.mono ?_;rintro e w1 ⟨rfl,n1,rfl⟩;rw [H3.out]))
 go_ret
 exact ⟨ret_int hfin.out.symm,below_drewN (((Below.refl _ _).alloc (Nat.le_refl _) _).alloc (by simp) _) _⟩
theorem refConfL (A:Option Addr) (cap:Nat) (zs:List Int) (c:Cf) (w:World) (hr:RdI w w.heap.size A zs) (hm:zs.length≤9223372036854775807) (h1:betw c.wo 1 64=true) (h2:betw c.sh 1 62=true) (h3:shCode zs=0) (h4:¬ c.st<0) (h5:¬ 1048576<c.st) :
  Calls Tryz.prog 52 #[cfVal A zs.length cap c] w (CodedR w (confCode zs c)):=by
 obtain ⟨sh,ra,mo,wo,ba,mi,st,bu,ch,wi,ca⟩:=c
 dsimp only [cfVal]
 dsimp only at h1 h2 h4 h5
 have f2:Hid ((five ⟨sh,ra,mo,wo,ba,mi,st,bu,ch,wi,ca⟩).all okSz=false→confCode zs ⟨sh,ra,mo,wo,ba,mi,st,bu,ch,wi,ca⟩=2):=K1 fun hb=>code2 (zs:=zs) (c:=⟨sh,ra,mo,wo,ba,mi,st,bu,ch,wi,ca⟩) (by have:=betw_yes h1;dsimp only;omega) (by have:=betw_yes h1;dsimp only;omega) (by have:=betw_yes h2;dsimp only;omega) (by have:=betw_yes h2;dsimp only;omega) h3 (nums_five_no _ hb)
 have f7:Hid ((five ⟨sh,ra,mo,wo,ba,mi,st,bu,ch,wi,ca⟩).all okSz=true→betw ba wo 1048576=false→confCode zs ⟨sh,ra,mo,wo,ba,mi,st,bu,ch,wi,ca⟩=7) :=
  K1 fun hb h6=>code7 (zs:=zs) (c:=⟨sh,ra,mo,wo,ba,mi,st,bu,ch,wi,ca⟩) (by have:=betw_yes h1;dsimp only;omega) (by have:=betw_yes h1;dsimp only;omega) (by have:=betw_yes h2;dsimp only;omega) (by have:=betw_yes h2;dsimp only;omega) h3 (nums_five _ hb (by dsimp only;omega) (by dsimp only;omega)) (by have:=betw_no h6;dsimp only;omega)
 have f0:Hid ((five ⟨sh,ra,mo,wo,ba,mi,st,bu,ch,wi,ca⟩).all okSz=true→betw ba wo 1048576=true→confCode zs ⟨sh,ra,mo,wo,ba,mi,st,bu,ch,wi,ca⟩=0) :=
  K1 fun hb h6=>code0 (zs:=zs) (c:=⟨sh,ra,mo,wo,ba,mi,st,bu,ch,wi,ca⟩) (by have:=betw_yes h1;dsimp only;omega) (by have:=betw_yes h1;dsimp only;omega) (by have:=betw_yes h2;dsimp only;omega) (by have:=betw_yes h2;dsimp only;omega) h3 (nums_five _ hb (by dsimp only;omega) (by dsimp only;omega)) (by have:=betw_yes h6;dsimp only;omega) (by have:=betw_yes h6;dsimp only;omega)
 have hr1:RdI (w.alloc (.cells #[.slice A zs.length cap,.int .i64 sh,.int .i64 ra,.int .i64 mo,.int .i64 wo,.int .i64 ba,.int .i64 mi,.int .i64 st,.int .i64 bu,.int .i64 ch,.int .i64 wi,.int .i64 ca] 24)) (w.alloc (.cells #[.slice A zs.length cap,.int .i64 sh,.int .i64 ra,.int .i64 mo,.int .i64 wo,.int .i64 ba,.int .i64 mi,.int .i64 st,.int .i64 bu,.int .i64 ch,.int .i64 wi,.int .i64 ca] 24)).heap.size A zs :=
  (hr.alloc (Nat.le_refl _) _).more (by simp)
 have C:=K1 (refShape_any A cap zs _ hr1 hm)
 clear hr1
 have H3:=K1 h3
 clear h3
 go_enter Tryz.func52,Tryz.ntmps52
 go_wp2_with (first | (go_at_call 53;refine (between_any _ _ _ _).mono ?_;rintro e w' ⟨rfl,rfl⟩) | (go_at_call 89;refine C.out.mono ?_;rintro e w1 ⟨rfl,n1,rfl⟩;rw [H3.out]))
 have hX:=blk_alloc (w:=(w.alloc (.cells #[.slice A zs.length cap,.int .i64 sh,.int .i64 ra,.int .i64 mo,.int .i64 wo,.int .i64 ba,.int .i64 mi,.int .i64 st,.int .i64 bu,.int .i64 ch,.int .i64 wi,.int .i64 ca] 24)).drewN n1) (heap_alloc_new w (.cells #[.slice A zs.length cap,.int .i64 sh,.int .i64 ra,.int .i64 mo,.int .i64 wo,.int .i64 ba,.int .i64 mi,.int .i64 st,.int .i64 bu,.int .i64 ch,.int .i64 wi,.int .i64 ca] 24)) (.cells #[.int .i64 mi,.int .i64 bu,.int .i64 ch,.int .i64 wi,.int .i64 ca,.int .i64 (st+1)] 3)
 have hL:=heap_alloc_new ((w.alloc (.cells #[.slice A zs.length cap,.int .i64 sh,.int .i64 ra,.int .i64 mo,.int .i64 wo,.int .i64 ba,.int .i64 mi,.int .i64 st,.int .i64 bu,.int .i64 ch,.int .i64 wi,.int .i64 ca] 24)).drewN n1) (.cells #[.int .i64 mi,.int .i64 bu,.int .i64 ch,.int .i64 wi,.int .i64 ca,.int .i64 (st+1)] 3)
 have hB:Below w.heap.size w (((w.alloc (.cells #[.slice A zs.length cap,.int .i64 sh,.int .i64 ra,.int .i64 mo,.int .i64 wo,.int .i64 ba,.int .i64 mi,.int .i64 st,.int .i64 bu,.int .i64 ch,.int .i64 wi,.int .i64 ca] 24)).drewN n1).alloc (.cells #[.int .i64 mi,.int .i64 bu,.int .i64 ch,.int .i64 wi,.int .i64 ca,.int .i64 (st+1)] 3)):=(below_drewN ((Below.refl _ _).alloc (Nat.le_refl _) _) _).alloc (by simp) _
 rw [show ((w.alloc (.cells #[.slice A zs.length cap,.int .i64 sh,.int .i64 ra,.int .i64 mo,.int .i64 wo,.int .i64 ba,.int .i64 mi,.int .i64 st,.int .i64 bu,.int .i64 ch,.int .i64 wi,.int .i64 ca] 24)).drewN n1).heap.size=w.heap.size+1 from World.size_alloc _ _] at hL
 generalize ((w.alloc (.cells #[.slice A zs.length cap,.int .i64 sh,.int .i64 ra,.int .i64 mo,.int .i64 wo,.int .i64 ba,.int .i64 mi,.int .i64 st,.int .i64 bu,.int .i64 ch,.int .i64 wi,.int .i64 ca] 24)).drewN n1).alloc (.cells #[.int .i64 mi,.int .i64 bu,.int .i64 ch,.int .i64 wi,.int .i64 ca,.int .i64 (st+1)] 3)=W at *
 have HL:=K1 hL
 have c4:W.cell? ⟨w.heap.size,4,none⟩=some (.int .i64 wo):=blk_cell hX 4
 have c5:W.cell? ⟨w.heap.size,5,none⟩=some (.int .i64 ba):=blk_cell hX 5
 clear hL hX
 go_loop [5] (fun i=>∃ k:Nat,k≤5∧i=.int .i64 k∧Hid (((five ⟨sh,ra,mo,wo,ba,mi,st,bu,ch,wi,ca⟩).take k).all okSz=true)) (fun i=>5-(intOf i).toNat)
 case atStart=>exact ⟨0,Nat.zero_le _,rfl,K1 rfl⟩
 case round =>
  obtain ⟨k,hk,rfl,hall⟩:=hrel
  by_cases hlt:k<5
  · obtain ⟨z,hz⟩:=get_some (five ⟨sh,ra,mo,wo,ba,mi,st,bu,ch,wi,ca⟩) k hlt
    have c1:W.cell? ⟨w.heap.size+1,k,none⟩=some (.int .i64 z):=(blk_cell HL.out k).trans (five_cell ⟨sh,ra,mo,wo,ba,mi,st,bu,ch,wi,ca⟩ (st+1) k z hz)
    have HZ:=K1 hz
    clear hz
    cases hb:betw z 1 1048576
    · have hfin:=K1 (f2.out (not_all _ k z HZ.out hb))
      go_wp2_with (go_at_call 53;refine (between_any _ _ _ _).mono ?_;rintro e w' ⟨rfl,rfl⟩)
      go_ret
      exact ⟨ret_int hfin.out.symm,hB⟩
    · go_wp2_with (go_at_call 53;refine (between_any _ _ _ _).mono ?_;rintro e w' ⟨rfl,rfl⟩)
      go_round
      case rel=>exact ⟨k+1,by omega,by go_num,K1 (take_all _ k z HZ.out hall.out hb)⟩
      case measure=>simp [intOf];omega
  · have hall':Hid ((five ⟨sh,ra,mo,wo,ba,mi,st,bu,ch,wi,ca⟩).all okSz=true):=by
     have:=hall.out
     rw [List.take_of_length_le (by simp [five];omega)] at this
     exact K1 this
    cases hb:betw ba wo 1048576
    · have hfin:=K1 (f7.out hall'.out hb)
      go_wp2_with (go_at_call 53;refine (between_any _ _ _ _).mono ?_;rintro e w' ⟨rfl,rfl⟩)
      go_ret
      exact ⟨ret_int hfin.out.symm,hB⟩
    · have hfin:=K1 (f0.out hall'.out hb)
      go_wp2_with (go_at_call 53;refine (between_any _ _ _ _).mono ?_;rintro e w' ⟨rfl,rfl⟩)
      go_ret
      exact ⟨ret_int hfin.out.symm,hB⟩
theorem refConf_any (A:Option Addr) (cap:Nat) (zs:List Int) (c:Cf) (w:World) (hr:RdI w w.heap.size A zs) (hm:zs.length≤9223372036854775807) :
  Calls Tryz.prog 52 #[cfVal A zs.length cap c] w (CodedR w (confCode zs c)):=by
 cases h1:betw c.wo 1 64
 · exact refConf6 A cap zs c w h1
 cases h2:betw c.sh 1 62
 · exact refConf9 A cap zs c w h1 h2
 by_cases h3:shCode zs=0
 · by_cases h4:c.st<0
   · exact refConfA A cap zs c w hr hm h1 h2 h3 h4
   by_cases h5:1048576<c.st
   · exact refConfB A cap zs c w hr hm h1 h2 h3 h4 h5
   · exact refConfL A cap zs c w hr hm h1 h2 h3 h4 h5
 · exact refConfS A cap zs c w hr hm h1 h2 h3
theorem cf_all {A:Option Addr} {n cap g:Nat} {sh ra mo wo ba mi st bu ch wi ca:Int} {W:World} (hn:W.heap[g]?=some (.cells #[.slice A n cap,.int .i64 sh,.int .i64 ra,.int .i64 mo,.int .i64 wo,.int .i64 ba,.int .i64 mi,.int .i64 st,.int .i64 bu,.int .i64 ch,.int .i64 wi,.int .i64 ca] 24 (0,0))) :
  W.cell? ⟨g,0,none⟩=some (.slice A n cap)∧W.cell? ⟨g,1,none⟩=some (.int .i64 sh)∧W.cell? ⟨g,2,none⟩=some (.int .i64 ra)∧W.cell? ⟨g,3,none⟩=some (.int .i64 mo)∧W.cell? ⟨g,4,none⟩=some (.int .i64 wo)∧W.cell? ⟨g,5,none⟩=some (.int .i64 ba)∧W.cell? ⟨g,6,none⟩=some (.int .i64 mi)∧W.cell? ⟨g,7,none⟩=some (.int .i64 st)∧W.cell? ⟨g,8,none⟩=some (.int .i64 bu)∧W.cell? ⟨g,9,none⟩=some (.int .i64 ch)∧W.cell? ⟨g,10,none⟩=some (.int .i64 wi)∧W.cell? ⟨g,11,none⟩=some (.int .i64 ca):=by
 refine ⟨blk_cell hn 0,blk_cell hn 1,blk_cell hn 2,blk_cell hn 3,blk_cell hn 4,blk_cell hn 5,blk_cell hn 6,blk_cell hn 7,blk_cell hn 8,blk_cell hn 9,blk_cell hn 10,blk_cell hn 11⟩
theorem confCheck_flat (A:Option Addr) (cap:Nat) (zs:List Int) (sh ra mo wo ba mi st bu ch wi ca:Int) (w:World) (hr:RdI w w.heap.size A zs) (hcap:zs.length≤cap) (hm:zs.length≤9223372036854775807) :
  Calls Tryz.prog 58 #[.agg #[.slice A zs.length cap,.int .i64 sh,.int .i64 ra,.int .i64 mo,.int .i64 wo,.int .i64 ba,.int .i64 mi,.int .i64 st,.int .i64 bu,.int .i64 ch,.int .i64 wi,.int .i64 ca]] w (Coded w (confCode zs ⟨sh,0,0,wo,ba,mi,st,bu,ch,wi,ca⟩)) :=
 confCheck_any A cap zs ⟨sh,ra,mo,wo,ba,mi,st,bu,ch,wi,ca⟩ w hr hcap hm
theorem refConf_flat (A:Option Addr) (cap:Nat) (zs:List Int) (sh ra mo wo ba mi st bu ch wi ca:Int) (w:World) (hr:RdI w w.heap.size A zs) (hm:zs.length≤9223372036854775807) :
  Calls Tryz.prog 52 #[.agg #[.slice A zs.length cap,.int .i64 sh,.int .i64 ra,.int .i64 mo,.int .i64 wo,.int .i64 ba,.int .i64 mi,.int .i64 st,.int .i64 bu,.int .i64 ch,.int .i64 wi,.int .i64 ca]] w (CodedR w (confCode zs ⟨sh,0,0,wo,ba,mi,st,bu,ch,wi,ca⟩)) :=
 refConf_any A cap zs ⟨sh,ra,mo,wo,ba,mi,st,bu,ch,wi,ca⟩ w hr hm
structure Kf where
 sh:Nat
 ra:Int
 mo:Int
 k:Nat
 ba:Nat
 mi:Nat
 st:Nat
 bu:Nat
 s:Nat
 wi:Nat
 ca:Nat
def Kf.cf (c:Kf):Cf:=⟨c.sh,c.ra,c.mo,c.k,c.ba,c.mi,c.st,c.bu,c.s,c.wi,c.ca⟩
structure Kf.Ok (c:Kf):Prop where
 k:1≤c.k∧c.k≤8
 sh:1≤c.sh∧c.sh≤62
 ba:c.k≤c.ba∧c.ba≤1048576
 mi:1≤c.mi∧c.mi≤1000
 st:c.st≤1000
 bu:1≤c.bu∧c.bu≤1048576
 s:1≤c.s∧c.s≤1048576
 wi:1≤c.wi∧c.wi≤1048576
 ca:1≤c.ca∧c.ca≤1048576
def plBs (c:Kf) (p:Nat):List (Nat × Nat):=bucketsL p c.bu
def plGs (c:Kf) (p:Nat):List (Nat × Nat):=blocksL (plBs c p).length c.wi
def plIts (c:Kf) (p t w:Nat):List It:=itemsL (plBs c p) (plGs c p) c.k c.s c.mi t w
def plLens (c:Kf) (p n:Nat):List Int:=(List.range n).map fun w=>((plIts c p 0 w).length:Int)
def sgOf (c:Kf) (p:Nat) (As:Option Addr) (ns cs:Nat) (Ab:Option Addr) (cb:Nat) (Ag:Option Addr) (cg:Nat):Sg :=
 ⟨As,ns,cs,c.sh,c.ra,c.mo,c.k,c.ba,c.mi,c.st,c.bu,c.s,c.wi,c.ca,Ab,plBs c p,cb,Ag,plGs c p,cg⟩
def RdIn (W:World) (lo hi:Nat) (A:Option Addr) (vs:List Value):Prop:=Rd W hi A vs∧∀ p,A=some p→lo≤p.block
theorem RdIn.keep {W1 W2:World} {lo hi:Nat} {A:Option Addr} {vs:List Value} (h:RdIn W1 lo hi A vs) (hk:∀ g,lo≤g→g<hi→W2.heap[g]?=W1.heap[g]?):RdIn W2 lo hi A vs:=⟨fun h0=>by
 obtain ⟨b,off,e,hb,hc⟩:=h.1 h0
 have hlo:=h.2 _ e
 exact ⟨b,off,e,hb,fun j u hu=>(World.cell?_of_block (w:=W1) (w':=W2) (a:=⟨b,off+j,none⟩) (hk b hlo hb)).trans (hc j u hu)⟩,h.2⟩
theorem RdIn.more {W:World} {lo hi lo' hi':Nat} {A:Option Addr} {vs:List Value} (h:RdIn W lo hi A vs) (h1:lo'≤lo) (h2:hi≤hi'):RdIn W lo' hi' A vs:=⟨h.1.more h2,fun p hp=>Nat.le_trans h1 (h.2 p hp)⟩
theorem RdIn.rd {W:World} {lo hi:Nat} {A:Option Addr} {vs:List Value} (h:RdIn W lo hi A vs) (hh:hi≤W.heap.size):Rd W W.heap.size A vs:=h.1.more hh
structure PlanAt (W:World) (lo hi gp:Nat) (c:Kf) (p:Nat):Prop where
 in_:lo≤gp∧gp<hi
 ex:∃ As ns cs Ab cb Ag cg Al cl,W.heap[gp]?=some (.cells ((sgOf c p As ns cs Ab cb Ag cg).cells++[Value.slice Al c.k cl]).toArray 212 (0,0))∧RdIn W lo hi Ab (rcells (plBs c p))∧RdIn W lo hi Ag (rcells (plGs c p)) ∧
  RdIn W lo hi Al ((plLens c p c.k).map (Value.int .i64))∧(plBs c p).length≤cb∧(plGs c p).length≤cg∧c.k≤cl
theorem PlanAt.keep {W1 W2:World} {lo hi gp:Nat} {c:Kf} {p:Nat} (h:PlanAt W1 lo hi gp c p) (hk:∀ g,lo≤g→g<hi→W2.heap[g]?=W1.heap[g]?):PlanAt W2 lo hi gp c p:=by
 obtain ⟨h0,As,ns,cs,Ab,cb,Ag,cg,Al,cl,h1,h2,h3,h4,h5⟩:=h
 exact ⟨h0,As,ns,cs,Ab,cb,Ag,cg,Al,cl,(hk gp h0.1 h0.2).trans h1,h2.keep hk,h3.keep hk,h4.keep hk,h5⟩
theorem blocks_ord (n s:Nat):∀ p∈blocksL n s,p.1≤p.2:=by
 intro p hp
 obtain ⟨i,hi,rfl⟩:=List.mem_map.1 hp
 exact Nat.le_add_right _ _
theorem plBs_ok {c:Kf} {p:Nat} (h:c.Ok) (hp:p≤60):BsOk (plBs c p)∧(plBs c p).length≤60∧GsOk (plBs c p).length (plGs c p)∧(plGs c p).length≤60:=by
 have h1:=pcnt_le p c.bu
 have h2:=buckets_len p c.bu
 refine ⟨fun q hq=>?_,by rw [plBs];omega,fun q hq=>?_,?_⟩
 · have hq':=List.mem_reverse.1 hq
   have:=blocks_le p c.bu h.bu.1 q hq'
   exact ⟨blocks_ord p c.bu q hq',by omega⟩
 · have:=blocks_le (plBs c p).length c.wi h.wi.1 q hq
   exact ⟨blocks_ord _ _ q hq,this.2⟩
 · have h3:=pcnt_le (plBs c p).length c.wi
   have h4:=blocks_len (plBs c p).length c.wi
   rw [plGs,h4]
   unfold plBs at *
   omega
theorem plLens_succ (c:Kf) (p n:Nat):plLens c p (n+1)=plLens c p n++[((plIts c p 0 n).length:Int)]:=by simp [plLens,List.range_succ]
theorem plLens_len (c:Kf) (p n:Nat):(plLens c p n).length=n:=by simp [plLens]
set_option maxRecDepth 100000 in
theorem planNew_any (c:Kf) (hc:c.Ok) (zs:List Int) (As:Option Addr) (cap p:Nat) (hp:1≤p∧p≤60) (w:World) (hr:RdI w w.heap.size As zs) (hcap:zs.length≤cap) (hz:zs.length≤9223372036854775807) (h0:confCode zs c.cf=0) :
  Calls Tryz.prog 64 #[cfVal As zs.length cap c.cf,.int .i64 p] w fun e w'=>∃ gp,e=.returned (.tuple #[.pointer (some ⟨gp,0,none⟩),.bool true])∧PlanAt w' w.heap.size w'.heap.size gp c p∧Below w.heap.size w w':=by
 have CC:=K1 (fun W (hb:Below w.heap.size w W)=>confCheck_any As cap zs c.cf W ((RdI.below hr hb).more hb.size) hcap hz)
 rw [h0] at CC
 have CB:Hid (∀ W:World,Calls Tryz.prog 14 #[.int .i64 p,.int .i64 c.bu] W fun e w'=>∃ A cc,e=.returned (.slice A (plBs c p).length cc)∧OwnR w' W.heap.size (.slice A (plBs c p).length cc) (plBs c p)∧(plBs c p).length≤cc∧Below W.heap.size W w'):=K1 (fun W=>buckets_any p c.bu W (by omega) hc.bu)
 have hok:=plBs_ok hc hp.2
 have CG:Hid (∀ W:World,Calls Tryz.prog 107 #[.int .i64 (plBs c p).length,.int .i64 c.wi] W fun e w'=>∃ A cc,e=.returned (.slice A (plGs c p).length cc)∧OwnR w' W.heap.size (.slice A (plGs c p).length cc) (plGs c p)∧(plGs c p).length≤cc∧Below W.heap.size W w'):=K1 (fun W=>groups_any (plBs c p).length c.wi W (by have:=hok.2.1;omega) hc.wi)
 have CI:=K1 (fun (u:Nat) (hu:u<c.k) (ns cs:Nat) (Ab:Option Addr) (cb:Nat) (Ag:Option Addr) (cg:Nat) (W:World) (h1:RdR W W.heap.size Ab (plBs c p)) (h2:RdR W W.heap.size Ag (plGs c p)) (h3:(plBs c p).length≤cb) (h4:(plGs c p).length≤cg) =>
  items_any W (sgOf c p As ns cs Ab cb Ag cg) u 0 h1 h2 hc.k hu hc.s hok.1 hok.2.1 h3 hok.2.2.1 hok.2.2.2 h4 hc.mi.2)
 have hm:=(Mem.start w).alloc (.cells #[.slice As zs.length cap,.int .i64 c.sh,.int .i64 c.ra,.int .i64 c.mo,.int .i64 c.k,.int .i64 c.ba,.int .i64 c.mi,.int .i64 c.st,.int .i64 c.bu,.int .i64 c.s,.int .i64 c.wi,.int .i64 c.ca] 24)
 have HM:=K1 hm
 have HOK:=K1 hok
 have HLS:=K1 (plLens_succ c p)
 have HLL:=K1 (plLens_len c p)
 have HI:=K1 (show ∀ u,plIts c p 0 u=itemsL (plBs c p) (plGs c p) c.k c.s c.mi 0 u from fun _=>rfl)
 have HK:=K1 hc.k
 clear hm hok h0 hr
 obtain ⟨sh,ra,mo,k,ba,mi,st,bu,s,wi,ca⟩:=c
 dsimp only [Kf.cf,cfVal,sgOf,Sg.cells] at *
 go_enter Tryz.func64,Tryz.ntmps64
 go_wp2_with fail
 (with_reducible refine (CC.out _ (HM.out.bel 0 rfl)).mono ?_)
 rintro e w1 ⟨rfl,hb⟩
 replace HM:=K1 (HM.out.below hb)
 clear hb
 have c0:=HM.out.cells 1 rfl
 go_wp2_with fail
 (with_reducible refine (CB.out _).mono ?_)
 rintro e w2 ⟨Ab,cb,rfl,hv,hcb,hb⟩
 have hlo:=(HM.out.bel 0 rfl).size
 have HAb:=K1 (fun q hq=>Nat.le_trans hlo (own_from_base hv q hq))
 replace HM:=K1 (HM.out.push_rd hb (rd_of_own hv) (own_from_base hv))
 clear hb hv c0 hlo
 have HBS:=K1 (Eq.refl (plBs ⟨sh,ra,mo,k,ba,mi,st,bu,s,wi,ca⟩ p))
 have HGS:=K1 (Eq.refl (plGs ⟨sh,ra,mo,k,ba,mi,st,bu,s,wi,ca⟩ p))
 generalize hbs:plBs ⟨sh,ra,mo,k,ba,mi,st,bu,s,wi,ca⟩ p=bs at *
 generalize hgs:plGs ⟨sh,ra,mo,k,ba,mi,st,bu,s,wi,ca⟩ p=gs at *
 have HBG:=K1 (And.intro hbs hgs)
 clear hbs hgs HBS HGS
 have hbl:=HOK.out.2.1
 go_wp2_with fail
 refine wp_region_reads [0,1,2,3,4,5] [6,7,8,9,10] (fun W'=>∀ i,W'.cell? ⟨w.heap.size,i,none⟩=([.slice As zs.length cap,.int .i64 sh,.int .i64 ra,.int .i64 mo,.int .i64 k,.int .i64 ba,.int .i64 mi,.int .i64 st,.int .i64 bu,.int .i64 s,.int .i64 wi,.int .i64 ca]:List Value)[i]?)
  (by kernel_rfl) (by kernel_rfl) (by kernel_rfl) (by kernel_rfl) (by intro d v c a w h;cases d <;> exact h) (HM.out.drew.cells 1 rfl) ?_
 simp only [pickO,p1,p2,p3,p4]
 apply Exists.intro
 apply And.intro
 · intro W' hS
   repeat still_step
   exact wpStill_nil rfl
 replace HM:=K1 HM.out.drew
 refine Spine.step ?_
 go_wp2_with fail
 (with_reducible refine (CG.out _).mono ?_)
 rintro e w4 ⟨Ag,cg,rfl,hv,hcg,hb⟩
 have hlo:=(HM.out.bel 0 rfl).size
 have HAg:=K1 (fun q hq=>Nat.le_trans hlo (own_from_base hv q hq))
 replace HM:=K1 (HM.out.push_rd hb (rd_of_own hv) (own_from_base hv))
 clear hb hv hlo
 go_wp2_with fail
 refine Behind.go (HM.out.cells 1 rfl) (Spine.step ?_)
 go_wp2_with fail
 refine Behind.go (HM.out.cells 1 rfl) (Spine.step ?_)
 go_wp2_with fail
 refine Behind.go (HM.out.cells 1 rfl) (Spine.step ?_)
 go_wp2_with fail
 refine name_behind fun W5 hW=>?_
 have hlo:=(HM.out.bel 0 rfl).size
 replace HM:=K1 (HM.out.alloc_ hW.out)
 have HGP:=K1 hlo
 clear hW hlo
 generalize hgp:w4.heap.size=gp at *
 clear hgp
 refine Behind.go (HM.out.cells 1 rfl) (Spine.step ?_)
 go_wp2_with fail
 refine Behind.go (HM.out.cells 1 rfl) (Spine.nil_ ?_)
 have c0:=HM.out.cells 1 rfl
 go_wp2_with fail
 have HM0:=K1 ((HM.out.pick [0,2,3,4] [.bel w.heap.size w,.rd Ab (rcells bs),.rd Ag (rcells gs),.obj gp _] rfl (by decide)).add (c:=.own w.heap.size 3 1 (.slice none 0 0) 0 ((plLens ⟨sh,ra,mo,k,ba,mi,st,bu,s,wi,ca⟩ p 0).map (Value.int .i64))) ⟨own_nil _ _ _ _,(HM.out.bel 0 rfl).size⟩ (fun _ _ _ _ g hg=>by cases hg))
 clear HM c0
 go_loopw [36] (fun i wr=>∃ (n:Nat) (Al:Option Addr) (cl:Nat),n≤k∧i=.int .i64 n∧Hid (Mem wr [.bel w.heap.size w,.rd Ab (rcells bs),.rd Ag (rcells gs),.obj gp (.cells #[.slice As zs.length cap,.int .i64 sh,.int .i64 ra,.int .i64 mo,.int .i64 k,.int .i64 ba,.int .i64 mi,.int .i64 st,.int .i64 bu,.int .i64 s,.int .i64 wi,.int .i64 ca,.slice Ab bs.length cb,.slice Ag gs.length cg,.slice Al n cl] 212 (0,0)),.own w.heap.size 3 1 (.slice Al n cl) n ((plLens ⟨sh,ra,mo,k,ba,mi,st,bu,s,wi,ca⟩ p n).map (Value.int .i64))])) (fun i _=>k-(intOf i).toNat)
 case atStart=>exact ⟨0,none,0,Nat.zero_le _,rfl,HM0⟩
 case round =>
  clear HM0
  obtain ⟨n,Al,cl,hn,rfl,HM⟩:=hrel
  have hk8:=HK.out.2
  by_cases hlt:n<k
  · go_wp2_with fail
    refine wp_region_spine 10 4 (fun W'=>∀ i,W'.cell? ⟨gp,i,none⟩=([.slice As zs.length cap,.int .i64 sh,.int .i64 ra,.int .i64 mo,.int .i64 k,.int .i64 ba,.int .i64 mi,.int .i64 st,.int .i64 bu,.int .i64 s,.int .i64 wi,.int .i64 ca,.slice Ab bs.length cb,.slice Ag gs.length cg,.slice Al n cl]:List Value)[i]?)
     (by kernel_rfl) (by kernel_rfl) (by kernel_rfl) (by intro d v c a w h;cases d <;> exact h) (HM.out.drew.cells 3 rfl) ?_
    apply Exists.intro
    apply And.intro
    · intro W' hS
      simp only [List.take_succ_cons,List.take_zero]
      repeat still_step
      exact wpStill_nil rfl
    simp only [List.drop_succ_cons,List.drop_zero,List.take_succ_cons,List.take_zero]
    replace HM:=K1 HM.out.drew
    refine Spine.step ?_
    go_wp2_with fail
    have r1:RdR wr.drew wr.drew.heap.size Ab bs:=HM.out.rd 1 rfl
    have r2:RdR wr.drew wr.drew.heap.size Ag gs:=HM.out.rd 2 rfl
    refine (CI.out n hlt zs.length cap Ab cb Ag cg _ r1 r2 hcb hcg).mono ?_
    rintro e w6 ⟨A6,c6,rfl,_,hb⟩
    replace HM:=K1 (HM.out.below hb)
    clear hb
    rw [← HI.out n]
    generalize hpl:(plIts ⟨sh,ra,mo,k,ba,mi,st,bu,s,wi,ca⟩ p 0 n).length=ln at *
    have HPL:=K1 hpl
    clear hpl
    go_wp2_with fail
    refine Behind.go (HM.out.cells 3 rfl) (Spine.step ?_)
    go_wp2_with fail
    refine Behind.go (HM.out.cells 3 rfl) (Spine.step ?_)
    go_wp2_with fail
    refine name_behind fun W7 hW=>?_
    have HM7:=K1 (HM.out.alloc_ hW.out)
    clear hW
    refine Behind.go (HM7.out.cells 3 rfl) (Spine.step ?_)
    go_wp2_with (at_builtin;refine wpList_append_mem rfl _ _ 22 rfl HM7.out 4 rowCI rfl rfl _ 1 _ [.int .i64 ln] rfl (HM7.out.box 5 rfl) rfl (by intro u hu;simp at hu;subst hu;rfl) (by omega) ?_;intro A' c' W8 hM8)
    have HM8:=K1 hM8
    clear hM8 HM7
    refine Behind.go (HM8.out.cells 3 rfl) (Spine.nil_ ?_)
    have c1:W8.cell? ⟨gp,14,none⟩=some (.slice Al n cl):=HM8.out.cell 3 14 rfl rfl
    have f1:W8.frozen? ⟨gp,14,none⟩=false:=HM8.out.frozen 3 14 rfl
    have HF:=K1 ((HM8.out.set (i:=3) (j:=14) rfl (.slice A' (n+1) c')).front 5)
    clear HM8 HM
    go_wp2_with fail
    go_roundw
    case rel =>
     refine ⟨n+1,A',c',by omega,by go_num,?_⟩
     have e1:(plLens ⟨sh,ra,mo,k,ba,mi,st,bu,s,wi,ca⟩ p (n+1)).map (Value.int .i64)=(plLens ⟨sh,ra,mo,k,ba,mi,st,bu,s,wi,ca⟩ p n).map (Value.int .i64)++[.int .i64 ln]:=by
      rw [HLS.out,List.map_append,HPL.out];rfl
     rw [e1]
     exact HF
    case measure=>simp [intOf];omega
  · have hnk:n=k:=by omega
    subst hnk
    have HF:=K1 (show PlanAt wr w.heap.size wr.heap.size gp ⟨sh,ra,mo,n,ba,mi,st,bu,s,wi,ca⟩ p∧Below w.heap.size w wr from by
     have ho:=HM.out.own 4 rfl
     refine ⟨⟨⟨HGP.out,HM.out.lt 3 rfl⟩,As,zs.length,cap,Ab,cb,Ag,cg,Al,cl,?_,?_,?_,?_,?_,?_,own_cap ho⟩,HM.out.bel 0 rfl⟩
     · unfold sgOf
       dsimp only
       rw [HBG.out.1,HBG.out.2]
       exact HM.out.obj 3 rfl
     · rw [HBG.out.1];exact ⟨HM.out.rd 1 rfl,HAb.out⟩
     · rw [HBG.out.2];exact ⟨HM.out.rd 2 rfl,HAg.out⟩
     · exact ⟨rd_of_own ho,own_from_base ho⟩
     · rw [HBG.out.1];exact hcb
     · rw [HBG.out.2];exact hcg)
    clear HM
    go_wp2_with fail
    go_ret2
    exact ⟨gp,rfl,HF.out.1,HF.out.2⟩
end Go.Proofs.YtdpojpcoghcieaaGreat
