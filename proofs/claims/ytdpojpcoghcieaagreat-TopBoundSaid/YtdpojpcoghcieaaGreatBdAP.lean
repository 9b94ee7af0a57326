/- A part of the proof of TopBound: ConfRef, ConfFlat, ConfNeedPlain, ConfNeed, ConfNeedA. Conditions: none. -/
import Derived.Test.YtdpojpcoghcieaaGreatBdAO
set_option maxHeartbeats 8000000
namespace Go.Proofs.YtdpojpcoghcieaaGreat
open Lib renaming hid → K1
open Go.RowKit
def CodedR (w:World) (k:Int) (e:Ending) (w':World):Prop:=e=.returned (.int .i64 k)∧Below w.heap.size w w'
def five (c:Cf):List Int:=[c.mi,c.bu,c.ch,c.wi,c.ca]
theorem betw_yes {x a b:Int} (h:betw x a b=true):a≤x∧x≤b:=by simpa [betw] using h
theorem betw_no {x a b:Int} (h:betw x a b=false):x<a∨b<x:=by
 unfold betw at h;rw [decide_eq_false_iff_not] at h;omega
theorem nums_five (c:Cf) (h:(five c).all okSz=true) (h0:0≤c.st) (h1:c.st≤1048576):numsOk c=true:=by
 simp [five] at h
 have hs:c.st=0∨okSz c.st=true:=by
  by_cases e:c.st=0
  · exact .inl e
  · exact .inr (okSz_iff.2 (by omega))
 simp [numsOk,h,hs]
theorem nums_five_no (c:Cf) (h:(five c).all okSz=false):numsOk c=false:=by
 simp only [five,List.all_cons,List.all_nil,Bool.and_true] at h
 rw [numsOk]
 revert h
 cases okSz c.mi <;> cases okSz c.bu <;> cases okSz c.ch <;> cases okSz c.wi <;> cases okSz c.ca <;> simp
theorem nums_st (c:Cf) (h:c.st<0∨1048576<c.st):numsOk c=false:=by
 have h1:decide (c.st=0)=false:=by simp;omega
 have h2:okSz c.st=false:=okSz_no.2 (by omega)
 rw [numsOk,h1,h2]
 simp
theorem five_cell (c:Cf) (s:Int):∀ (k:Nat) (z:Int),(five c)[k]?=some z→(#[.int .i64 c.mi,.int .i64 c.bu,.int .i64 c.ch,.int .i64 c.wi,.int .i64 c.ca,.int .i64 s]:Array Value)[k]?=some (.int .i64 z)
 | 0,_,h | 1,_,h | 2,_,h | 3,_,h | 4,_,h=>by simp [five] at h;subst h;rfl
 | _+5,_,h=>by simp [five] at h
theorem refConf6 (A:Option Addr) (cap:Nat) (zs:List Int) (c:Cf) (w:World) (h1:betw c.wo 1 64=false) :
  Calls Tryz.prog 52 #[cfVal A zs.length cap c] w (CodedR w (confCode zs c)):=by
 obtain ⟨sh,ra,mo,wo,ba,mi,st,bu,ch,wi,ca⟩:=c
 dsimp only [cfVal]
 dsimp only at h1
 have hfin:=K1 (code6 (zs:=zs) (c:=⟨sh,ra,mo,wo,ba,mi,st,bu,ch,wi,ca⟩) (by have:=betw_no h1;dsimp only;omega))
 go_enter Tryz.func52,Tryz.ntmps52
 go_wp2_with (go_at_call 53;refine (between_any _ _ _ _).mono ?_;rintro e w' ⟨rfl,rfl⟩)
 go_ret
 exact ⟨ret_int hfin.out.symm,(Below.refl _ _).alloc (Nat.le_refl _) _⟩
theorem refConf9 (A:Option Addr) (cap:Nat) (zs:List Int) (c:Cf) (w:World) (h1:betw c.wo 1 64=true) (h2:betw c.sh 1 62=false) :
  Calls Tryz.prog 52 #[cfVal A zs.length cap c] w (CodedR w (confCode zs c)):=by
 obtain ⟨sh,ra,mo,wo,ba,mi,st,bu,ch,wi,ca⟩:=c
 dsimp only [cfVal]
 dsimp only at h1 h2
 have hfin:=K1 (code9 (zs:=zs) (c:=⟨sh,ra,mo,wo,ba,mi,st,bu,ch,wi,ca⟩) (by have:=betw_yes h1;dsimp only;omega) (by have:=betw_yes h1;dsimp only;omega) (by have:=betw_no h2;dsimp only;omega))
 go_enter Tryz.func52,Tryz.ntmps52
 go_wp2_with (go_at_call 53;refine (between_any _ _ _ _).mono ?_;rintro e w' ⟨rfl,rfl⟩)
 go_ret
 exact ⟨ret_int hfin.out.symm,(Below.refl _ _).alloc (Nat.le_refl _) _⟩
theorem refConfS (A:Option Addr) (cap:Nat) (zs:List Int) (c:Cf) (w:World) (hr:RdI w w.heap.size A zs) (hm:zs.length≤9223372036854775807) (h1:betw c.wo 1 64=true) (h2:betw c.sh 1 62=true) (h3:shCode zs≠0) :
  Calls Tryz.prog 52 #[cfVal A zs.length cap c] w (CodedR w (confCode zs c)):=by
 obtain ⟨sh,ra,mo,wo,ba,mi,st,bu,ch,wi,ca⟩:=c
 dsimp only [cfVal]
 dsimp only at h1 h2
 have hfin:=K1 (codeS (zs:=zs) (c:=⟨sh,ra,mo,wo,ba,mi,st,bu,ch,wi,ca⟩) (by have:=betw_yes h1;dsimp only;omega) (by have:=betw_yes h1;dsimp only;omega) (by have:=betw_yes h2;dsimp only;omega) (by have:=betw_yes h2;dsimp only;omega) h3)
 have hr1:RdI (w.alloc (.cells #[.slice A zs.length cap,.int .i64 sh,.int .i64 ra,.int .i64 mo,.int .i64 wo,.int .i64 ba,.int .i64 mi,.int .i64 st,.int .i64 bu,.int .i64 ch,.int .i64 wi,.int .i64 ca] 24)) (w.alloc (.cells #[.slice A zs.length cap,.int .i64 sh,.int .i64 ra,.int .i64 mo,.int .i64 wo,.int .i64 ba,.int .i64 mi,.int .i64 st,.int .i64 bu,.int .i64 ch,.int .i64 wi,.int .i64 ca] 24)).heap.size A zs :=
  (hr.alloc (Nat.le_refl _) _).more (by simp)
 have C:=K1 (refShape_any A cap zs _ hr1 hm)
 clear hr1
 have h0:(shCode zs != 0)=true:=by simpa using h3
 generalize shCode zs=k at *
 go_enter Tryz.func52,Tryz.ntmps52
 go_wp2_with (first | (go_at_call 53;refine (between_any _ _ _ _).mono ?_;rintro e w' ⟨rfl,rfl⟩) | (go_at_call 89;refine C.out.mono ?_;rintro e w1 ⟨rfl,n1,rfl⟩))
 go_ret
 exact ⟨ret_int hfin.out.symm,below_drewN ((Below.refl _ _).alloc (Nat.le_refl _) _) _⟩
theorem refConfA (A:Option Addr) (cap:Nat) (zs:List Int) (c:Cf) (w:World) (hr:RdI w w.heap.size A zs) (hm:zs.length≤9223372036854775807) (h1:betw c.wo 1 64=true) (h2:betw c.sh 1 62=true) (h3:shCode zs=0) (h4:c.st<0) :
  Calls Tryz.prog 52 #[cfVal A zs.length cap c] w (CodedR w (confCode zs c)):=by
 obtain ⟨sh,ra,mo,wo,ba,mi,st,bu,ch,wi,ca⟩:=c
 dsimp only [cfVal]
 dsimp only at h1 h2 h4
 have hfin:=K1 (code2 (zs:=zs) (c:=⟨sh,ra,mo,wo,ba,mi,st,bu,ch,wi,ca⟩) (by have:=betw_yes h1;dsimp only;omega) (by have:=betw_yes h1;dsimp only;omega) (by have:=betw_yes h2;dsimp only;omega) (by have:=betw_yes h2;dsimp only;omega) h3 (nums_st _ (by dsimp only;omega)))
 have hr1:RdI (w.alloc (.cells #[.slice A zs.length cap,.int .i64 sh,.int .i64 ra,.int .i64 mo,.int .i64 wo,.int .i64 ba,.int .i64 mi,.int .i64 st,.int .i64 bu,.int .i64 ch,.int .i64 wi,.int .i64 ca] 24)) (w.alloc (.cells #[.slice A zs.length cap,.int .i64 sh,.int .i64 ra,.int .i64 mo,.int .i64 wo,.int .i64 ba,.int .i64 mi,.int .i64 st,.int .i64 bu,.int .i64 ch,.int .i64 wi,.int .i64 ca] 24)).heap.size A zs :=
  (hr.alloc (Nat.le_refl _) _).more (by simp)
 have C:=K1 (refShape_any A cap zs _ hr1 hm)
 clear hr1
 have H3:=K1 h3
 clear h3
 go_enter Tryz.func52,Tryz.ntmps52
 go_wp2_with (first | (go_at_call 53;refine (between_any _ _ _ _).mono ?_;rintro e w' ⟨rfl,rfl⟩) | (go_at_call 89;refine C.out.mono ?_;rintro e w1 ⟨rfl,n1,rfl⟩;rw [H3.out]))
 go_ret
 exact ⟨ret_int hfin.out.symm,below_drewN (((Below.refl _ _).alloc (Nat.le_refl _) _).alloc (by simp) _) _⟩
theorem refConfB (A:Option Addr) (cap:Nat) (zs:List Int) (c:Cf) (w:World) (hr:RdI w w.heap.size A zs) (hm:zs.length≤9223372036854775807) (h1:betw c.wo 1 64=true) (h2:betw c.sh 1 62=true) (h3:shCode zs=0) (h4:¬ c.st<0) (h5:1048576<c.st) :
  Calls Tryz.prog 52 #[cfVal A zs.length cap c] w (CodedR w (confCode zs c)):=by
 obtain ⟨sh,ra,mo,wo,ba,mi,st,bu,ch,wi,ca⟩:=c
 dsimp only [cfVal]
 dsimp only at h1 h2 h4 h5
 have hfin:=K1 (code2 (zs:=zs) (c:=⟨sh,ra,mo,wo,ba,mi,st,bu,ch,wi,ca⟩) (by have:=betw_yes h1;dsimp only;omega) (by have:=betw_yes h1;dsimp only;omega) (by have:=betw_yes h2;dsimp only;omega) (by have:=betw_yes h2;dsimp only;omega) h3 (nums_st _ (by dsimp only;omega)))
 have hr1:RdI (w.alloc (.cells #[.slice A zs.length cap,.int .i64 sh,.int .i64 ra,.int .i64 mo,.int .i64 wo,.int .i64 ba,.int .i64 mi,.int .i64 st,.int .i64 bu,.int .i64 ch,.int .i64 wi,.int .i64 ca] 24)) (w.alloc (.cells #[.slice A zs.length cap,.int .i64 sh,.int .i64 ra,.int .i64 mo,.int .i64 wo,.int .i64 ba,.int .i64 mi,.int .i64 st,.int .i64 bu,.int .i64 ch,.int .i64 wi,.int .i64 ca] 24)).heap.size A zs :=
  (hr.alloc (Nat.le_refl _) _).more (by simp)
 have C:=K1 (refShape_any A cap zs _ hr1 hm)
 clear hr1
 have H3:=K1 h3
 clear h3
 go_enter Tryz.func52,Tryz.ntmps52
 go_wp2_with (first | (go_at_call 53;refine (between_any _ _ _ _).mono ?_;rintro e w' ⟨rfl,rfl⟩) | (go_at_call 89;refine C.out.mono ?_;rintro e w1 ⟨rfl,n1,rfl⟩;rw [H3.out]))
 go_ret
 exact ⟨ret_int hfin.out.symm,below_drewN (((Below.refl _ _).alloc (Nat.le_refl _) _).alloc (by simp) _) _⟩
theorem refConfL (A:Option Addr) (cap:Nat) (zs:List Int) (c:Cf) (w:World) (hr:RdI w w.heap.size A zs) (hm:zs.length≤9223372036854775807) (h1:betw c.wo 1 64=true) (h2:betw c.sh 1 62=true) (h3:shCode zs=0) (h4:¬ c.st<0) (h5:¬ 1048576<c.st) :
  Calls Tryz.prog 52 #[cfVal A zs.length cap c] w (CodedR w (confCode zs c)):=by
 obtain ⟨sh,ra,mo,wo,ba,mi,st,bu,ch,wi,ca⟩:=c
 dsimp only [cfVal]
 dsimp only at h1 h2 h4 h5
 have f2:Hid ((five ⟨sh,ra,mo,wo,ba,mi,st,bu,ch,wi,ca⟩).all okSz=false→confCode zs ⟨sh,ra,mo,wo,ba,mi,st,bu,ch,wi,ca⟩=2):=K1 fun hb=>code2 (zs:=zs) (c:=⟨sh,ra,mo,wo,ba,mi,st,bu,ch,wi,ca⟩) (by have:=betw_yes h1;dsimp only;omega) (by have:=betw_yes h1;dsimp only;omega) (by have:=betw_yes h2;dsimp only;omega) (by have:=betw_yes h2;dsimp only;omega) h3 (nums_five_no _ hb)
 have f7:Hid ((five ⟨sh,ra,mo,wo,ba,mi,st,bu,ch,wi,ca⟩).all okSz=true→betw ba wo 1048576=false→confCode zs ⟨sh,ra,mo,wo,ba,mi,st,bu,ch,wi,ca⟩=7) :=
  K1 fun hb h6=>code7 (zs:=zs) (c:=⟨sh,ra,mo,wo,ba,mi,st,bu,ch,wi,ca⟩) (by have:=betw_yes h1;dsimp only;omega) (by have:=betw_yes h1;dsimp only;omega) (by have:=betw_yes h2;dsimp only;omega) (by have:=betw_yes h2;dsimp only;omega) h3 (nums_five _ hb (by dsimp only;omega) (by dsimp only;omega)) (by have:=betw_no h6;dsimp only;omega)
 have f0:Hid ((five ⟨sh,ra,mo,wo,ba,mi,st,bu,ch,wi,ca⟩).all okSz=true→betw ba wo 1048576=true→confCode zs ⟨sh,ra,mo,wo,ba,mi,st,bu,ch,wi,ca⟩=0) :=
  K1 fun hb h6=>code0 (zs:=zs) (c:=⟨sh,ra,mo,wo,ba,mi,st,bu,ch,wi,ca⟩) (by have:=betw_yes h1;dsimp only;omega) (by have:=betw_yes h1;dsimp only;omega) (by have:=betw_yes h2;dsimp only;omega) (by have:=betw_yes h2;dsimp only;omega) h3 (nums_five _ hb (by dsimp only;omega) (by dsimp only;omega)) (by have:=betw_yes h6;dsimp only;omega) (by have:=betw_yes h6;dsimp only;omega)
 have hr1:RdI (w.alloc (.cells #[.slice A zs.length cap,.int .i64 sh,.int .i64 ra,.int .i64 mo,.int .i64 wo,.int .i64 ba,.int .i64 mi,.int .i64 st,.int .i64 bu,.int .i64 ch,.int .i64 wi,.int .i64 ca] 24)) (w.alloc (.cells #[.slice A zs.length cap,.int .i64 sh,.int .i64 ra,.int .i64 mo,.int .i64 wo,.int .i64 ba,.int .i64 mi,.int .i64 st,.int .i64 bu,.int .i64 ch,.int .i64 wi,.int .i64 ca] 24)).heap.size A zs :=
  (hr.alloc (Nat.le_refl _) _).more (by simp)
 have C:=K1 (refShape_any A cap zs _ hr1 hm)
 clear hr1
 have H3:=K1 h3
 clear h3
 go_enter Tryz.func52,Tryz.ntmps52
 go_wp2_with (first | (go_at_call 53;refine (between_any _ _ _ _).mono ?_;rintro e w' ⟨rfl,rfl⟩) | (go_at_call 89;refine C.out.mono ?_;rintro e w1 ⟨rfl,n1,rfl⟩;rw [H3.out]))
 have hX:=blk_alloc (w:=(w.alloc (.cells #[.slice A zs.length cap,.int .i64 sh,.int .i64 ra,.int .i64 mo,.int .i64 wo,.int .i64 ba,.int .i64 mi,.int .i64 st,.int .i64 bu,.int .i64 ch,.int .i64 wi,.int .i64 ca] 24)).drewN n1) (heap_alloc_new w (.cells #[.slice A zs.length cap,.int .i64 sh,.int .i64 ra,.int .i64 mo,.int .i64 wo,.int .i64 ba,.int .i64 mi,.int .i64 st,.int .i64 bu,.int .i64 ch,.int .i64 wi,.int .i64 ca] 24)) (.cells #[.int .i64 mi,.int .i64 bu,.int .i64 ch,.int .i64 wi,.int .i64 ca,.int .i64 (st+1)] 3)
 have hL:=heap_alloc_new ((w.alloc (.cells #[.slice A zs.length cap,.int .i64 sh,.int .i64 ra,.int .i64 mo,.int .i64 wo,.int .i64 ba,.int .i64 mi,.int .i64 st,.int .i64 bu,.int .i64 ch,.int .i64 wi,.int .i64 ca] 24)).drewN n1) (.cells #[.int .i64 mi,.int .i64 bu,.int .i64 ch,.int .i64 wi,.int .i64 ca,.int .i64 (st+1)] 3)
 have hB:Below w.heap.size w (((w.alloc (.cells #[.slice A zs.length cap,.int .i64 sh,.int .i64 ra,.int .i64 mo,.int .i64 wo,.int .i64 ba,.int .i64 mi,.int .i64 st,.int .i64 bu,.int .i64 ch,.int .i64 wi,.int .i64 ca] 24)).drewN n1).alloc (.cells #[.int .i64 mi,.int .i64 bu,.int .i64 ch,.int .i64 wi,.int .i64 ca,.int .i64 (st+1)] 3)):=(below_drewN ((Below.refl _ _).alloc (Nat.le_refl _) _) _).alloc (by simp) _
 rw [show ((w.alloc (.cells #[.slice A zs.length cap,.int .i64 sh,.int .i64 ra,.int .i64 mo,.int .i64 wo,.int .i64 ba,.int .i64 mi,.int .i64 st,.int .i64 bu,.int .i64 ch,.int .i64 wi,.int .i64 ca] 24)).drewN n1).heap.size=w.heap.size+1 from World.size_alloc _ _] at hL
 generalize ((w.alloc (.cells #[.slice A zs.length cap,.int .i64 sh,.int .i64 ra,.int .i64 mo,.int .i64 wo,.int .i64 ba,.int .i64 mi,.int .i64 st,.int .i64 bu,.int .i64 ch,.int .i64 wi,.int .i64 ca] 24)).drewN n1).alloc (.cells #[.int .i64 mi,.int .i64 bu,.int .i64 ch,.int .i64 wi,.int .i64 ca,.int .i64 (st+1)] 3)=W at *
 have HL:=K1 hL
 have c4:W.cell? ⟨w.heap.size,4,none⟩=some (.int .i64 wo):=blk_cell hX 4
 have c5:W.cell? ⟨w.heap.size,5,none⟩=some (.int .i64 ba):=blk_cell hX 5
 clear hL hX
 go_loop [5] (fun i=>∃ k:Nat,k≤5∧i=.int .i64 k∧Hid (((five ⟨sh,ra,mo,wo,ba,mi,st,bu,ch,wi,ca⟩).take k).all okSz=true)) (fun i=>5-(intOf i).toNat)
 case atStart=>exact ⟨0,Nat.zero_le _,rfl,K1 rfl⟩
 case round =>
  obtain ⟨k,hk,rfl,hall⟩:=hrel
  by_cases hlt:k<5
  · obtain ⟨z,hz⟩:=get_some (five ⟨sh,ra,mo,wo,ba,mi,st,bu,ch,wi,ca⟩) k hlt
    have c1:W.cell? ⟨w.heap.size+1,k,none⟩=some (.int .i64 z):=(blk_cell HL.out k).trans (five_cell ⟨sh,ra,mo,wo,ba,mi,st,bu,ch,wi,ca⟩ (st+1) k z hz)
    have HZ:=K1 hz
    clear hz
    cases hb:betw z 1 1048576
    · have hfin:=K1 (f2.out (not_all _ k z HZ.out hb))
      go_wp2_with (go_at_call 53;refine (between_any _ _ _ _).mono ?_;rintro e w' ⟨rfl,rfl⟩)
      go_ret
      exact ⟨ret_int hfin.out.symm,hB⟩
    · go_wp2_with (go_at_call 53;refine (between_any _ _ _ _).mono ?_;rintro e w' ⟨rfl,rfl⟩)
      go_round
      case rel=>exact ⟨k+1,by omega,by go_num,K1 (take_all _ k z HZ.out hall.out hb)⟩
      case measure=>simp [intOf];omega
  · have hall':Hid ((five ⟨sh,ra,mo,wo,ba,mi,st,bu,ch,wi,ca⟩).all okSz=true):=by
     have:=hall.out
     rw [List.take_of_length_le (by simp [five];omega)] at this
     exact K1 this
    cases hb:betw ba wo 1048576
    · have hfin:=K1 (f7.out hall'.out hb)
      go_wp2_with (go_at_call 53;refine (between_any _ _ _ _).mono ?_;rintro e w' ⟨rfl,rfl⟩)
      go_ret
      exact ⟨ret_int hfin.out.symm,hB⟩
    · have hfin:=K1 (f0.out hall'.out hb)
      go_wp2_with (go_at_call 53;refine (between_any _ _ _ _).mono ?_;rintro e w' ⟨rfl,rfl⟩)
      go_ret
      exact ⟨ret_int hfin.out.symm,hB⟩
theorem refConf_any (A:Option Addr) (cap:Nat) (zs:List Int) (c:Cf) (w:World) (hr:RdI w w.heap.size A zs) (hm:zs.length≤9223372036854775807) :
  Calls Tryz.prog 52 #[cfVal A zs.length cap c] w (CodedR w (confCode zs c)):=by
 cases h1:betw c.wo 1 64
 · exact refConf6 A cap zs c w h1
 cases h2:betw c.sh 1 62
 · exact refConf9 A cap zs c w h1 h2
 by_cases h3:shCode zs=0
 · by_cases h4:c.st<0
   · exact refConfA A cap zs c w hr hm h1 h2 h3 h4
   by_cases h5:1048576<c.st
   · exact refConfB A cap zs c w hr hm h1 h2 h3 h4 h5
   · exact refConfL A cap zs c w hr hm h1 h2 h3 h4 h5
 · exact refConfS A cap zs c w hr hm h1 h2 h3
theorem cf_all {A:Option Addr} {n cap g:Nat} {sh ra mo wo ba mi st bu ch wi ca:Int} {W:World} (hn:W.heap[g]?=some (.cells #[.slice A n cap,.int .i64 sh,.int .i64 ra,.int .i64 mo,.int .i64 wo,.int .i64 ba,.int .i64 mi,.int .i64 st,.int .i64 bu,.int .i64 ch,.int .i64 wi,.int .i64 ca] 24 (0,0))) :
  W.cell? ⟨g,0,none⟩=some (.slice A n cap)∧W.cell? ⟨g,1,none⟩=some (.int .i64 sh)∧W.cell? ⟨g,2,none⟩=some (.int .i64 ra)∧W.cell? ⟨g,3,none⟩=some (.int .i64 mo)∧W.cell? ⟨g,4,none⟩=some (.int .i64 wo)∧W.cell? ⟨g,5,none⟩=some (.int .i64 ba)∧W.cell? ⟨g,6,none⟩=some (.int .i64 mi)∧W.cell? ⟨g,7,none⟩=some (.int .i64 st)∧W.cell? ⟨g,8,none⟩=some (.int .i64 bu)∧W.cell? ⟨g,9,none⟩=some (.int .i64 ch)∧W.cell? ⟨g,10,none⟩=some (.int .i64 wi)∧W.cell? ⟨g,11,none⟩=some (.int .i64 ca):=by
 refine ⟨blk_cell hn 0,blk_cell hn 1,blk_cell hn 2,blk_cell hn 3,blk_cell hn 4,blk_cell hn 5,blk_cell hn 6,blk_cell hn 7,blk_cell hn 8,blk_cell hn 9,blk_cell hn 10,blk_cell hn 11⟩
theorem confCheck_flat (A:Option Addr) (cap:Nat) (zs:List Int) (sh ra mo wo ba mi st bu ch wi ca:Int) (w:World) (hr:RdI w w.heap.size A zs) (hcap:zs.length≤cap) (hm:zs.length≤9223372036854775807) :
  Calls Tryz.prog 58 #[.agg #[.slice A zs.length cap,.int .i64 sh,.int .i64 ra,.int .i64 mo,.int .i64 wo,.int .i64 ba,.int .i64 mi,.int .i64 st,.int .i64 bu,.int .i64 ch,.int .i64 wi,.int .i64 ca]] w (Coded w (confCode zs ⟨sh,0,0,wo,ba,mi,st,bu,ch,wi,ca⟩)) :=
 confCheck_any A cap zs ⟨sh,ra,mo,wo,ba,mi,st,bu,ch,wi,ca⟩ w hr hcap hm
theorem refConf_flat (A:Option Addr) (cap:Nat) (zs:List Int) (sh ra mo wo ba mi st bu ch wi ca:Int) (w:World) (hr:RdI w w.heap.size A zs) (hm:zs.length≤9223372036854775807) :
  Calls Tryz.prog 52 #[.agg #[.slice A zs.length cap,.int .i64 sh,.int .i64 ra,.int .i64 mo,.int .i64 wo,.int .i64 ba,.int .i64 mi,.int .i64 st,.int .i64 bu,.int .i64 ch,.int .i64 wi,.int .i64 ca]] w (CodedR w (confCode zs ⟨sh,0,0,wo,ba,mi,st,bu,ch,wi,ca⟩)) :=
 refConf_any A cap zs ⟨sh,ra,mo,wo,ba,mi,st,bu,ch,wi,ca⟩ w hr hm
end Go.Proofs.YtdpojpcoghcieaaGreat
namespace Go.Proofs.YtdpojpcoghcieaaGreat
def epo (k st ba n:Int):Int:=if k≠0∨n<ba∨1048576<n then 0 else (st+n / ba-1) / (n / ba)
theorem epo_no {k st ba n:Int} (h:k≠0∨n<ba∨1048576<n):epo k st ba n=0:=if_pos h
theorem epo_yes {k st ba n:Int} (h:¬ (k≠0∨n<ba∨1048576<n)):epo k st ba n=(st+n / ba-1) / (n / ba):=if_neg h
theorem ceil_of {s d e:Int} (hd:1≤d) (h1:s≤e*d) (h2:e=0∨(e-1)*d<s) (hs:0≤s):(s+d-1) / d=e:=by
 have hd0:(0:Int)<d:=by omega
 rcases h2 with rfl | h2
 · have:s=0:=by rw [Int.zero_mul] at h1;omega
   subst this
   rw [Int.ediv_eq_zero_of_lt (by omega) (by omega)]
 · have e1:(e-1)*d=e*d-d:=by rw [Int.sub_mul,Int.one_mul]
   have e2:(e+1)*d=e*d+d:=by rw [Int.add_mul,Int.one_mul]
   have a:e≤(s+d-1) / d:=(Int.le_ediv_iff_mul_le hd0).2 (by omega)
   have b:(s+d-1) / d<e+1:=(Int.ediv_lt_iff_lt_mul hd0).2 (by omega)
   omega
theorem quo_bd {n ba:Int} (h1:1≤ba) (h2:ba≤n) (h3:n≤1048576):1≤n / ba∧n / ba≤1048576:=by
 have a:1≤n / ba:=(Int.le_ediv_iff_mul_le (by omega)).2 (by omega)
 have b:=Int.ediv_le_self (a:=n) ba (by omega)
 omega
theorem epo_bd {k st ba n:Int} (h1:k=0→1≤ba) (hs:0≤st) (hs':st≤1048576):0≤epo k st ba n∧epo k st ba n≤2097152:=by
 by_cases h:k≠0∨n<ba∨1048576<n
 · rw [epo_no h];omega
 · rw [epo_yes h]
   have hq:=quo_bd (h1 (by omega)) (by omega:ba≤n) (by omega)
   have a:0≤(st+n / ba-1) / (n / ba):=Int.ediv_nonneg (by omega) (by omega)
   have b:=Int.ediv_le_self (a:=st+n / ba-1) (n / ba) (by omega)
   omega
theorem conf_zero {zs:List Int} {c:Cf} (h:confCode zs c=0):(0≤c.st∧c.st≤1048576)∧1≤c.ba∧c.ba≤1048576∧shCode zs=0:=by
 unfold confCode at h
 split at h
 · cases h
 split at h
 · cases h
 split at h
 · omega
 split at h
 · cases h
 split at h
 · cases h
 rename_i h1 h2 h3 h4 h5
 have hn:numsOk c=true:=by simpa using h4
 simp only [numsOk,Bool.and_eq_true,Bool.or_eq_true,decide_eq_true_eq] at hn
 have hst:=hn.2
 have:c.st=0∨(1≤c.st∧c.st≤1048576):=by
  rcases hst with e | e
  · exact .inl e
  · exact .inr (okSz_iff.1 e)
 have h3':shCode zs=0:=by
  by_cases e:shCode zs=0
  · exact e
  · exact absurd e h3
 exact ⟨by omega,by omega,by omega,h3'⟩
end Go.Proofs.YtdpojpcoghcieaaGreat
namespace Go.Proofs.YtdpojpcoghcieaaGreat
open Lib renaming hid → K1
open Go.RowKit
theorem epochs_any (A:Option Addr) (cap:Nat) (zs:List Int) (sh ra mo wo ba mi st bu ch wi ca n:Int) (w:World) (hr:RdI w w.heap.size A zs) (hcap:zs.length≤cap) (hm:zs.length≤9223372036854775807) :
  Calls Tryz.prog 102 #[.agg #[.slice A zs.length cap,.int .i64 sh,.int .i64 ra,.int .i64 mo,.int .i64 wo,.int .i64 ba,.int .i64 mi,.int .i64 st,.int .i64 bu,.int .i64 ch,.int .i64 wi,.int .i64 ca],.int .i64 n] w (Coded w (epo (confCode zs ⟨sh,0,0,wo,ba,mi,st,bu,ch,wi,ca⟩) st ba n)):=by
 have hb0:Below w.heap.size w (w.alloc (.cells #[.slice A zs.length cap,.int .i64 sh,.int .i64 ra,.int .i64 mo,.int .i64 wo,.int .i64 ba,.int .i64 mi,.int .i64 st,.int .i64 bu,.int .i64 ch,.int .i64 wi,.int .i64 ca] 24)):=(Below.refl _ _).alloc (Nat.le_refl _) _
 have hX:=heap_alloc_new w (.cells #[.slice A zs.length cap,.int .i64 sh,.int .i64 ra,.int .i64 mo,.int .i64 wo,.int .i64 ba,.int .i64 mi,.int .i64 st,.int .i64 bu,.int .i64 ch,.int .i64 wi,.int .i64 ca] 24)
 have C:=confCheck_flat A cap zs sh ra mo wo ba mi st bu ch wi ca _ ((hr.below hb0).more hb0.size) hcap hm
 have Z:=conf_zero (zs:=zs) (c:=⟨sh,0,0,wo,ba,mi,st,bu,ch,wi,ca⟩)
 dsimp only at Z
 generalize confCode zs ⟨sh,0,0,wo,ba,mi,st,bu,ch,wi,ca⟩=k at *
 have HC:=K1 C
 have HX:=K1 hX
 have HZ:=K1 Z
 clear C hX Z
 by_cases hk:k=0
 · subst hk
   obtain ⟨hst,hba,hba',_⟩:=HZ.out rfl
   by_cases h1:n<ba
   · have hfin:=K1 (epo_no (k:=0) (st:=st) (ba:=ba) (n:=n) (.inr (.inl h1)))
     go_enter Tryz.func102,Tryz.ntmps102
     go_wp2_with fail
     refine HC.out.mono ?_
     rintro e w1 ⟨rfl,hb1⟩
     have HX1:=K1 (blk_below HX.out hb1 (by simp))
     obtain ⟨c0,c1,c2,c3,c4,c5,c6,c7,c8,c9,c10,c11⟩:=cf_all HX1.out
     go_wp2
     go_ret
     exact ⟨ret_int hfin.out.symm,hb0.trans (hb1.mono hb0.size)⟩
   by_cases h2:1048576<n
   · have hfin:=K1 (epo_no (k:=0) (st:=st) (ba:=ba) (n:=n) (.inr (.inr h2)))
     go_enter Tryz.func102,Tryz.ntmps102
     go_wp2_with fail
     refine HC.out.mono ?_
     rintro e w1 ⟨rfl,hb1⟩
     have HX1:=K1 (blk_below HX.out hb1 (by simp))
     obtain ⟨c0,c1,c2,c3,c4,c5,c6,c7,c8,c9,c10,c11⟩:=cf_all HX1.out
     go_wp2
     go_ret
     exact ⟨ret_int hfin.out.symm,hb0.trans (hb1.mono hb0.size)⟩
   · have hfin:=K1 (epo_yes (k:=0) (st:=st) (ba:=ba) (n:=n) (by omega))
     have hq:=quo_bd (n:=n) hba (by omega) (by omega)
     go_enter Tryz.func102,Tryz.ntmps102
     go_wp2_with fail
     refine HC.out.mono ?_
     rintro e w1 ⟨rfl,hb1⟩
     have HX1:=K1 (blk_below HX.out hb1 (by simp))
     obtain ⟨c0,c1,c2,c3,c4,c5,c6,c7,c8,c9,c10,c11⟩:=cf_all HX1.out
     go_wp2
     go_ret
     exact ⟨ret_int hfin.out.symm,hb0.trans (hb1.mono hb0.size)⟩
 · have hfin:=K1 (epo_no (k:=k) (st:=st) (ba:=ba) (n:=n) (.inl hk))
   have hk':(k != 0)=true:=by simpa using hk
   go_enter Tryz.func102,Tryz.ntmps102
   go_wp2_with fail
   refine HC.out.mono ?_
   rintro e w1 ⟨rfl,hb1⟩
   have HX1:=K1 (blk_below HX.out hb1 (by simp))
   obtain ⟨c0,c1,c2,c3,c4,c5,c6,c7,c8,c9,c10,c11⟩:=cf_all HX1.out
   go_wp2
   go_ret
   exact ⟨ret_int hfin.out.symm,hb0.trans (hb1.mono hb0.size)⟩
theorem refEpochs_any (A:Option Addr) (cap:Nat) (zs:List Int) (sh ra mo wo ba mi st bu ch wi ca n:Int) (w:World) (hr:RdI w w.heap.size A zs) (hm:zs.length≤9223372036854775807) :
  Calls Tryz.prog 90 #[.agg #[.slice A zs.length cap,.int .i64 sh,.int .i64 ra,.int .i64 mo,.int .i64 wo,.int .i64 ba,.int .i64 mi,.int .i64 st,.int .i64 bu,.int .i64 ch,.int .i64 wi,.int .i64 ca],.int .i64 n] w (Coded w (epo (confCode zs ⟨sh,0,0,wo,ba,mi,st,bu,ch,wi,ca⟩) st ba n)):=by
 have hb0:Below w.heap.size w (w.alloc (.cells #[.slice A zs.length cap,.int .i64 sh,.int .i64 ra,.int .i64 mo,.int .i64 wo,.int .i64 ba,.int .i64 mi,.int .i64 st,.int .i64 bu,.int .i64 ch,.int .i64 wi,.int .i64 ca] 24)):=(Below.refl _ _).alloc (Nat.le_refl _) _
 have hX:=heap_alloc_new w (.cells #[.slice A zs.length cap,.int .i64 sh,.int .i64 ra,.int .i64 mo,.int .i64 wo,.int .i64 ba,.int .i64 mi,.int .i64 st,.int .i64 bu,.int .i64 ch,.int .i64 wi,.int .i64 ca] 24)
 have C:=refConf_flat A cap zs sh ra mo wo ba mi st bu ch wi ca _ ((hr.below hb0).more hb0.size) hm
 have Z:=conf_zero (zs:=zs) (c:=⟨sh,0,0,wo,ba,mi,st,bu,ch,wi,ca⟩)
 dsimp only at Z
 generalize confCode zs ⟨sh,0,0,wo,ba,mi,st,bu,ch,wi,ca⟩=k at *
 have HC:=K1 C
 have HX:=K1 hX
 have HZ:=K1 Z
 clear C hX Z
 by_cases hk:k=0
 · subst hk
   obtain ⟨hst,hba,hba',_⟩:=HZ.out rfl
   cases h1:betw n ba 1048576
   · have hfin:=K1 (epo_no (k:=0) (st:=st) (ba:=ba) (n:=n) (by have:=betw_no h1;omega))
     go_enter Tryz.func90,Tryz.ntmps90
     go_wp2_with fail
     refine HC.out.mono ?_
     rintro e w1 ⟨rfl,hb1⟩
     have HX1:=K1 (blk_below HX.out hb1 (by simp))
     obtain ⟨c0,c1,c2,c3,c4,c5,c6,c7,c8,c9,c10,c11⟩:=cf_all HX1.out
     go_wp2_with (go_at_call 53;refine (between_any _ _ _ _).mono ?_;rintro e w' ⟨rfl,rfl⟩)
     go_ret
     exact ⟨ret_int hfin.out.symm,hb0.trans (hb1.mono hb0.size)⟩
   · have hy:=betw_yes h1
     have hfin:=K1 (epo_yes (k:=0) (st:=st) (ba:=ba) (n:=n) (by omega))
     have hq:=quo_bd (n:=n) hba hy.1 hy.2
     go_enter Tryz.func90,Tryz.ntmps90
     go_wp2_with fail
     refine HC.out.mono ?_
     rintro e w1 ⟨rfl,hb1⟩
     have HX1:=K1 (blk_below HX.out hb1 (by simp))
     obtain ⟨c0,c1,c2,c3,c4,c5,c6,c7,c8,c9,c10,c11⟩:=cf_all HX1.out
     go_wp2_with (go_at_call 53;refine (between_any _ _ _ _).mono ?_;rintro e w' ⟨rfl,rfl⟩)
     go_loop [5,6] (fun e s=>∃ x y:Int,e=.int .i64 x∧s=.int .i64 y∧0≤x∧x≤y∧y≤2097152∧Hid (y=x*(n / ba))∧Hid (x=0∨(x-1)*(n / ba)<st)) (fun _ s=>(st-intOf s).toNat)
     case atStart=>exact ⟨0,0,rfl,rfl,by omega,by omega,by omega,K1 (by simp),K1 (.inl rfl)⟩
     case round =>
      obtain ⟨x,y,rfl,rfl,hx0,hxy,hy2,hm1,hm2⟩:=hrel
      by_cases hlt:y<st
      · go_wp2
        go_round
        case rel=>exact ⟨x+1,y+n / ba,rfl,rfl,by omega,by omega,by omega,K1 (by rw [hm1.out,Int.add_mul,Int.one_mul]),K1 (.inr (by rw [Int.add_sub_cancel,← hm1.out];exact hlt))⟩
        case measure=>simp only [intOf];omega
      · have hce:Hid ((st+n / ba-1) / (n / ba)=x):=K1 (ceil_of hq.1 (by rw [← hm1.out];omega) hm2.out hst.1)
        go_wp2
        go_ret
        exact ⟨ret_int (by rw [hfin.out,hce.out]),hb0.trans (hb1.mono hb0.size)⟩
 · have hfin:=K1 (epo_no (k:=k) (st:=st) (ba:=ba) (n:=n) (.inl hk))
   have hk':(k != 0)=true:=by simpa using hk
   go_enter Tryz.func90,Tryz.ntmps90
   go_wp2_with fail
   refine HC.out.mono ?_
   rintro e w1 ⟨rfl,hb1⟩
   have HX1:=K1 (blk_below HX.out hb1 (by simp))
   obtain ⟨c0,c1,c2,c3,c4,c5,c6,c7,c8,c9,c10,c11⟩:=cf_all HX1.out
   go_wp2_with (go_at_call 53;refine (between_any _ _ _ _).mono ?_;rintro e w' ⟨rfl,rfl⟩)
   go_ret
   exact ⟨ret_int hfin.out.symm,hb0.trans (hb1.mono hb0.size)⟩
def SomeInt (w:World) (e:Ending) (w':World):Prop:=∃ x:Int,e=.returned (.int .i64 x)∧w=w'
theorem permNeed_pos (n:Int) (w:World) (h:1≤n) (h':n≤1048576):Calls Tryz.prog 103 #[.int .i64 n] w fun e w'=>e=.returned (.int .i64 (n-1))∧w=w':=by
 go_enter Tryz.func103,Tryz.ntmps103
 go_wp2
 all_goals (go_ret;exact ⟨ret_int (by omega),rfl⟩)
theorem permNeed_some (n:Int) (w:World):Calls Tryz.prog 103 #[.int .i64 n] w (SomeInt w):=by
 go_enter Tryz.func103,Tryz.ntmps103
 go_wp2
 all_goals (go_ret;exact ⟨_,rfl,rfl⟩)
theorem refPermNeed_pos (n:Int) (w:World) (h:1≤n) (h':n≤1048576):Calls Tryz.prog 91 #[.int .i64 n] w fun e w'=>e=.returned (.int .i64 (n-1))∧w=w':=by
 go_enter Tryz.func91,Tryz.ntmps91
 go_wp2
 go_ret
 exact ⟨rfl,rfl⟩
theorem refPermNeed_some (n:Int) (w:World):Calls Tryz.prog 91 #[.int .i64 n] w (SomeInt w):=by
 by_cases h:n<1
 all_goals
  go_enter Tryz.func91,Tryz.ntmps91
  go_wp2
  go_ret
  exact ⟨_,rfl,rfl⟩
def nee (k st ba n:Int):Int:=epo k st ba n*(n-1)
theorem nee_bd {e n:Int} (h0:0≤e) (h1:e≤2097152) (hn:1≤n) (hn':n≤1048576):0≤e*(n-1)∧e*(n-1)≤2199023255552 :=
 ⟨Int.mul_nonneg h0 (by omega),by
  have h:e*(n-1)≤2097152*1048576:=Int.mul_le_mul h1 (by omega) (by omega) (by omega)
  omega⟩
theorem need_any (A:Option Addr) (cap:Nat) (zs:List Int) (sh ra mo wo ba mi st bu ch wi ca n:Int) (w:World) (hr:RdI w w.heap.size A zs) (hcap:zs.length≤cap) (hm:zs.length≤9223372036854775807) :
  Calls Tryz.prog 62 #[.agg #[.slice A zs.length cap,.int .i64 sh,.int .i64 ra,.int .i64 mo,.int .i64 wo,.int .i64 ba,.int .i64 mi,.int .i64 st,.int .i64 bu,.int .i64 ch,.int .i64 wi,.int .i64 ca],.int .i64 n] w (Coded w (nee (confCode zs ⟨sh,0,0,wo,ba,mi,st,bu,ch,wi,ca⟩) st ba n)):=by
 have hb0:Below w.heap.size w (w.alloc (.cells #[.slice A zs.length cap,.int .i64 sh,.int .i64 ra,.int .i64 mo,.int .i64 wo,.int .i64 ba,.int .i64 mi,.int .i64 st,.int .i64 bu,.int .i64 ch,.int .i64 wi,.int .i64 ca] 24)):=(Below.refl _ _).alloc (Nat.le_refl _) _
 have C:=epochs_any A cap zs sh ra mo wo ba mi st bu ch wi ca n _ ((hr.below hb0).more hb0.size) hcap hm
 have Z:=conf_zero (zs:=zs) (c:=⟨sh,0,0,wo,ba,mi,st,bu,ch,wi,ca⟩)
 dsimp only at Z
 generalize confCode zs ⟨sh,0,0,wo,ba,mi,st,bu,ch,wi,ca⟩=k at *
 by_cases h:k≠0∨n<ba∨1048576<n
 · rw [epo_no h] at C
   have hfin:Hid (nee k st ba n=0):=K1 (by unfold nee;rw [epo_no h,Int.zero_mul])
   have HC:=K1 C
   clear C Z h
   go_enter Tryz.func62,Tryz.ntmps62
   go_wp2_with fail
   refine HC.out.mono ?_
   rintro e w1 ⟨rfl,hb1⟩
   go_wp2_with (go_at_call 103;refine (permNeed_some _ _).mono ?_;rintro e w2 ⟨x,rfl,rfl⟩)
   go_ret
   exact ⟨ret_int hfin.out.symm,hb0.trans (hb1.mono hb0.size)⟩
 · have hz:=Z (by omega)
   have hbd:=epo_bd (k:=k) (st:=st) (ba:=ba) (n:=n) (fun _=>hz.2.1) hz.1.1 hz.1.2
   have hn1:1≤n:=by omega
   have hn2:n≤1048576:=by omega
   unfold nee
   generalize epo k st ba n=E at *
   have bm:=nee_bd hbd.1 hbd.2 hn1 hn2
   have HC:=K1 C
   clear C Z h
   go_enter Tryz.func62,Tryz.ntmps62
   go_wp2_with fail
   refine HC.out.mono ?_
   rintro e w1 ⟨rfl,hb1⟩
   go_wp2_with (go_at_call 103;refine (permNeed_pos _ _ hn1 hn2).mono ?_;rintro e w2 ⟨rfl,rfl⟩)
   go_ret
   exact ⟨rfl,hb0.trans (hb1.mono hb0.size)⟩
theorem refNeed_any (A:Option Addr) (cap:Nat) (zs:List Int) (sh ra mo wo ba mi st bu ch wi ca n:Int) (w:World) (hr:RdI w w.heap.size A zs) (hm:zs.length≤9223372036854775807) :
  Calls Tryz.prog 56 #[.agg #[.slice A zs.length cap,.int .i64 sh,.int .i64 ra,.int .i64 mo,.int .i64 wo,.int .i64 ba,.int .i64 mi,.int .i64 st,.int .i64 bu,.int .i64 ch,.int .i64 wi,.int .i64 ca],.int .i64 n] w (Coded w (nee (confCode zs ⟨sh,0,0,wo,ba,mi,st,bu,ch,wi,ca⟩) st ba n)):=by
 have hb0:Below w.heap.size w (w.alloc (.cells #[.slice A zs.length cap,.int .i64 sh,.int .i64 ra,.int .i64 mo,.int .i64 wo,.int .i64 ba,.int .i64 mi,.int .i64 st,.int .i64 bu,.int .i64 ch,.int .i64 wi,.int .i64 ca] 24)):=(Below.refl _ _).alloc (Nat.le_refl _) _
 have C:=refEpochs_any A cap zs sh ra mo wo ba mi st bu ch wi ca n _ ((hr.below hb0).more hb0.size) hm
 have Z:=conf_zero (zs:=zs) (c:=⟨sh,0,0,wo,ba,mi,st,bu,ch,wi,ca⟩)
 dsimp only at Z
 generalize confCode zs ⟨sh,0,0,wo,ba,mi,st,bu,ch,wi,ca⟩=k at *
 by_cases h:k≠0∨n<ba∨1048576<n
 · rw [epo_no h] at C
   have hfin:Hid (nee k st ba n=0):=K1 (by unfold nee;rw [epo_no h,Int.zero_mul])
   have HC:=K1 C
   clear C Z h
   go_enter Tryz.func56,Tryz.ntmps56
   go_wp2_with fail
   refine HC.out.mono ?_
   rintro e w1 ⟨rfl,hb1⟩
   go_wp2_with (go_at_call 91;refine (refPermNeed_some _ _).mono ?_;rintro e w2 ⟨x,rfl,rfl⟩)
   go_ret
   exact ⟨ret_int hfin.out.symm,hb0.trans (hb1.mono hb0.size)⟩
 · have hz:=Z (by omega)
   have hbd:=epo_bd (k:=k) (st:=st) (ba:=ba) (n:=n) (fun _=>hz.2.1) hz.1.1 hz.1.2
   have hn1:1≤n:=by omega
   have hn2:n≤1048576:=by omega
   unfold nee
   generalize epo k st ba n=E at *
   have bm:=nee_bd hbd.1 hbd.2 hn1 hn2
   have HC:=K1 C
   clear C Z h
   go_enter Tryz.func56,Tryz.ntmps56
   go_wp2_with fail
   refine HC.out.mono ?_
   rintro e w1 ⟨rfl,hb1⟩
   go_wp2_with (go_at_call 91;refine (refPermNeed_pos _ _ hn1 hn2).mono ?_;rintro e w2 ⟨rfl,rfl⟩)
   go_ret
   exact ⟨rfl,hb0.trans (hb1.mono hb0.size)⟩
end Go.Proofs.YtdpojpcoghcieaaGreat
