/- A part of the proof of TopSerial: ConfNeedA, DataCheck, ConfInput. Conditions: none. -/
import Derived.Test.YtdpojpcoghcieaaGreatSdBD
set_option maxHeartbeats 8000000
namespace Go.Proofs.YtdpojpcoghcieaaGreat
open Lib renaming hid → K1
open Go.RowKit
def SomeInt (w:World) (e:Ending) (w':World):Prop:=∃ x:Int,e=.returned (.int .i64 x)∧w=w'
theorem permNeed_pos (n:Int) (w:World) (h:1≤n) (h':n≤1048576):Calls Tryz.prog 103 #[.int .i64 n] w fun e w'=>e=.returned (.int .i64 (n-1))∧w=w':=by
 go_enter Tryz.func103,Tryz.ntmps103
 go_wp2
 all_goals (go_ret;exact ⟨ret_int (by omega),rfl⟩)
theorem permNeed_some (n:Int) (w:World):Calls Tryz.prog 103 #[.int .i64 n] w (SomeInt w):=by
 go_enter Tryz.func103,Tryz.ntmps103
 go_wp2
 all_goals (go_ret;exact ⟨_,rfl,rfl⟩)
theorem refPermNeed_pos (n:Int) (w:World) (h:1≤n) (h':n≤1048576):Calls Tryz.prog 91 #[.int .i64 n] w fun e w'=>e=.returned (.int .i64 (n-1))∧w=w':=by
 go_enter Tryz.func91,Tryz.ntmps91
 go_wp2
 go_ret
 exact ⟨rfl,rfl⟩
theorem refPermNeed_some (n:Int) (w:World):Calls Tryz.prog 91 #[.int .i64 n] w (SomeInt w):=by
 by_cases h:n<1
 all_goals
  go_enter Tryz.func91,Tryz.ntmps91
  go_wp2
  go_ret
  exact ⟨_,rfl,rfl⟩
def nee (k st ba n:Int):Int:=epo k st ba n*(n-1)
theorem nee_bd {e n:Int} (h0:0≤e) (h1:e≤2097152) (hn:1≤n) (hn':n≤1048576):0≤e*(n-1)∧e*(n-1)≤2199023255552 :=
 ⟨Int.mul_nonneg h0 (by omega),by
  have h:e*(n-1)≤2097152*1048576:=Int.mul_le_mul h1 (by omega) (by omega) (by omega)
  omega⟩
theorem need_any (A:Option Addr) (cap:Nat) (zs:List Int) (sh ra mo wo ba mi st bu ch wi ca n:Int) (w:World) (hr:RdI w w.heap.size A zs) (hcap:zs.length≤cap) (hm:zs.length≤9223372036854775807) :
  Calls Tryz.prog 62 #[.agg #[.slice A zs.length cap,.int .i64 sh,.int .i64 ra,.int .i64 mo,.int .i64 wo,.int .i64 ba,.int .i64 mi,.int .i64 st,.int .i64 bu,.int .i64 ch,.int .i64 wi,.int .i64 ca],.int .i64 n] w (Coded w (nee (confCode zs ⟨sh,0,0,wo,ba,mi,st,bu,ch,wi,ca⟩) st ba n)):=by
 have hb0:Below w.heap.size w (w.alloc (.cells #[.slice A zs.length cap,.int .i64 sh,.int .i64 ra,.int .i64 mo,.int .i64 wo,.int .i64 ba,.int .i64 mi,.int .i64 st,.int .i64 bu,.int .i64 ch,.int .i64 wi,.int .i64 ca] 24)):=(Below.refl _ _).alloc (Nat.le_refl _) _
 have C:=epochs_any A cap zs sh ra mo wo ba mi st bu ch wi ca n _ ((hr.below hb0).more hb0.size) hcap hm
 have Z:=conf_zero (zs:=zs) (c:=⟨sh,0,0,wo,ba,mi,st,bu,ch,wi,ca⟩)
 dsimp only at Z
 generalize confCode zs ⟨sh,0,0,wo,ba,mi,st,bu,ch,wi,ca⟩=k at *
 by_cases h:k≠0∨n<ba∨1048576<n
 · rw [epo_no h] at C
   have hfin:Hid (nee k st ba n=0):=K1 (by unfold nee;rw [epo_no h,Int.zero_mul])
   have HC:=K1 C
   clear C Z h
   go_enter Tryz.func62,Tryz.ntmps62
   go_wp2_with fail
   refine HC.out.mono ?_
   rintro e w1 ⟨rfl,hb1⟩
   go_wp2_with (go_at_call 103;refine (permNeed_some _ _).mono ?_;rintro e w2 ⟨x,rfl,rfl⟩)
   go_ret
   exact ⟨ret_int hfin.out.symm,hb0.trans (hb1.mono hb0.size)⟩
 · have hz:=Z (by omega)
   have hbd:=epo_bd (k:=k) (st:=st) (ba:=ba) (n:=n) (fun _=>hz.2.1) hz.1.1 hz.1.2
   have hn1:1≤n:=by omega
   have hn2:n≤1048576:=by omega
   unfold nee
   generalize epo k st ba n=E at *
   have bm:=nee_bd hbd.1 hbd.2 hn1 hn2
   have HC:=K1 C
   clear C Z h
   go_enter Tryz.func62,Tryz.ntmps62
   go_wp2_with fail
   refine HC.out.mono ?_
   rintro e w1 ⟨rfl,hb1⟩
   go_wp2_with (go_at_call 103;refine (permNeed_pos _ _ hn1 hn2).mono ?_;rintro e w2 ⟨rfl,rfl⟩)
   go_ret
   exact ⟨rfl,hb0.trans (hb1.mono hb0.size)⟩
theorem refNeed_any (A:Option Addr) (cap:Nat) (zs:List Int) (sh ra mo wo ba mi st bu ch wi ca n:Int) (w:World) (hr:RdI w w.heap.size A zs) (hm:zs.length≤9223372036854775807) :
  Calls Tryz.prog 56 #[.agg #[.slice A zs.length cap,.int .i64 sh,.int .i64 ra,.int .i64 mo,.int .i64 wo,.int .i64 ba,.int .i64 mi,.int .i64 st,.int .i64 bu,.int .i64 ch,.int .i64 wi,.int .i64 ca],.int .i64 n] w (Coded w (nee (confCode zs ⟨sh,0,0,wo,ba,mi,st,bu,ch,wi,ca⟩) st ba n)):=by
 have hb0:Below w.heap.size w (w.alloc (.cells #[.slice A zs.length cap,.int .i64 sh,.int .i64 ra,.int .i64 mo,.int .i64 wo,.int .i64 ba,.int .i64 mi,.int .i64 st,.int .i64 bu,.int .i64 ch,.int .i64 wi,.int .i64 ca] 24)):=(Below.refl _ _).alloc (Nat.le_refl _) _
 have C:=refEpochs_any A cap zs sh ra mo wo ba mi st bu ch wi ca n _ ((hr.below hb0).more hb0.size) hm
 have Z:=conf_zero (zs:=zs) (c:=⟨sh,0,0,wo,ba,mi,st,bu,ch,wi,ca⟩)
 dsimp only at Z
 generalize confCode zs ⟨sh,0,0,wo,ba,mi,st,bu,ch,wi,ca⟩=k at *
 by_cases h:k≠0∨n<ba∨1048576<n
 · rw [epo_no h] at C
   have hfin:Hid (nee k st ba n=0):=K1 (by unfold nee;rw [epo_no h,Int.zero_mul])
   have HC:=K1 C
   clear C Z h
   go_enter Tryz.func56,Tryz.ntmps56
   go_wp2_with fail
   refine HC.out.mono ?_
   rintro e w1 ⟨rfl,hb1⟩
   go_wp2_with (go_at_call 91;refine (refPermNeed_some _ _).mono ?_;rintro e w2 ⟨x,rfl,rfl⟩)
   go_ret
   exact ⟨ret_int hfin.out.symm,hb0.trans (hb1.mono hb0.size)⟩
 · have hz:=Z (by omega)
   have hbd:=epo_bd (k:=k) (st:=st) (ba:=ba) (n:=n) (fun _=>hz.2.1) hz.1.1 hz.1.2
   have hn1:1≤n:=by omega
   have hn2:n≤1048576:=by omega
   unfold nee
   generalize epo k st ba n=E at *
   have bm:=nee_bd hbd.1 hbd.2 hn1 hn2
   have HC:=K1 C
   clear C Z h
   go_enter Tryz.func56,Tryz.ntmps56
   go_wp2_with fail
   refine HC.out.mono ?_
   rintro e w1 ⟨rfl,hb1⟩
   go_wp2_with (go_at_call 91;refine (refPermNeed_pos _ _ hn1 hn2).mono ?_;rintro e w2 ⟨rfl,rfl⟩)
   go_ret
   exact ⟨rfl,hb0.trans (hb1.mono hb0.size)⟩
def Asked (w:World) (b:Bool) (e:Ending) (w':World):Prop:=e=.returned (.bool b)∧Below w.heap.size w w'
theorem bad_x {inn out:Int} {e:Ex} (h:¬ (e.xs.length:Int)=inn):exBad inn out e=true:=by simp [exBad,h]
theorem bad_y {inn out:Int} {e:Ex} (h:¬ (e.ys.length:Int)=out):exBad inn out e=true:=by simp [exBad,h]
theorem bad_no {inn out:Int} {e:Ex} (h:(e.xs.length:Int)=inn) (h':(e.ys.length:Int)=out):exBad inn out e=false:=by simp [exBad,h,h']
theorem lens_any (inn out:Int) (ex:Ex) (b1 b2:Nat) (w:World) (h1:w.cell? ⟨b1,0,none⟩=some (.int .i64 inn)) (h2:w.cell? ⟨b2,0,none⟩=some (.int .i64 out)) :
  Calls Tryz.prog 101 #[ex.val,.pointer (some ⟨b1,0,none⟩),.pointer (some ⟨b2,0,none⟩)] w (Asked w (exBad inn out ex)):=by
 have l1:=World.block_lt_of_cell? w _ h1
 have l2:=World.block_lt_of_cell? w _ h2
 dsimp only at l1 l2
 have hx:=fun h=>bad_x (out:=out) (e:=ex) (inn:=inn) h
 have hy:=fun h=>bad_y (out:=out) (e:=ex) (inn:=inn) h
 have hn:=fun h h'=>bad_no (out:=out) (e:=ex) (inn:=inn) h h'
 obtain ⟨ax,xs,cx,ay,ys,cy⟩:=ex
 dsimp only [Ex.val] at hx hy hn ⊢
 generalize exBad inn out ⟨ax,xs,cx,ay,ys,cy⟩=bb at *
 have Hx:=K1 hx
 have Hy:=K1 hy
 have Hn:=K1 hn
 clear hx hy hn
 by_cases e1:(xs.length:Int)=inn
 · have k1:((xs.length:Int) != inn)=false:=by simpa using e1
   by_cases e2:(ys.length:Int)=out
   · have k2:((ys.length:Int) != out)=false:=by simpa using e2
     have hb:=K1 (Hn.out e1 e2)
     clear e1 e2
     go_enter Tryz.func101,Tryz.ntmps101
     go_wp2
     go_ret
     exact ⟨ret_bool hb.out.symm,(Below.refl _ _).alloc (Nat.le_refl _) _⟩
   · have k2:((ys.length:Int) != out)=true:=by simpa using e2
     have hb:=K1 (Hy.out e2)
     clear e1 e2
     go_enter Tryz.func101,Tryz.ntmps101
     go_wp2
     go_ret
     exact ⟨ret_bool hb.out.symm,(Below.refl _ _).alloc (Nat.le_refl _) _⟩
 · have k1:((xs.length:Int) != inn)=true:=by simpa using e1
   have hb:=K1 (Hx.out e1)
   clear e1
   go_enter Tryz.func101,Tryz.ntmps101
   go_wp2
   go_ret
   exact ⟨ret_bool hb.out.symm,(Below.refl _ _).alloc (Nat.le_refl _) _⟩
theorem findEx_any (inn out:Int) (A:Option Addr) (cap:Nat) (l:List Ex) (b1 b2:Nat) (w:World) (hr:RdE w w.heap.size A l) (hm:l.length≤9223372036854775807)
  (h1:w.cell? ⟨b1,0,none⟩=some (.int .i64 inn)) (h2:w.cell? ⟨b2,0,none⟩=some (.int .i64 out)) :
  Calls Tryz.prog 100 #[.slice A l.length cap,.func (.func 101) #[] #[.pointer (some ⟨b1,0,none⟩),.pointer (some ⟨b2,0,none⟩)]] w
   fun e w'=>(exFits inn out l=true→e=.returned (.int .i64 (-1)))∧(exFits inn out l=false→e=.returned (.int .i64 (exIdx inn out l)))∧Below w.heap.size w w':=by
 have l1:=World.block_lt_of_cell? w _ h1
 have l2:=World.block_lt_of_cell? w _ h2
 dsimp only at l1 l2
 have H1:=K1 h1
 have H2:=K1 h2
 clear h1 h2
 go_enter Tryz.func100,Tryz.ntmps100
 go_wp2
 go_loopw [5,8] (fun _ i wr=>∃ k:Nat,k≤l.length∧i=.int .i64 k∧Hid (exFits inn out (l.take k)=true)∧Below w.heap.size w wr) (fun _ i _=>l.length-(intOf i).toNat)
 case atStart=>exact ⟨0,Nat.zero_le _,rfl,K1 rfl,Below.refl _ _⟩
 case round =>
  obtain ⟨k,hk,rfl,hfit,hbr⟩:=hrel
  by_cases hlt:k<l.length
  · obtain ⟨b,off,rfl,hb,hc⟩:=hr.at_ (by omega)
    obtain ⟨ex,hex⟩:=get_some l k hlt
    have c1:wr.cell? ⟨b,off+k*2,none⟩=some (.slice ex.ax ex.xs.length ex.cx):=(hbr.cell (p:=⟨b,off+k*2,none⟩) hb).trans (hc k ex hex).1
    have c2:wr.cell? ⟨b,off+k*2+1,none⟩=some (.slice ex.ay ex.ys.length ex.cy):=(hbr.cell (p:=⟨b,off+k*2+1,none⟩) hb).trans (hc k ex hex).2
    have h1':wr.cell? ⟨b1,0,none⟩=some (.int .i64 inn):=(hbr.cell (p:=⟨b1,0,none⟩) l1).trans H1.out
    have h2':wr.cell? ⟨b2,0,none⟩=some (.int .i64 out):=(hbr.cell (p:=⟨b2,0,none⟩) l2).trans H2.out
    have C:=K1 (lens_any inn out ex b1 b2 wr h1' h2')
    have HE:=K1 hex
    clear hc hex h1' h2'
    cases hbad:exBad inn out ex
    · go_wp2_with (go_at_call 101;refine C.out.mono ?_;rintro e w1 ⟨rfl,hb1⟩;rw [hbad])
      go_roundw
      case rel=>exact ⟨k+1,by omega,by go_num,K1 (fits_step HE.out hfit.out hbad),hbr.trans (hb1.mono hbr.size)⟩
      case measure=>simp [intOf];omega
    · have hf:=K1 (fits_idx HE.out hfit.out hbad)
      go_wp2_with (go_at_call 101;refine C.out.mono ?_;rintro e w1 ⟨rfl,hb1⟩;rw [hbad])
      go_ret
      exact ⟨fun h=>absurd (hf.out.1.symm.trans h) (by decide),fun _=>ret_int (by rw [hf.out.2]),hbr.trans (hb1.mono hbr.size)⟩
  · have hf:Hid (exFits inn out l=true):=by
     have:=hfit.out
     rw [List.take_of_length_le (by omega)] at this
     exact K1 this
    clear hfit
    go_wp2
    go_ret
    exact ⟨fun _=>rfl,fun h=>absurd (hf.out.symm.trans h) (by decide),hbr⟩
def Fitted (w:World) (inn out:Int) (l:List Ex) (e:Ending) (w':World):Prop:=e=.returned (.tuple #[.int .i64 (exIdx inn out l),.bool (exFits inn out l)])∧Below w.heap.size w w'
theorem ret_ib {a a':Int} {b b':Bool} (h:a=a') (h':b=b'):Ending.returned (.tuple #[.int .i64 a,.bool b])=.returned (.tuple #[.int .i64 a',.bool b']):=by rw [h,h']
theorem dataCheck_any (inn out:Int) (A:Option Addr) (cap:Nat) (l:List Ex) (w:World) (hr:RdE w w.heap.size A l) (hm:l.length≤9223372036854775807) :
  Calls Tryz.prog 60 #[.slice A l.length cap,.int .i64 inn,.int .i64 out] w (Fitted w inn out l):=by
 have hB:Below w.heap.size w ((w.alloc (.cells #[.int .i64 inn] 3)).alloc (.cells #[.int .i64 out] 3)):=((Below.refl _ _).alloc (Nat.le_refl _) _).alloc (by simp) _
 have C:=K1 (findEx_any inn out A cap l w.heap.size (w.heap.size+1) ((w.alloc (.cells #[.int .i64 inn] 3)).alloc (.cells #[.int .i64 out] 3)) ((hr.below hB).more hB.size) hm
  (blk_cell (blk_alloc (heap_alloc_new w _) _) 0) (blk_cell (by have:=heap_alloc_new (w.alloc (.cells #[.int .i64 inn] 3)) (.cells #[.int .i64 out] 3);rw [World.size_alloc] at this;exact this) 0))
 cases hf:exFits inn out l
 · have HF:=K1 hf
   clear hf
   go_enter Tryz.func60,Tryz.ntmps60
   go_wp2_with fail
   refine C.out.mono ?_
   rintro e w1 ⟨_,he,hb1⟩
   obtain rfl:=he HF.out
   go_wp2
   go_ret2
   exact ⟨ret_ib (by omega) (by rw [HF.out] <;> simp),hB.trans (hb1.mono hB.size)⟩
 · have HF:=K1 hf
   clear hf
   go_enter Tryz.func60,Tryz.ntmps60
   go_wp2_with fail
   refine C.out.mono ?_
   rintro e w1 ⟨he,_,hb1⟩
   obtain rfl:=he HF.out
   go_wp2
   go_ret2
   exact ⟨ret_ib (by rw [fits_all HF.out];first | rfl | simp) (by rw [HF.out] <;> simp),hB.trans (hb1.mono hB.size)⟩
theorem refData_any (inn out:Int) (A:Option Addr) (cap:Nat) (l:List Ex) (w:World) (hr:RdE w w.heap.size A l) (hm:l.length≤9223372036854775807) :
  Calls Tryz.prog 54 #[.slice A l.length cap,.int .i64 inn,.int .i64 out] w fun e w'=>e=.returned (.tuple #[.int .i64 (exIdx inn out l),.bool (exFits inn out l)])∧w=w':=by
 go_enter Tryz.func54,Tryz.ntmps54
 go_wp2
 go_loop [8] (fun i=>∃ k:Nat,k≤l.length∧i=.int .i64 k∧Hid (exFits inn out (l.take k)=true)) (fun i=>l.length-(intOf i).toNat)
 case atStart=>exact ⟨0,Nat.zero_le _,rfl,K1 rfl⟩
 case round =>
  obtain ⟨k,hk,rfl,hfit⟩:=hrel
  by_cases hlt:k<l.length
  · obtain ⟨b,off,rfl,hb,hc⟩:=hr.at_ (by omega)
    obtain ⟨ex,hex⟩:=get_some l k hlt
    have c1:=(hc k ex hex).1
    have c2:=(hc k ex hex).2
    have HE:=K1 hex
    clear hc hex
    by_cases e1:(ex.xs.length:Int)=inn
    · have k1:((ex.xs.length:Int) != inn)=false:=by simpa using e1
      by_cases e2:(ex.ys.length:Int)=out
      · have k2:((ex.ys.length:Int) != out)=false:=by simpa using e2
        have hb:=K1 (fits_step HE.out hfit.out (bad_no e1 e2))
        clear e1 e2
        go_wp2
        go_round
        case rel=>exact ⟨k+1,by omega,by go_num,hb⟩
        case measure=>simp [intOf];omega
      · have k2:((ex.ys.length:Int) != out)=true:=by simpa using e2
        have hb:=K1 (fits_idx HE.out hfit.out (bad_y (inn:=inn) e2))
        clear e1 e2
        go_wp2
        go_ret2
        exact ⟨ret_ib (by rw [hb.out.2]) hb.out.1.symm,rfl⟩
    · have k1:((ex.xs.length:Int) != inn)=true:=by simpa using e1
      have hb:=K1 (fits_idx HE.out hfit.out (bad_x (out:=out) e1))
      clear e1
      go_wp2
      go_ret2
      exact ⟨ret_ib (by rw [hb.out.2]) hb.out.1.symm,rfl⟩
  · have hf:Hid (exFits inn out l=true):=by
     have:=hfit.out
     rw [List.take_of_length_le (by omega)] at this
     exact K1 this
    clear hfit
    go_wp2
    go_ret2
    exact ⟨ret_ib (by rw [fits_all hf.out];rfl) hf.out.symm,rfl⟩
def exSum:List Ex→Int
 | []=>0
 | e::l=>min (e.xs.length:Int) 1000+min (e.ys.length:Int) 1000+exSum l
def exFew (l:List Ex):Bool:=decide (l.length≤60) && decide (exSum (l.take 100)≤600)
theorem exSum_snoc:∀ (l:List Ex) (k:Nat) (e:Ex),l[k]?=some e→exSum (l.take (k+1))=exSum (l.take k)+min (e.xs.length:Int) 1000+min (e.ys.length:Int) 1000
 | [],_,_,h=>by simp at h
 | x::l,0,e,h=>by
   simp at h;subst h
   simp [exSum]
 | x::l,k+1,e,h=>by
   have ih:=exSum_snoc l k e (by simpa using h)
   simp only [List.take_succ_cons,exSum,ih]
   omega
theorem exSum_bd:∀ (l:List Ex),0≤exSum l∧exSum l≤2000*l.length
 | []=>by simp [exSum]
 | e::l=>by
   have ih:=exSum_bd l
   simp only [exSum,List.length_cons]
   omega
theorem dataFew_any (A:Option Addr) (cap:Nat) (l:List Ex) (w:World) (hr:RdE w w.heap.size A l) (hm:l.length≤9223372036854775807) :
  Calls Tryz.prog 153 #[.slice A l.length cap] w fun e w'=>e=.returned (.bool (exFew l))∧∃ n,w'=w.drewN n:=by
 go_enter Tryz.func153,Tryz.ntmps153
 go_wp2
 go_loopw [3,4] (fun n i wr=>∃ k:Nat,k≤l.length∧k≤100∧i=.int .i64 k∧n=.int .i64 (exSum (l.take k))∧∃ q,wr=w.drewN q) (fun _ i _=>100-(intOf i).toNat)
 case atStart=>exact ⟨0,Nat.zero_le _,Nat.zero_le _,rfl,rfl,0,rfl⟩
 case round =>
  obtain ⟨k,hk,hk2,rfl,rfl,q,rfl⟩:=hrel
  have bs:=exSum_bd (l.take k)
  have bl:(l.take k).length≤100:=by have:=List.length_take_le k l;omega
  have bs2:exSum (l.take k)≤200000:=by omega
  have bs1:=bs.1
  clear bs bl
  by_cases hlt:k<l.length
  · by_cases h100:k<100
    · obtain ⟨b,off,rfl,hb,hc⟩:=hr.at_ (by omega)
      obtain ⟨ex,hex⟩:=get_some l k hlt
      have c1:=(hc k ex hex).1
      have c2:=(hc k ex hex).2
      have hs:=K1 (exSum_snoc l k ex hex)
      have hx:=(hr.2 ex (List.mem_of_getElem? hex)).2.2
      clear hc hex
      go_wp2
      go_quiet (fail)
      go_wp2
      go_roundw
      case rel =>
       refine ⟨k+1,by omega,by omega,by go_num,?_,_,rfl⟩
       rw [hs.out]
       all_goals go_num
      case measure=>simp [intOf];omega
    · obtain rfl:k=100:=by omega
      by_cases h1:l.length≤60
      · omega
      · go_wp2
        go_ret
        exact ⟨ret_bool (by simp [exFew,h1]),_,rfl⟩
  · have ht:Hid (l.take 100=l.take k):=K1 (by rw [List.take_of_length_le (by omega),List.take_of_length_le (by omega)])
    by_cases h1:l.length≤60
    · by_cases h2:exSum (l.take k)≤600
      · have hf:Hid (exFew l=true):=K1 (by simp [exFew,h1,ht.out,h2])
        go_wp2
        go_ret
        exact ⟨ret_bool hf.out.symm,_,rfl⟩
      · have hf:Hid (exFew l=false):=K1 (by simp only [exFew,h1,ht.out,h2];decide)
        go_wp2
        go_ret
        exact ⟨ret_bool hf.out.symm,_,rfl⟩
    · have hf:Hid (exFew l=false):=K1 (by simp [exFew,h1])
      go_wp2
      go_ret
      exact ⟨ret_bool hf.out.symm,_,rfl⟩
def inCode (k:Int) (zs:List Int) (st ba:Int) (l:List Ex) (sn rn:Nat):Int :=
 if k≠0 then k
 else if (l.length:Int)<ba∨1048576<(l.length:Int) then 7
 else if exFits (zAt zs 0) (zAt zs (zs.length-1)) l=false∨(sn:Int)≠cnt zs then 5
 else if (rn:Int)<nee k st ba l.length then 8 else 0
theorem count_any (g:Nat) (zs:List Int) (B:Nat) (w:World) (h:IsShape w B g zs):Calls Tryz.prog 61 #[.pointer (some ⟨g,0,none⟩)] w fun e w'=>e=.returned (.int .i64 (cnt zs))∧w'=w:=by
 obtain ⟨_,As,Aw,Ab,cs,cw,cb,hg,_⟩:=h
 have c3:w.cell? ⟨g,3,none⟩=some (.int .i64 (cnt zs)):=blk_cell hg 3
 clear hg
 go_enter Tryz.func61,Tryz.ntmps61
 go_wp2
 go_ret
 exact ⟨rfl,rfl⟩
theorem input_bad (A DA SA RA:Option Addr) (cap dcap sn scap rn rcap:Nat) (zs:List Int) (l:List Ex) (sh ra mo wo ba mi st bu ch wi ca:Int) (w:World) (hr:RdI w w.heap.size A zs) (hcap:zs.length≤cap) (hm:zs.length≤9223372036854775807)
  (hk:confCode zs ⟨sh,0,0,wo,ba,mi,st,bu,ch,wi,ca⟩≠0) :
  Calls Tryz.prog 28 #[.agg #[.slice A zs.length cap,.int .i64 sh,.int .i64 ra,.int .i64 mo,.int .i64 wo,.int .i64 ba,.int .i64 mi,.int .i64 st,.int .i64 bu,.int .i64 ch,.int .i64 wi,.int .i64 ca,.slice DA l.length dcap,.slice SA sn scap,.slice RA rn rcap]] w (Coded w (inCode (confCode zs ⟨sh,0,0,wo,ba,mi,st,bu,ch,wi,ca⟩) zs st ba l sn rn)):=by
 have hb0:Below w.heap.size w ((w.alloc (.cells #[.slice A zs.length cap,.int .i64 sh,.int .i64 ra,.int .i64 mo,.int .i64 wo,.int .i64 ba,.int .i64 mi,.int .i64 st,.int .i64 bu,.int .i64 ch,.int .i64 wi,.int .i64 ca,.slice DA l.length dcap,.slice SA sn scap,.slice RA rn rcap] 29)).alloc (.cells #[.slice A zs.length cap,.int .i64 sh,.int .i64 ra,.int .i64 mo,.int .i64 wo,.int .i64 ba,.int .i64 mi,.int .i64 st,.int .i64 bu,.int .i64 ch,.int .i64 wi,.int .i64 ca] 24)):=((Below.refl _ _).alloc (Nat.le_refl _) _).alloc (by simp) _
 have C:=confCheck_flat A cap zs sh ra mo wo ba mi st bu ch wi ca _ ((hr.below hb0).more hb0.size) hcap hm
 generalize confCode zs ⟨sh,0,0,wo,ba,mi,st,bu,ch,wi,ca⟩=k at *
 have hfin:Hid (inCode k zs st ba l sn rn=k):=K1 (if_pos hk)
 have hk':(k != 0)=true:=by simpa using hk
 have HC:=K1 C
 clear C hk
 go_enter Tryz.func28,Tryz.ntmps28
 go_wp2_with (go_at_call 58;refine HC.out.mono ?_;rintro e w1 ⟨rfl,hb1⟩)
 go_ret
 exact ⟨ret_int hfin.out.symm,hb0.trans (hb1.mono hb0.size)⟩
theorem in7 {zs:List Int} {st ba:Int} {l:List Ex} {sn rn:Nat} (h:(l.length:Int)<ba∨1048576<(l.length:Int)):inCode 0 zs st ba l sn rn=7:=by
 unfold inCode;rw [if_neg (by simp),if_pos h]
theorem in5 {zs:List Int} {st ba:Int} {l:List Ex} {sn rn:Nat} (h:¬ (l.length:Int)<ba) (h':¬ 1048576<(l.length:Int)) (h2:exFits (zAt zs 0) (zAt zs (zs.length-1)) l=false∨(sn:Int)≠cnt zs):inCode 0 zs st ba l sn rn=5:=by
 unfold inCode;rw [if_neg (by simp),if_neg (by omega),if_pos h2]
theorem in8 {zs:List Int} {st ba:Int} {l:List Ex} {sn rn:Nat} (h:¬ (l.length:Int)<ba) (h':¬ 1048576<(l.length:Int)) (h2:exFits (zAt zs 0) (zAt zs (zs.length-1)) l=true) (h3:(sn:Int)=cnt zs) (h4:(rn:Int)<nee 0 st ba l.length):inCode 0 zs st ba l sn rn=8:=by
 unfold inCode;rw [if_neg (by simp),if_neg (by omega),if_neg (by simp [h2,h3]),if_pos h4]
theorem in0 {zs:List Int} {st ba:Int} {l:List Ex} {sn rn:Nat} (h:¬ (l.length:Int)<ba) (h':¬ 1048576<(l.length:Int)) (h2:exFits (zAt zs 0) (zAt zs (zs.length-1)) l=true) (h3:(sn:Int)=cnt zs) (h4:¬ (rn:Int)<nee 0 st ba l.length):inCode 0 zs st ba l sn rn=0:=by
 unfold inCode;rw [if_neg (by simp),if_neg (by omega),if_neg (by simp [h2,h3]),if_neg h4]
theorem sizes_two {zs:List Int} (h:shCode zs=0):2≤zs.length∧zs.length≤16:=by
 unfold shCode at h
 split at h
 · cases h
 · omega
set_option maxRecDepth 100000 in
theorem input_good (A DA SA RA:Option Addr) (cap dcap sn scap rn rcap:Nat) (zs:List Int) (l:List Ex) (sh ra mo wo ba mi st bu ch wi ca:Int) (w:World) (hr:RdI w w.heap.size A zs) (hcap:zs.length≤cap) (hm:zs.length≤9223372036854775807)
  (hd:RdE w w.heap.size DA l) (hlm:l.length≤9223372036854775807)
  (hk:confCode zs ⟨sh,0,0,wo,ba,mi,st,bu,ch,wi,ca⟩=0) :
  Calls Tryz.prog 28 #[.agg #[.slice A zs.length cap,.int .i64 sh,.int .i64 ra,.int .i64 mo,.int .i64 wo,.int .i64 ba,.int .i64 mi,.int .i64 st,.int .i64 bu,.int .i64 ch,.int .i64 wi,.int .i64 ca,.slice DA l.length dcap,.slice SA sn scap,.slice RA rn rcap]] w (Coded w (inCode (confCode zs ⟨sh,0,0,wo,ba,mi,st,bu,ch,wi,ca⟩) zs st ba l sn rn)):=by
 have hI:=heap_alloc_new w (.cells #[.slice A zs.length cap,.int .i64 sh,.int .i64 ra,.int .i64 mo,.int .i64 wo,.int .i64 ba,.int .i64 mi,.int .i64 st,.int .i64 bu,.int .i64 ch,.int .i64 wi,.int .i64 ca,.slice DA l.length dcap,.slice SA sn scap,.slice RA rn rcap] 29)
 have hb0:Below w.heap.size w ((w.alloc (.cells #[.slice A zs.length cap,.int .i64 sh,.int .i64 ra,.int .i64 mo,.int .i64 wo,.int .i64 ba,.int .i64 mi,.int .i64 st,.int .i64 bu,.int .i64 ch,.int .i64 wi,.int .i64 ca,.slice DA l.length dcap,.slice SA sn scap,.slice RA rn rcap] 29)).alloc (.cells #[.slice A zs.length cap,.int .i64 sh,.int .i64 ra,.int .i64 mo,.int .i64 wo,.int .i64 ba,.int .i64 mi,.int .i64 st,.int .i64 bu,.int .i64 ch,.int .i64 wi,.int .i64 ca] 24)):=((Below.refl _ _).alloc (Nat.le_refl _) _).alloc (by simp) _
 have hI0:=blk_alloc hI (.cells #[.slice A zs.length cap,.int .i64 sh,.int .i64 ra,.int .i64 mo,.int .i64 wo,.int .i64 ba,.int .i64 mi,.int .i64 st,.int .i64 bu,.int .i64 ch,.int .i64 wi,.int .i64 ca] 24)
 have hC0:=heap_alloc_new (w.alloc (.cells #[.slice A zs.length cap,.int .i64 sh,.int .i64 ra,.int .i64 mo,.int .i64 wo,.int .i64 ba,.int .i64 mi,.int .i64 st,.int .i64 bu,.int .i64 ch,.int .i64 wi,.int .i64 ca,.slice DA l.length dcap,.slice SA sn scap,.slice RA rn rcap] 29)) (.cells #[.slice A zs.length cap,.int .i64 sh,.int .i64 ra,.int .i64 mo,.int .i64 wo,.int .i64 ba,.int .i64 mi,.int .i64 st,.int .i64 bu,.int .i64 ch,.int .i64 wi,.int .i64 ca] 24)
 rw [World.size_alloc] at hC0
 have C:=confCheck_flat A cap zs sh ra mo wo ba mi st bu ch wi ca _ ((hr.below hb0).more hb0.size) hcap hm
 have N:=fun W (hb:Below w.heap.size w W)=>need_any A cap zs sh ra mo wo ba mi st bu ch wi ca l.length W ((hr.below hb).more hb.size) hcap hm
 have Z:=conf_zero hk
 rw [hk] at C N ⊢
 obtain ⟨⟨hst,hst'⟩,hba,hba',hsh⟩:=Z
 dsimp only at hst hst' hba hba'
 have M:=fun W (hb:Below w.heap.size w W)=>new_ok A cap zs W ((hr.below hb).more hb.size) hcap hm hsh
 have h2:=sizes_two hsh
 obtain ⟨b,off,rfl,hbl,hc⟩:=hr.at_ (by omega)
 obtain ⟨x0,hx0⟩:=get_some zs 0 (by omega)
 obtain ⟨xl,hxl⟩:=get_some zs (zs.length-1) (by omega)
 have Hx0:=K1 (hc 0 x0 hx0)
 have Hxl:=K1 (hc _ xl hxl)
 have hz0:zAt zs 0=x0:=by simp [zAt,List.getD,hx0]
 have hzl:zAt zs (zs.length-1)=xl:=by simp [zAt,List.getD,hxl]
 have D:=fun W (hb:Below w.heap.size w W)=>dataCheck_any x0 xl DA dcap l W ((hd.below hb).more hb.size) hlm
 have HD:=K1 D
 have Hz:=K1 (And.intro hz0 hzl)
 have i0:(0:Int)≤(zs.length:Int)-1:=by omega
 have i1:(zs.length:Int)-1<(zs.length:Int):=by omega
 have i2:IntKind.i64.wrap ((zs.length:Int)-1)=(zs.length:Int)-1:=IntWalk.i64_in _ (by omega)
 have i3:((zs.length:Int)-1).toNat=zs.length-1:=by omega
 have i4:(0:Int)<(zs.length:Int):=by omega
 have i5:0<zs.length:=by omega
 have i6:(1:Int)≤(zs.length:Int):=by omega
 have i7:1≤zs.length:=by omega
 clear D hc hx0 hxl hz0 hzl
 have HC:=K1 C
 have HN:=K1 N
 have HM:=K1 M
 have HI0:=K1 hI0
 have HC0:=K1 hC0
 clear C N M hI hI0 hC0 hk hsh
 go_enter Tryz.func28,Tryz.ntmps28
 go_wp2_with fail
 refine HC.out.mono ?_
 rintro e w1 ⟨rfl,hb1⟩
 have hB1:=hb0.trans (hb1.mono hb0.size)
 have HI1:=K1 (blk_below HI0.out hb1 (by simp;omega))
 have HC1:=K1 (blk_below HC0.out hb1 (by simp))
 clear hb1
 obtain ⟨c0,c1,c2,c3,c4,c5,c6,c7,c8,c9,c10,c11⟩:=cf_all HC1.out
 go_wp2_with fail
 clear c0 c1 c2 c3 c4 c5 c6 c7 c8 c9 c10 c11
 refine (HM.out _ hB1).mono ?_
 rintro e w2 ⟨g,rfl,hb2,hg,hS⟩
 have hB2:=hB1.trans (hb2.mono hB1.size)
 have HI2:=K1 (blk_below HI1.out hb2 (blk_lt HI1.out))
 have HC2:=K1 (blk_below HC1.out hb2 (blk_lt HC1.out))
 clear hb2
 go_wp2_with fail
 have c12:w2.cell? ⟨w.heap.size,12,none⟩=some (.slice DA l.length dcap):=blk_cell HI2.out 12
 have c0:w2.cell? ⟨w.heap.size+1,0,none⟩=some (.slice (some ⟨b,off,none⟩) zs.length cap):=blk_cell HC2.out 0
 have cx:w2.cell? ⟨b,off,none⟩=some (.int .i64 x0):=(hB2.cell (p:=⟨b,off,none⟩) hbl).trans Hx0.out
 have cy:w2.cell? ⟨b,off+(zs.length-1),none⟩=some (.int .i64 xl):=(hB2.cell (p:=⟨b,off+(zs.length-1),none⟩) hbl).trans Hxl.out
 go_region_held3 (fun w'=>w'.cell? ⟨w.heap.size,12,none⟩=some (.slice DA l.length dcap)∧w'.cell? ⟨w.heap.size+1,0,none⟩=some (.slice (some ⟨b,off,none⟩) zs.length cap)∧w'.cell? ⟨b,off,none⟩=some (.int .i64 x0)∧w'.cell? ⟨b,off+(zs.length-1),none⟩=some (.int .i64 xl))
  (first
   | exact ⟨d12,d0,dx,dy⟩
   | exact ⟨c12,c0,cx,cy⟩)
  ((go_at_call 60
    refine (HD.out _ (below_drew hB2)).mono ?_
    rintro e w3 ⟨rfl,hb3⟩
    have hB3:=(below_drew hB2).trans (hb3.mono hB2.size)
    have HI3:=K1 (blk_below (blk_drew HI2.out) hb3 (blk_lt HI2.out))
    have HC3:=K1 (blk_below (blk_drew HC2.out) hb3 (blk_lt HC2.out))
    have HS3:=K1 (IsShape.below (w:=w2.drew) hS hb3)
    have d12:w3.cell? ⟨w.heap.size,12,none⟩=some (.slice DA l.length dcap):=blk_cell HI3.out 12
    have d0:w3.cell? ⟨w.heap.size+1,0,none⟩=some (.slice (some ⟨b,off,none⟩) zs.length cap):=blk_cell HC3.out 0
    have dx:w3.cell? ⟨b,off,none⟩=some (.int .i64 x0):=(hB3.cell (p:=⟨b,off,none⟩) hbl).trans Hx0.out
    have dy:w3.cell? ⟨b,off+(zs.length-1),none⟩=some (.int .i64 xl):=(hB3.cell (p:=⟨b,off+(zs.length-1),none⟩) hbl).trans Hxl.out))
 clear c12 c0 cx cy d0 dx dy i0 i1 i2 i3 i4 i5 i6 i7
 by_cases n1:(l.length:Int)<ba
 · have hfin:=K1 (in7 (zs:=zs) (st:=st) (ba:=ba) (l:=l) (sn:=sn) (rn:=rn) (.inl n1))
   have c5:w3.cell? ⟨w.heap.size+1,5,none⟩=some (.int .i64 ba):=blk_cell HC3.out 5
   go_wp2
   go_ret
   exact ⟨ret_int hfin.out.symm,hB3⟩
 by_cases n2:1048576<(l.length:Int)
 · have hfin:=K1 (in7 (zs:=zs) (st:=st) (ba:=ba) (l:=l) (sn:=sn) (rn:=rn) (.inr n2))
   have c5:w3.cell? ⟨w.heap.size+1,5,none⟩=some (.int .i64 ba):=blk_cell HC3.out 5
   go_wp2
   go_ret
   exact ⟨ret_int hfin.out.symm,hB3⟩
 have c5:w3.cell? ⟨w.heap.size+1,5,none⟩=some (.int .i64 ba):=blk_cell HC3.out 5
 cases hf:exFits x0 xl l
 · have hfin:=K1 (in5 (zs:=zs) (st:=st) (ba:=ba) (l:=l) (sn:=sn) (rn:=rn) n1 n2 (.inl (by rw [Hz.out.1,Hz.out.2];exact hf)))
   go_wp2
   go_quiet (fail)
   go_wp2
   go_ret
   exact ⟨ret_int hfin.out.symm,below_drewN hB3 _⟩
 have c13:w3.cell? ⟨w.heap.size,13,none⟩=some (.slice SA sn scap):=blk_cell HI3.out 13
 by_cases hs:(sn:Int)=cnt zs
 · have k1:((sn:Int) != cnt zs)=false:=by simpa using hs
   have hg8:=K1 (fun h4=>in8 (zs:=zs) (st:=st) (ba:=ba) (l:=l) (sn:=sn) (rn:=rn) n1 n2 (by rw [Hz.out.1,Hz.out.2];exact hf) hs h4)
   have hg0:=K1 (fun h4=>in0 (zs:=zs) (st:=st) (ba:=ba) (l:=l) (sn:=sn) (rn:=rn) n1 n2 (by rw [Hz.out.1,Hz.out.2];exact hf) hs h4)
   generalize nee 0 st ba l.length=D at *
   clear hs
   go_wp2
   go_quiet ((go_at_call 61;exact Calls.quiet_of_same (count_any g zs _ _ HS3.out)))
   go_wp2
   have c14:w3.cell? ⟨w.heap.size,14,none⟩=some (.slice RA rn rcap):=blk_cell HI3.out 14
   clear c5 c13 k1 d12
   go_region_held3 (fun w'=>(w'.cell? ⟨w.heap.size+1,0,none⟩=some (.slice (some ⟨b,off,none⟩) zs.length cap)∧w'.cell? ⟨w.heap.size+1,1,none⟩=some (.int .i64 sh)∧w'.cell? ⟨w.heap.size+1,2,none⟩=some (.int .i64 ra)∧w'.cell? ⟨w.heap.size+1,3,none⟩=some (.int .i64 mo)∧w'.cell? ⟨w.heap.size+1,4,none⟩=some (.int .i64 wo)∧w'.cell? ⟨w.heap.size+1,5,none⟩=some (.int .i64 ba)∧w'.cell? ⟨w.heap.size+1,6,none⟩=some (.int .i64 mi)∧w'.cell? ⟨w.heap.size+1,7,none⟩=some (.int .i64 st)∧w'.cell? ⟨w.heap.size+1,8,none⟩=some (.int .i64 bu)∧w'.cell? ⟨w.heap.size+1,9,none⟩=some (.int .i64 ch)∧w'.cell? ⟨w.heap.size+1,10,none⟩=some (.int .i64 wi)∧w'.cell? ⟨w.heap.size+1,11,none⟩=some (.int .i64 ca))∧w'.cell? ⟨w.heap.size,14,none⟩=some (.slice RA rn rcap))
    (first
     | exact ⟨cf_all HC4.out,blk_cell HI4.out 14⟩
     | exact ⟨cf_all HC3.out,c14⟩)
    ((go_at_call 62
      refine (HN.out _ ?_).mono ?_
      · first
         | exact below_drewN hB3 _
         | exact below_drew (below_drewN hB3 _)
      rintro e w4 ⟨rfl,hb4⟩
      have hB4:Below w.heap.size w w4:=Below.trans (by first | exact below_drewN hB3 _ | exact below_drew (below_drewN hB3 _)) (hb4.mono hB3.size)
      have HI4:=K1 (blk_below (by exact HI3.out) hb4 (by exact blk_lt HI3.out))
      have HC4:=K1 (blk_below (by exact HC3.out) hb4 (by exact blk_lt HC3.out))))
   by_cases hD:(rn:Int)<D
   · have hfin:=K1 (hg8.out hD)
     go_wp2
     go_ret
     exact ⟨ret_int hfin.out.symm,hB4⟩
   · have hfin:=K1 (hg0.out (by omega))
     go_wp2
     go_ret
     exact ⟨ret_int hfin.out.symm,hB4⟩
 · have k1:((sn:Int) != cnt zs)=true:=by simpa using hs
   have hfin:=K1 (in5 (zs:=zs) (st:=st) (ba:=ba) (l:=l) (sn:=sn) (rn:=rn) n1 n2 (.inr hs))
   clear hs
   go_wp2
   go_quiet ((go_at_call 61;exact Calls.quiet_of_same (count_any g zs _ _ HS3.out)))
   go_wp2
   go_ret
   exact ⟨ret_int hfin.out.symm,below_drewN hB3 _⟩
end Go.Proofs.YtdpojpcoghcieaaGreat
