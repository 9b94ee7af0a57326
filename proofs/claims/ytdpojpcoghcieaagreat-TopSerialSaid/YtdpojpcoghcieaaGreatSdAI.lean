/- A part of the proof of TopSerial: ShapeRef, ShapeNew, Region. Conditions: none. -/
import Derived.Test.YtdpojpcoghcieaaGreatSdAH
set_option maxHeartbeats 8000000
namespace Go.Proofs.YtdpojpcoghcieaaGreat
open Lib renaming hid → K1
open Go.RowKit
def betw (x lo hi:Int):Bool:=decide (lo≤x∧x≤hi)
theorem between_any (x lo hi:Int) (w:World) :
  Calls Tryz.prog 53 #[.int .i64 x,.int .i64 lo,.int .i64 hi] w fun e w'=>e=.returned (.bool (betw x lo hi))∧w=w':=by
 by_cases h1:lo≤x
 all_goals
  by_cases h2:x≤hi
  all_goals
   go_enter Tryz.func53,Tryz.ntmps53
   go_wp2
   go_ret
   exact ⟨ret_bool (by simp [betw,h1,h2]),rfl⟩
theorem wrong_any (x:Int) (w:World) :
  Calls Tryz.prog 96 #[.int .i64 x] w fun e w'=>e=.returned (.bool (!okSz x))∧w=w':=by
 by_cases h1:x<1
 · go_enter Tryz.func96,Tryz.ntmps96
   go_wp2
   go_ret
   exact ⟨ret_bool (by simp [okSz];omega),rfl⟩
 · by_cases h2:1048576<x
   all_goals
    go_enter Tryz.func96,Tryz.ntmps96
    go_wp2
    go_ret
    exact ⟨ret_bool (by simp [okSz];omega),rfl⟩
theorem refCount_any (A:Option Addr) (cap:Nat) (zs:List Int) (w:World) (hr:RdI w w.heap.size A zs) (hl:zs.length≤16) (hz:zs.all okSz=true) :
  Calls Tryz.prog 55 #[.slice A zs.length cap] w fun e w'=>e=.returned (.int .i64 (cnt zs))∧∃ n,w'=w.drewN n:=by
 have hall:∀ z∈zs,okSz z=true:=List.all_eq_true.1 hz
 have Hall:=K1 hall
 clear hall hz
 go_enter Tryz.func55,Tryz.ntmps55
 go_wp2
 go_loopw [3,4] (fun n i wr=>∃ k:Nat,k≤zs.length∧i=.int .i64 k∧n=.int .i64 (cnt (zs.take (k+1)))∧∃ q,wr=w.drewN q) (fun _ i _=>zs.length-(intOf i).toNat)
 case atStart =>
  refine ⟨0,Nat.zero_le _,rfl,?_,0,rfl⟩
  match zs with
  | []=>rfl
  | [_]=>rfl
  | _::_::_=>rfl
 case round =>
  obtain ⟨k,hk,rfl,rfl,q,rfl⟩:=hrel
  by_cases hlt:k+1<zs.length
  · obtain ⟨b,off,rfl,_,hc⟩:=hr.at_ (by omega)
    obtain ⟨x,hx⟩:=get_some zs k (by omega)
    obtain ⟨y,hy⟩:=get_some zs (k+1) hlt
    have c1:w.cell? ⟨b,off+k,none⟩=some (.int .i64 x):=hc _ _ hx
    have c2:w.cell? ⟨b,off+(k+1),none⟩=some (.int .i64 y):=hc _ _ hy
    have bx:=okSz_iff.1 (Hall.out x (List.mem_of_getElem? hx))
    have byy:=okSz_iff.1 (Hall.out y (List.mem_of_getElem? hy))
    have bm:=mul_bd x y bx byy
    have bc:=cnt_bd (zs.take (k+1)) (fun z hz=>Hall.out z (List.mem_of_mem_take hz))
    have bl:((zs.take (k+1)).length:Int)≤16:=by have:=List.length_take_le (k+1) zs;omega
    have S:=K1 (cnt_snoc zs k x y hx hy)
    clear hx hy hc
    generalize hC:cnt (zs.take (k+1))=C at *
    have HC:=K1 hC
    clear hC
    have b0:0≤C:=by omega
    have b1:C≤17592202821632:=by omega
    clear bc bl
    go_wp2
    go_quiet (fail)
    go_wp2
    go_roundw
    case rel=>exact ⟨k+1,by omega,by go_num,by rw [S.out],_,rfl⟩
    case measure=>simp [intOf];omega
  · go_wp2
    go_ret
    exact ⟨ret_int (by rw [List.take_of_length_le (by omega)]),_,rfl⟩
theorem take_all (zs:List Int) (k:Nat) (z:Int) (h:zs[k]?=some z) (ha:(zs.take k).all okSz=true) (hz:okSz z=true):(zs.take (k+1)).all okSz=true:=by
 rw [List.take_add_one,h,List.all_append,ha]
 simp [hz]
theorem not_all (zs:List Int) (k:Nat) (z:Int) (h:zs[k]?=some z) (hz:okSz z=false):zs.all okSz=false:=by
 rw [List.all_eq_false]
 exact ⟨z,List.mem_of_getElem? h,by simp [hz]⟩
theorem refShape_any (A:Option Addr) (cap:Nat) (zs:List Int) (w:World) (hr:RdI w w.heap.size A zs) (hm:zs.length≤9223372036854775807) :
  Calls Tryz.prog 89 #[.slice A zs.length cap] w fun e w'=>e=.returned (.int .i64 (shCode zs))∧∃ n,w'=w.drewN n:=by
 by_cases h2:zs.length<2
 · go_enter Tryz.func89,Tryz.ntmps89
   go_wp2
   go_ret
   exact ⟨ret_int (by simp [shCode,h2]),0,rfl⟩
 by_cases h16:16<zs.length
 · go_enter Tryz.func89,Tryz.ntmps89
   go_wp2
   go_ret
   exact ⟨ret_int (by simp [shCode,h16]),0,rfl⟩
 have hcode:shCode zs=if zs.all okSz=false then 5 else if 1048576<cnt zs then 4 else 0:=by
  unfold shCode;rw [if_neg (by omega)]
 have Hcode:=K1 hcode
 clear hcode
 obtain ⟨b,off,rfl,hb,hc⟩:=hr.at_ (by omega)
 have Hc:=K1 hc
 clear hc
 go_enter Tryz.func89,Tryz.ntmps89
 go_wp2
 go_loop [3] (fun i=>∃ k:Nat,k≤zs.length∧i=.int .i64 k∧Hid ((zs.take k).all okSz=true)) (fun i=>zs.length-(intOf i).toNat)
 case atStart=>exact ⟨0,Nat.zero_le _,rfl,K1 rfl⟩
 case round =>
  obtain ⟨k,hk,rfl,hall⟩:=hrel
  by_cases hlt:k<zs.length
  · obtain ⟨z,hz⟩:=get_some zs k hlt
    have c1:w.cell? ⟨b,off+k,none⟩=some (.int .i64 z):=Hc.out _ _ hz
    have HZ:=K1 hz
    clear hz
    by_cases l1:z<1
    · go_wp2
      go_ret
      exact ⟨ret_int (by rw [Hcode.out,if_pos (not_all zs k z HZ.out (okSz_no.2 (.inl l1)))]),0,rfl⟩
    by_cases l2:1048576<z
    · go_wp2
      go_ret
      exact ⟨ret_int (by rw [Hcode.out,if_pos (not_all zs k z HZ.out (okSz_no.2 (.inr l2)))]),0,rfl⟩
    · go_wp2
      go_round
      case rel=>exact ⟨k+1,by omega,by go_num,K1 (take_all zs k z HZ.out hall.out (okSz_iff.2 (by omega)))⟩
      case measure=>simp [intOf];omega
  · have hall':Hid (zs.all okSz=true):=by
     have:=hall.out
     rw [List.take_of_length_le (by omega)] at this
     exact K1 this
    clear hall
    by_cases h4:1048576<cnt zs
    all_goals
     go_wp2_with (go_at_call 55;refine (refCount_any _ _ zs _ hr (by omega) hall'.out).mono ?_;rintro e w' ⟨rfl,n,rfl⟩)
     go_ret
     refine ⟨ret_int ?_,_,rfl⟩
     rw [Hcode.out,if_neg (by rw [hall'.out];decide)]
     simp [h4]
def NonNeg (w:World) (e:Ending) (w':World):Prop:=∃ r:Nat,e=.returned (.int .i64 r)∧w=w'
theorem idxWrong_none (A:Option Addr) (cap:Nat) (zs:List Int) (w:World) (hr:RdI w w.heap.size A zs) (hm:zs.length≤16) (hz:zs.all okSz=true) :
  Calls Tryz.prog 136 #[.slice A zs.length cap,.func (.func 96) #[] #[]] w fun e w'=>e=.returned (.int .i64 (-1))∧w=w':=by
 have hall:∀ z∈zs,okSz z=true:=List.all_eq_true.1 hz
 have Hall:=K1 hall
 clear hall hz
 go_enter Tryz.func136,Tryz.ntmps136
 go_wp2
 go_loop [5,8] (fun j i=>∃ k:Nat,k≤zs.length∧i=.int .i64 k) (fun _ i=>zs.length-(intOf i).toNat)
 case atStart=>exact ⟨0,Nat.zero_le _,rfl⟩
 case round =>
  obtain ⟨k,hk,rfl⟩:=hrel
  by_cases hlt:k<zs.length
  · obtain ⟨b,off,rfl,_,hc⟩:=hr.at_ (by omega)
    obtain ⟨z,hz⟩:=get_some zs k hlt
    have c1:w.cell? ⟨b,off+k,none⟩=some (.int .i64 z):=hc _ _ hz
    have ok1:okSz z=true:=Hall.out z (List.mem_of_getElem? hz)
    have HZ:=K1 hz
    clear hz hc
    go_wp2_with (go_at_call 96;refine (wrong_any _ _).mono ?_;rintro e w' ⟨rfl,rfl⟩)
    go_round
    case rel=>exact ⟨k+1,by omega,by go_num⟩
    case measure=>simp [intOf];omega
  · go_wp2
    go_ret
    exact ⟨rfl,rfl⟩
theorem idxWrong_some (A:Option Addr) (cap:Nat) (zs:List Int) (w:World) (hr:RdI w w.heap.size A zs) (hm:zs.length≤16) (hz:zs.all okSz=false) :
  Calls Tryz.prog 136 #[.slice A zs.length cap,.func (.func 96) #[] #[]] w (NonNeg w):=by
 have Hno:=K1 hz
 clear hz
 go_enter Tryz.func136,Tryz.ntmps136
 go_wp2
 go_loop [5,8] (fun j i=>∃ k:Nat,k≤zs.length∧i=.int .i64 k∧Hid ((zs.take k).all okSz=true)) (fun _ i=>zs.length-(intOf i).toNat)
 case atStart=>exact ⟨0,Nat.zero_le _,rfl,K1 rfl⟩
 case round =>
  obtain ⟨k,hk,rfl,hall⟩:=hrel
  by_cases hlt:k<zs.length
  · obtain ⟨b,off,rfl,_,hc⟩:=hr.at_ (by omega)
    obtain ⟨z,hz⟩:=get_some zs k hlt
    have c1:w.cell? ⟨b,off+k,none⟩=some (.int .i64 z):=hc _ _ hz
    have HZ:=K1 hz
    clear hz hc
    cases ok1:okSz z
    · go_wp2_with (go_at_call 96;refine (wrong_any _ _).mono ?_;rintro e w' ⟨rfl,rfl⟩)
      go_ret
      exact ⟨k,rfl,rfl⟩
    · go_wp2_with (go_at_call 96;refine (wrong_any _ _).mono ?_;rintro e w' ⟨rfl,rfl⟩)
      go_round
      case rel=>exact ⟨k+1,by omega,by go_num,K1 (take_all zs k z HZ.out hall.out ok1)⟩
      case measure=>simp [intOf];omega
  · exfalso
    have:=hall.out
    rw [List.take_of_length_le (by omega),Hno.out] at this
    cases this
theorem hasWrong_any (A:Option Addr) (cap:Nat) (zs:List Int) (w:World) (hr:RdI w w.heap.size A zs) (hm:zs.length≤16) :
  Calls Tryz.prog 97 #[.slice A zs.length cap,.func (.func 96) #[] #[]] w fun e w'=>e=.returned (.bool (!zs.all okSz))∧w=w':=by
 by_cases hz:zs.all okSz=true
 · have c1:=idxWrong_none A cap zs w hr hm hz
   have C1:=K1 c1
   have HZ:=K1 hz
   clear c1 hz
   go_enter Tryz.func97,Tryz.ntmps97
   go_wp2_with (go_at_call 136;refine C1.out.mono ?_;rintro e w' ⟨rfl,rfl⟩)
   go_ret
   exact ⟨ret_bool (by rw [HZ.out];rfl),rfl⟩
 · have hz':zs.all okSz=false:=by simpa using hz
   have c1:=idxWrong_some A cap zs w hr hm hz'
   have C1:=K1 c1
   have HZ:=K1 hz'
   clear c1 hz hz'
   go_enter Tryz.func97,Tryz.ntmps97
   go_wp2_with (go_at_call 136;refine C1.out.mono ?_;rintro e w' ⟨r,rfl,rfl⟩)
   go_ret
   exact ⟨ret_bool (by rw [HZ.out];simp),rfl⟩
structure Mid (w:World) (B g:Nat) (vs vw vb:Value) (c:Int) (zs:List Int) (kw kb:Nat):Prop where
 blk:w.heap[g]?=some (.cells #[vs,vw,vb,.int .i64 c] 199 (0,0))
 box:w.heap[g+1]?=some (.cells #[.pointer (some ⟨g,0,none⟩)] 150 (0,0))
 sz:w.ownsRow B 3 1 vs zs.length (zs.map (Value.int .i64))
 ow:w.ownsRow B 47 2 vw kw (wcells zs kw)
 ob:w.ownsRow B 47 2 vb kb (bcells zs kb)
 ne:vw.ownBlock=none∨vw.ownBlock≠vb.ownBlock
 lo:B≤g
section
variable {w w':World} {B g:Nat} {vs vw vb:Value} {c c':Int} {zs:List Int} {kw kb:Nat}
theorem Mid.next (h:Mid w B g vs vw vb c zs kw kb) (hg:w'.heap[g]?=some (.cells #[vs,vw,vb,.int .i64 c'] 199 (0,0))) (hb:w.grownBy w' (some g)):Mid w' B g vs vw vb c' zs kw kb :=
 ⟨hg,blk_grown h.box hb (by simp),h.sz.kept hb (.inr (own_ne h.sz h.blk (by decide))),h.ow.kept hb (.inr (own_ne h.ow h.blk (by decide))),h.ob.kept hb (.inr (own_ne h.ob h.blk (by decide))),h.ne,h.lo⟩
theorem Mid.alloc (h:Mid w B g vs vw vb c zs kw kb) (o:Obj):Mid (w.alloc o) B g vs vw vb c zs kw kb :=
 ⟨blk_alloc h.blk o,blk_alloc h.box o,h.sz.alloc o,h.ow.alloc o,h.ob.alloc o,h.ne,h.lo⟩
theorem Mid.drew (h:Mid w B g vs vw vb c zs kw kb):Mid w.drew B g vs vw vb c zs kw kb:=⟨h.blk,h.box,h.sz,h.ow,h.ob,h.ne,h.lo⟩
theorem Mid.blkW (h:Mid w B g vs vw vb c zs kw kb) (hgr:w.grownBy w' vw.ownBlock):w'.heap[g]?=some (.cells #[vs,vw,vb,.int .i64 c] 199 (0,0)) :=
 blk_grown h.blk hgr (Ne.symm (own_ne h.ow h.blk (by decide)))
theorem Mid.blkB (h:Mid w B g vs vw vb c zs kw kb) (hgr:w.grownBy w' vb.ownBlock):w'.heap[g]?=some (.cells #[vs,vw,vb,.int .i64 c] 199 (0,0)) :=
 blk_grown h.blk hgr (Ne.symm (own_ne h.ob h.blk (by decide)))
theorem Mid.setW (h:Mid w B g vs vw vb c zs kw kb) {gg cap:Nat} (hown:w'.ownsRow B 47 2 (.slice (some ⟨gg,0,none⟩) (kw+1) cap) (kw+1) (wcells zs (kw+1))) (hgr:w.grownBy w' vw.ownBlock)
  (hat:vw.ownBlock=some gg∨gg=w.heap.size):Mid (w'.setCell ⟨g,1,none⟩ (.slice (some ⟨gg,0,none⟩) (kw+1) cap)) B g vs (.slice (some ⟨gg,0,none⟩) (kw+1) cap) vb c zs (kw+1) kb:=by
 have hgb:=blk_grown h.blk hgr (Ne.symm (own_ne h.ow h.blk (by decide)))
 have hbx:=blk_grown h.box hgr (Ne.symm (own_ne h.ow h.box (by decide)))
 have hset:w'.grownBy (w'.setCell ⟨g,1,none⟩ (.slice (some ⟨gg,0,none⟩) (kw+1) cap)) (some g):=only_setCell (World.grownBy.refl _ _) (.inl rfl) _
 have hs:=h.sz.kept hgr (own_ne2 h.sz h.ow (by decide))
 have hbo:vb.ownBlock=none∨vb.ownBlock≠vw.ownBlock:=by
  rcases h.ne with e | e
  · rw [e];cases hv:vb.ownBlock
    · exact .inl rfl
    · exact .inr (by simp)
  · exact .inr (Ne.symm e)
 have hb:=h.ob.kept hgr hbo
 refine ⟨?_,blk_far hbx (by simp) _,hs.kept hset (.inr (own_ne hs hgb (by decide))),hown.kept hset (.inr (own_ne hown hgb (by decide))),hb.kept hset (.inr (own_ne hb hgb (by decide))),?_,h.lo⟩
 · have:=blk_set hgb 1 (.slice (some ⟨gg,0,none⟩) (kw+1) cap)
   simpa using this
 · rcases hat with e | e
   · rcases h.ne with e' | e'
     · rw [e'] at e;cases e
     · right;rw [show (Value.slice (some ⟨gg,0,none⟩) (kw+1) cap).ownBlock=some gg from rfl,← e];exact e'
   · right
     subst e
     intro e2
     exact absurd (h.ob.lt _ e2.symm).2 (Nat.lt_irrefl _)
theorem Mid.setB (h:Mid w B g vs vw vb c zs kw kb) {gg cap:Nat} (hown:w'.ownsRow B 47 2 (.slice (some ⟨gg,0,none⟩) (kb+1) cap) (kb+1) (bcells zs (kb+1))) (hgr:w.grownBy w' vb.ownBlock)
  (hat:vb.ownBlock=some gg∨gg=w.heap.size):Mid (w'.setCell ⟨g,2,none⟩ (.slice (some ⟨gg,0,none⟩) (kb+1) cap)) B g vs vw (.slice (some ⟨gg,0,none⟩) (kb+1) cap) c zs kw (kb+1):=by
 have hgb:=blk_grown h.blk hgr (Ne.symm (own_ne h.ob h.blk (by decide)))
 have hbx:=blk_grown h.box hgr (Ne.symm (own_ne h.ob h.box (by decide)))
 have hset:w'.grownBy (w'.setCell ⟨g,2,none⟩ (.slice (some ⟨gg,0,none⟩) (kb+1) cap)) (some g):=only_setCell (World.grownBy.refl _ _) (.inl rfl) _
 have hs:=h.sz.kept hgr (own_ne2 h.sz h.ob (by decide))
 have hw:=h.ow.kept hgr h.ne
 refine ⟨?_,blk_far hbx (by simp) _,hs.kept hset (.inr (own_ne hs hgb (by decide))),hw.kept hset (.inr (own_ne hw hgb (by decide))),hown.kept hset (.inr (own_ne hown hgb (by decide))),?_,h.lo⟩
 · have:=blk_set hgb 2 (.slice (some ⟨gg,0,none⟩) (kb+1) cap)
   simpa using this
 · rcases hat with e | e
   · rw [show (Value.slice (some ⟨gg,0,none⟩) (kb+1) cap).ownBlock=some gg from rfl,← e];exact h.ne
   · cases hv:vw.ownBlock
     · exact .inl rfl
     · right
       subst e
       intro e2
       have h1:vw.ownBlock=some w.heap.size:=hv.trans e2
       have:=(h.ow.lt _ h1).2
       omega
end
def NextPost (w:World) (g:Nat) (vs vw vb:Value) (c n:Int) (e:Ending) (w':World):Prop :=
 e=.returned (.agg #[.int .i64 c,.int .i64 (c+n)])∧w'.heap[g]?=some (.cells #[vs,vw,vb,.int .i64 (c+n)] 199 (0,0))∧w.grownBy w' (some g)
theorem next_any (g bx:Nat) (vs vw vb:Value) (c n:Int) (w:World) (hg:w.heap[g]?=some (.cells #[vs,vw,vb,.int .i64 c] 199 (0,0))) (hbx:w.heap[bx]?=some (.cells #[.pointer (some ⟨g,0,none⟩)] 150 (0,0)))
  (c0:0≤c) (c1:c≤1000000000000000) (n0:0≤n) (n1:n≤1000000000000000) :
  Calls Tryz.prog 99 #[.int .i64 n,.pointer (some ⟨bx,0,none⟩)] w (NextPost w g vs vw vb c n):=by
 have hg1:w.cell? ⟨g,3,none⟩=some (.int .i64 c):=by simp [World.cell?,hg]
 have hg2:w.frozen? ⟨g,3,none⟩=false:=by simp [World.frozen?,hg]
 have hb1:w.cell? ⟨bx,0,none⟩=some (.pointer (some ⟨g,0,none⟩)):=by simp [World.cell?,hbx]
 have lg:=World.block_lt_of_cell? w _ hg1
 have lb:=World.block_lt_of_cell? w _ hb1
 have Hg:=K1 hg
 clear hg hbx
 go_enter Tryz.func99,Tryz.ntmps99
 go_wp2
 go_region_held3 (fun w'=>w'.cell? ⟨g,3,none⟩=some (.int .i64 c)∧w'.cell? ⟨bx,0,none⟩=some (.pointer (some ⟨g,0,none⟩))) (go_keep) (fail)
 go_wp2
 refine bodyPost_ret (v:=.agg #[.int .i64 c,.int .i64 (c+n)]) (by simp [results,Tryz.results99,go_sem]) rfl ⟨rfl,?_,?_⟩
 · have:=blk_alloc (blk_alloc (blk_set Hg.out 3 (.int .i64 (c+n))) (.cells #[.int .i64 c,.int .i64 (c+n)] 47)) (.cells #[.int .i64 c,.int .i64 (c+n)] 47)
   simp at this
   exact this
 · exact only_drew (only_alloc (only_alloc (only_setCell (World.grownBy.refl _ _) (.inl rfl) _) _) _)
end Go.Proofs.YtdpojpcoghcieaaGreat
namespace Go.Proofs.YtdpojpcoghcieaaGreat
open Lib renaming hid → K1
open Go.RowKit
section
variable {P:Program} {ops:Array Oper} {Q:Exit→Act→World→Prop} {md:Region.Mode} {S:World→Prop} {L:Nat}
def AnyBut (P:Program) (md:Region.Mode) (ops:Array Oper) (Q:Exit→Act→World→Prop) (S:World→Prop) (L:Nat):Nat→Array Bool→Act→World→Prop
 | 0,listed,a,w=>Region.ready md ops listed=[]∧Q .normal a w
 | fuel+1,listed,a,w =>
   (Region.ready md ops listed=[]→Q .normal a w) ∧
   ∀ i∈Region.ready md ops listed,wpOp P ops Q i (fun a' w'=>(i≠L→S w')∧AnyBut P md ops Q S L fuel (listed.setIfInBounds i true) a' w') a w
theorem AnyBut.any:∀ (fuel:Nat) (listed:Array Bool) (a:Act) (w:World),AnyBut P md ops Q S L fuel listed a w→wpAny P md ops Q fuel listed a w
 | 0,_,_,_,h=>h
 | fuel+1,_,_,_,h=>⟨h.1,fun i hi=>wpOp_mono (fun a' w' h'=>AnyBut.any fuel _ a' w' h'.2) (h.2 i hi)⟩
def waits (md:Region.Mode) (ops:Array Oper) (L i:Nat):Bool :=
 match ops[L]? with
 | none=>false
 | some o=>o.after.any fun e=>Region.binds md e && e.on == i
theorem waits_ne {i:Nat} {listed:Array Bool} (hw:waits md ops L i=true) (hr:i∈Region.ready md ops listed) {j:Nat} (hj:j∈Region.ready md ops listed):j≠L:=by
 rintro rfl
 obtain ⟨_,oj,hoj,hall⟩:=mem_ready.1 hj
 unfold waits at hw
 rw [hoj] at hw
 simp only [Array.any_eq_true',Bool.and_eq_true,beq_iff_eq] at hw
 obtain ⟨e,he,hb,heq⟩:=hw
 have h1:=hall e he hb
 have h0:=(mem_ready.1 hr).1
 rw [heq] at h1
 rcases Nat.lt_or_ge i listed.size with h' | h'
 · simp [h'] at h0 h1;rw [h0] at h1;cases h1
 · simp [Array.getElem?_eq_none h'] at h1
theorem AnyBut.first {i:Nat} {oi:Oper} {v:Value} (hi:ops[i]?=some oi) (hsel:∀ (j:Nat) (o:Oper) cs b,ops[j]?=some o→o.op≠.select cs b)
  (hQ:∀ c a w,Q (.panic c) (a.put oi.dst v) w→Q (.panic c) a w) (hL:waits md ops L i=true) :
  ∀ (fuel:Nat) (listed:Array Bool) (a:Act) (w:World),
    (∀ j oj,ops[j]?=some oj→j≠i→listed.getD j true=false→(∀ e∈oj.after,Region.binds md e=true→e.on≠i)→oi.apart ops oj=true) →
    i∈Region.ready md ops listed→YieldsIf P ops S oi v a→S w →
    AnyBut P md ops Q S L fuel (listed.setIfInBounds i true) (a.put oi.dst v) w→AnyBut P md ops Q S L (fuel+1) listed a w:=by
 intro fuel
 induction fuel with
 | zero =>
   intro listed a w _ hr hy hS H
   refine ⟨fun h=>(by rw [h] at hr;cases hr),fun j hj=>?_⟩
   by_cases hji:j=i
   · subst hji;exact hy.wpOp hi hS ⟨fun _=>hS,H⟩
   · have:=ready_mono hj hji
     rw [H.1] at this
     cases this
 | succ fuel ih =>
   intro listed a w hfree hr hy hS H
   refine ⟨fun h=>(by rw [h] at hr;cases hr),fun j hj=>?_⟩
   by_cases hji:j=i
   · subst hji;exact hy.wpOp hi hS ⟨fun _=>hS,H⟩
   have hjL:j≠L:=waits_ne hL hr hj
   obtain ⟨hjun,oj,hoj,hall⟩:=mem_ready.1 hj
   have hnot:∀ e∈oj.after,Region.binds md e=true→e.on≠i:=fun e he hb heq=>by
    have h1:=hall e he hb
    have h0:=(mem_ready.1 hr).1
    rw [heq] at h1
    rcases Nat.lt_or_ge i listed.size with h' | h'
    · simp [h'] at h0 h1;rw [h0] at h1;cases h1
    · simp [Array.getElem?_eq_none h'] at h1
   have h2:=wpOp_putIf hoj (hfree j oj hoj hji hjun hnot) (fun cs b=>hsel i oi cs b hi) (fun cs b=>hsel j oj cs b hoj) hQ hy (H.2 j (ready_mono hj hji))
   refine wpOp_mono (fun a' w' h3=>⟨fun _=>h3.2.1 hjL,ih (listed.setIfInBounds j true) a' w' (fun k ok hk hki hun hno=>?_) (ready_mono hr (Ne.symm hji)) h3.1 (h3.2.1 hjL) ?_⟩) h2
   · refine hfree k ok hk hki ?_ hno
     by_cases hjk:j=k
     · subst hjk;exact hjun
     · rw [getD_set_ne true hjk] at hun;exact hun
   · rw [Array.setIfInBounds_comm _ _ hji]
     exact h3.2.2
theorem AnyBut.take (i:Nat) {oi:Oper} {d:Option Tmp} {v:Value} {fuel:Nat} {listed:Array Bool} {a:Act} {w:World} (hi:ops[i]?=some oi) (hd:oi.dst=d)
  (hs:Region.noSelect ops=true) (hf:Region.free md ops listed i=true) (hr:(Region.ready md ops listed).contains i=true) (hL:waits md ops L i=true)
  (hQ:∀ c a w,Q (.panic c) (a.put d v) w→Q (.panic c) a w) (hw:Region.wanted oi (yielded ops a.tmps)=true) (hS:S w) (hy:∀ w,S w→(execOp a.eval oi).run P w=.ok (.value v) w)
  (h:AnyBut P md ops Q S L fuel (listed.setIfInBounds i true) (a.put d v) w):AnyBut P md ops Q S L (fuel+1) listed a w:=by
 subst hd
 exact AnyBut.first hi (Region.noSelect_spec hs) hQ hL fuel listed a w (Region.free_spec hi hf) (by simpa using hr) (.inl ⟨hw,hy⟩) hS h
theorem AnyBut.step (i:Nat) {o:Oper} {fuel:Nat} {listed:Array Bool} {a:Act} {w:World} (hr:Region.ready md ops listed=[i]) (ho:ops[i]?=some o) (hne:i≠L) (hw:Region.wanted o (yielded ops a.tmps)=true)
  (h:∀ K:Act→World→Prop,Hid (∀ a' w',S w'→AnyBut P md ops Q S L fuel (listed.setIfInBounds i true) a' w'→K a' w')→Oper.wp P o a w K Q):AnyBut P md ops Q S L (fuel+1) listed a w:=by
 refine ⟨fun h0=>absurd (hr ▸ h0) (by simp),fun j hj=>?_⟩
 rw [hr] at hj
 obtain rfl:j=i:=by simpa using hj
 refine wpOp_step ho fun K' hK=>?_
 rw [if_pos hw]
 exact h K' (K1 fun a' w' hS' hA=>hK _ _ ⟨fun _=>hS',hA⟩)
theorem AnyBut.last {o:Oper} {fuel:Nat} {listed:Array Bool} {a:Act} {w:World} (hr:Region.ready md ops listed=[L]) (hr2:Region.ready md ops (listed.setIfInBounds L true)=[]) (ho:ops[L]?=some o) (hw:Region.wanted o (yielded ops a.tmps)=true)
  (h:∀ K:Act→World→Prop,Hid (∀ a' w',Q .normal a' w'→K a' w')→Oper.wp P o a w K Q):AnyBut P md ops Q S L (fuel+1) listed a w:=by
 refine ⟨fun h0=>absurd (hr ▸ h0) (by simp),fun j hj=>?_⟩
 rw [hr] at hj
 obtain rfl:j=L:=by simpa using hj
 refine wpOp_step ho fun K' hK=>?_
 rw [if_pos hw]
 refine h K' (K1 fun a' w' hq=>hK _ _ ⟨fun hne=>absurd rfl hne,?_⟩)
 cases fuel with
 | zero=>exact ⟨hr2,hq⟩
 | succ f=>exact ⟨fun _=>hq,by rw [hr2];simp⟩
theorem wp_region_but {id:Nat} {a:Act} {w:World} (L:Nat) (S:World→Prop) (hm:P.follows .mixedOrders=true) (hS:S w.drew)
  (h:S w.drew→AnyBut P .any ops Q S L ops.size (Array.replicate ops.size false) a w.drew):(Code.region id ops true).wp P Q a w :=
 wp_region_any hm (AnyBut.any _ _ _ _ (h hS))
end
end Go.Proofs.YtdpojpcoghcieaaGreat
