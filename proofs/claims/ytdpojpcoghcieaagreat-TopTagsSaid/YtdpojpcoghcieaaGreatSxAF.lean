/- A part of the proof of TopTags: ShapeMake, ConfCheck. Conditions: none. -/
import Derived.Test.YtdpojpcoghcieaaGreatSxAC
set_option maxHeartbeats 8000000
set_option linter.all false
namespace Go.Proofs.YtdpojpcoghcieaaGreat
open Lib renaming hid → K1
open Go.RowKit
open Value renaming int → U, slice → Us
open IntKind renaming i64 → O
open List renaming setIfInBounds_toArray → Ws, set_cons_zero → Wt, set_cons_succ → Wu, mem_of_getElem? → WE
open Nat renaming le_refl → Ww
open Below renaming refl → Wx
open World renaming size_alloc → Wy, ownsRow_nil → WD, news_of_block → WF
open And renaming intro → Wz
open Bool renaming and_eq_true → WG, or_eq_true → WH
section
def Es (w:World) (B:Nat) (g:Nat) (zs:List Int):Prop :=
 g<B/\∃ (As Aw Ab:Option Addr) (cs cw cb:Nat),w.heap[g]?=some (.cells #[Us As zs.length cs,Us Aw (zs.length-1) cw,Us Ab (zs.length-1) cb,U O (cnt zs)] 199 (0,0)) /\
   zs.length<=cs/\zs.length-1<=cw/\zs.length-1<=cb/\RdI w B As zs/\Rd w B Aw (wcells zs (zs.length-1))/\Rd w B Ab (bcells zs (zs.length-1))
theorem Es.below {w w':World} {B g:Nat} {zs:List Int} (h:Es w B g zs) (hb:Below B w w'):Es w' B g zs:=by
 obtain ⟨hg,As,Aw,Ab,cs,cw,cb,h1,l1,l2,l3,h2,h3,h4⟩:=h;exact ⟨hg,As,Aw,Ab,cs,cw,cb,Bp h1 hb hg,l1,l2,l3,h2.below hb,h3.below hb,h4.below hb⟩
def Made (w:World) (zs:List Int) (e:Ending) (w':World):Prop :=
 Below w.heap.size w w'/\(AV zs=0->∃ g,e=.returned (.tuple #[.pointer (some ⟨g,0,none⟩),U O 0])/\w.heap.size<=g/\Es w' w'.heap.size g zs) /\
  (AV zs≠0->e=.returned (.tuple #[.pointer none,U O (AV zs)]))
def FN (w:World) (lo g:Nat) (zs:List Int):Prop :=
 lo<=g/\∃ (As Aw Ab:Option Addr) (cs cw cb:Nat),w.heap[g]?=some (.cells #[Us As zs.length cs,Us Aw (zs.length-1) cw,Us Ab (zs.length-1) cb,U O (cnt zs)] 199 (0,0)) /\
  w.ownsRow lo 3 1 (Us As zs.length cs) zs.length (zs.map (Value.int .i64))/\w.ownsRow lo 47 2 (Us Aw (zs.length-1) cw) (zs.length-1) (wcells zs (zs.length-1))/\w.ownsRow lo 47 2 (Us Ab (zs.length-1) cb) (zs.length-1) (bcells zs (zs.length-1))
theorem FN.shape {w:World} {lo g:Nat} {zs:List Int} (h:FN w lo g zs):Es w w.heap.size g zs:=by
 obtain ⟨_,As,Aw,Ab,cs,cw,cb,h1,h2,h3,h4⟩:=h;exact ⟨AZ h1,As,Aw,Ab,cs,cw,cb,h1,Be h2,Be h3,Be h4,AJ h2,AJ h3,AJ h4⟩
theorem Mid.from_ {w:World} {B g:Nat} {vs vw vb:Value} {zs:List Int} (h:Mid w B g vs vw vb (cnt zs) zs (zs.length-1) (zs.length-1)):B<=g->FN w B g zs:=fun hg=>by
 have h2:=h.sz;obtain ⟨As,cs,rfl⟩:=DF h.sz;obtain ⟨Aw,cw,rfl⟩:=DF h.ow;obtain ⟨Ab,cb,rfl⟩:=DF h.ob;exact ⟨hg,As,Aw,Ab,cs,cw,cb,h.blk,h2,h.ow,h.ob⟩
def Fb (w:World) (zs:List Int) (e:Ending) (w':World):Prop :=
 Below w.heap.size w w'/\(AV zs=0->∃ g,e=.returned (.tuple #[.pointer (some ⟨g,0,none⟩),U O 0])/\FN w' w.heap.size g zs) /\
  (AV zs≠0->e=.returned (.tuple #[.pointer none,U O (AV zs)]))
theorem Fb.made {w:World} {zs:List Int} {e:Ending} {w':World} (h:Fb w zs e w'):Made w zs e w' :=
 ⟨h.1,fun h0=>let ⟨g,he,hs⟩:=h.2.1 h0;⟨g,he,hs.1,hs.shape⟩,h.2.2⟩
theorem Tryz.infoR:(Tryz.prog.info? 47).map (fun i=>(i.zero,i.size,i.bytes))=some (some (.agg #[U O 0,U O 0]),2,16):=by kernel_rfl
theorem Ot (zs:List Int) (k:Nat) (hall:∀ z∈zs,okSz z=true) (hl:zs.length<=16):0<=lo zs k/\lo zs k<=17592202821632:=by
 have bc:=GF (zs.take (k+1)) (fun z hz=>hall z (List.mem_of_mem_take hz));have bl:((zs.take (k+1)).length:Int)<=16:=by have:=List.length_take_le (k+1) zs;have:=List.length_take_le' (k+1) zs;omega
 unfold lo;omega
theorem Kz (A:Option Addr) (cap:Nat) (zs:List Int) (w:World) (h2:zs.length<2\/16<zs.length) (hm:zs.length<=9223372036854775807) :
  Calls Tryz.prog 59 #[Us A zs.length cap] w (Fb w zs):=by
 have hcode:AV zs=5:=by unfold AV;rw [if_pos h2]
 have Hcode:=K1 hcode;clear hcode
 rcases h2 with h2 | h2
 all_goals
  go_enter Tryz.func59,Tryz.ntmps59
  go_wp2
  go_ret2
  exact ⟨Wx _ _,fun h=>absurd (Hcode.out.symm.trans h) (by decide),fun _=>Iz Hcode.out.symm⟩
theorem Ou (A:Option Addr) (cap:Nat) (zs:List Int) (w:World) (h2:¬ zs.length<2) (h16:¬ 16<zs.length) (hr:RdI w w.heap.size A zs) (hz:zs.all okSz=false) :
  Calls Tryz.prog 59 #[Us A zs.length cap] w (Fb w zs):=by
 have hcode:AV zs=5:=by unfold AV;rw [if_neg (by omega),if_pos hz]
 have Hcode:=K1 hcode;have C:=K1 (Kc A cap zs w hr (by omega));have HZ:=K1 hz;clear hcode hz;go_enter Tryz.func59,Tryz.ntmps59
 go_wp2_with (go_at_call 97;refine C.out.mono ?_;rintro e w' ⟨rfl,rfl⟩;rw [HZ.out])
 go_ret2
 exact ⟨Wx _ _,fun h=>absurd (Hcode.out.symm.trans h) (by decide),fun _=>Iz Hcode.out.symm⟩
theorem Ov (A:Option Addr) (cap:Nat) (zs:List Int) (w:World) (hr:RdI w w.heap.size A zs) (h0:0<zs.length) (hl:zs.length<=1000000000) :
  Calls Tryz.prog 98 #[Us A zs.length cap] w fun e w'=>∃ gs cs,e=.returned (Us (some ⟨gs,0,none⟩) zs.length cs)/\w'.ownsRow w.heap.size 3 1 (Us (some ⟨gs,0,none⟩) zs.length cs) zs.length (zs.map (Value.int .i64))/\Below w.heap.size w w':=by
 refine (II A zs.length cap (zs.map (Value.int .i64)) w hr (by simp) (NA zs) (by omega)).mono ?_;rintro e w' ⟨A',c',rfl,hown,_,hbw⟩;obtain ⟨gs,cs,h1,_⟩:=hown.form h0;injection h1 with h1 _ h3
 subst h1;subst h3
 exact ⟨gs,_,rfl,hown,hbw⟩
set_option linter.unusedSimpArgs false in
set_option maxRecDepth 100000 in
theorem Ow (A:Option Addr) (cap:Nat) (zs:List Int) (w:World) (h2:¬ zs.length<2) (h16:¬ 16<zs.length) (hr:RdI w w.heap.size A zs) (hcap:zs.length<=cap) (hz:zs.all okSz=true) :
  Calls Tryz.prog 59 #[Us A zs.length cap] w (Fb w zs):=by
 have hall:∀ z∈zs,okSz z=true:=List.all_eq_true.1 hz;have hcode:AV zs=if 1048576<cnt zs then 4 else 0:=by unfold AV;rw [if_neg (by omega),if_neg (by rw [hz];decide)]
 have Hcode:=K1 hcode;have C:=K1 (Kc A cap zs w hr (by omega));have HZ:=K1 hz;have Hall:=K1 hall;clear hcode hz hall;obtain ⟨i0,hi0,hz0,hz1,hz2⟩:=info_parts Tryz.infoR;have I0:=K1 hi0;have I1:=K1 hz0;have I2:=K1 hz1;have I3:=K1 hz2;clear hi0 hz0 hz1 hz2;have d1:decide ((zs.length:Int)<2)=false:=by simp;omega
 have d2:decide ((16:Int)<(zs.length:Int))=false:=by simp;omega
 obtain ⟨b,off,rfl,hb,hc⟩:=hr.at_ (by omega);have CL:=K1 (Ov _ cap zs w hr (by omega) (by omega));have Hc:=K1 hc;clear hc;go_enter Tryz.func59,Tryz.ntmps59
 go_wp2_with (first | (go_at_call 97;refine C.out.mono ?_;rintro e w' ⟨rfl,rfl⟩;rw [HZ.out]) | (go_at_call 98;refine CL.out.mono ?_;rintro e w1 ⟨gs,cs,rfl,hown,hbw⟩))
 go_loopw [30] (fun i wr=>∃ k:Nat,k<=zs.length-1/\i=U O k/\∃ vw vb,Mid wr w.heap.size w1.heap.size (Us (some ⟨gs,0,none⟩) zs.length cs) vw vb (lo zs k) zs k k/\Below w.heap.size w wr)
  (fun i _=>zs.length-(intOf i).toNat)
 case atStart =>
  refine ⟨0,Nat.zero_le _,rfl,Us none 0 0,Us none 0 0,⟨?_,?_,?_,WD _ _ _ _,WD _ _ _ _,.inl rfl,hbw.size⟩,(hbw.alloc hbw.size _).alloc (by simp;have:=hbw.size;omega) _⟩
  . have hlo:lo zs 0=0:=by
     unfold lo
     match zs with
     | []=>rfl
     | _::_=>rfl
    rw [hlo];exact Ct (heap_alloc_new w1 _) _
  . have:=heap_alloc_new (w1.alloc (.cells #[Us (some ⟨gs,0,none⟩) zs.length cs,Us none 0 0,Us none 0 0,U O 0] 199)) (.cells #[.pointer (some ⟨w1.heap.size,0,none⟩)] 150);rw [Wy] at this;exact this
  . exact (hown.alloc _).alloc _
 case round =>
  obtain ⟨k,hk,rfl,vw,vb,hM,hbr⟩:=hrel
  by_cases hlt:k<zs.length-1
  . obtain ⟨x,hx⟩:=Au zs k (by omega);obtain ⟨y,hy⟩:=Au zs (k+1) (by omega);have bx:=Di.1 (Hall.out x (WE hx));have byy:=Di.1 (Hall.out y (WE hy))
    have bm:0<=y*x/\y*x<=1099511627776:=⟨Int.mul_nonneg (by omega) (by omega),Int.mul_le_mul byy.2 bx.2 (by omega) (by omega)⟩
    have bl:=Ot zs k Hall.out (by omega);have cA:wr.cell? ⟨b,off+1+k,none⟩=some (U O y):=(hbr.cell (p:=⟨b,off+1+k,none⟩) hb).trans (by rw [Nat.add_assoc,Nat.add_comm 1 k];exact Hc.out _ _ hy);have cB:wr.cell? ⟨b,off+k,none⟩=some (U O x):=(hbr.cell (p:=⟨b,off+k,none⟩) hb).trans (Hc.out _ _ hx);have c5:wr.cell? ⟨w1.heap.size+1,0,none⟩=some (.pointer (some ⟨w1.heap.size,0,none⟩)):=Ay hM.box 0;have c6:wr.cell? ⟨w1.heap.size,1,none⟩=some vw:=Ay hM.blk 1;have wp:IntKind.i64.wrap (y*x)=y*x:=IntWalk.i64_in _ (by omega);have HX:=K1 hx;have HY:=K1 hy;have HM:=K1 hM;clear hx hy hM
    have k0:(0:Int)<=(k:Int):=Int.natCast_nonneg _;have k1:(k:Int)<(zs.length:Int):=by omega
    go_wp2
    refine Ke 17 (fun w'=>w'.cell? ⟨w1.heap.size+1,0,none⟩=some (.pointer (some ⟨w1.heap.size,0,none⟩))/\w'.cell? ⟨w1.heap.size,1,none⟩=some vw/\w'.cell? ⟨b,off+k,none⟩=some (U O x)) (by kernel_rfl) ⟨c5,c6,cB⟩ (fun hHeld=>?_);refine Ba.take 0 (d:=(some 35)) (v:=?_) rfl rfl (by kernel_rfl) (by kernel_rfl) (by kernel_rfl) (by kernel_rfl) (fun _ _ _ h=>h) (by rfl) (by assumption) ?_ ?_
    rotate_left
    . (intro wx hSw;(try dsimp only at hSw);go_simp);all_goals with_reducible rfl
    try simp only [Act.put,Ws,Wt,Wu]
    refine Ba.take 1 (d:=(some 36)) (v:=?_) rfl rfl (by kernel_rfl) (by kernel_rfl) (by kernel_rfl) (by kernel_rfl) (fun _ _ _ h=>h) (by rfl) (by assumption) ?_ ?_
    rotate_left
    . (intro wx hSw;(try dsimp only at hSw);go_simp);all_goals with_reducible rfl
    try simp only [Act.put,Ws,Wt,Wu]
    refine Ba.take 2 (d:=(some 37)) (v:=?_) rfl rfl (by kernel_rfl) (by kernel_rfl) (by kernel_rfl) (by kernel_rfl) (fun _ _ _ h=>h) (by rfl) (by assumption) ?_ ?_
    rotate_left
    . (intro wx hSw;(try dsimp only at hSw);go_simp);all_goals with_reducible rfl
    try simp only [Act.put,Ws,Wt,Wu]
    refine Ba.take 3 (d:=(some 38)) (v:=?_) rfl rfl (by kernel_rfl) (by kernel_rfl) (by kernel_rfl) (by kernel_rfl) (fun _ _ _ h=>h) (by rfl) (by assumption) ?_ ?_
    rotate_left
    . (intro wx hSw;(try dsimp only at hSw);go_simp);all_goals with_reducible rfl
    try simp only [Act.put,Ws,Wt,Wu]
    refine Ba.take 4 (d:=(some 39)) (v:=?_) rfl rfl (by kernel_rfl) (by kernel_rfl) (by kernel_rfl) (by kernel_rfl) (fun _ _ _ h=>h) (by rfl) (by assumption) ?_ ?_
    rotate_left
    . (intro wx hSw;(try dsimp only at hSw);go_simp);all_goals with_reducible rfl
    try simp only [Act.put,Ws,Wt,Wu]
    refine Ba.take 5 (d:=(some 40)) (v:=?_) rfl rfl (by kernel_rfl) (by kernel_rfl) (by kernel_rfl) (by kernel_rfl) (fun _ _ _ h=>h) (by rfl) (by assumption) ?_ ?_
    rotate_left
    . (intro wx hSw;(try dsimp only at hSw);go_simp);all_goals with_reducible rfl
    try simp only [Act.put,Ws,Wt,Wu]
    refine Ba.take 6 (d:=(some 41)) (v:=?_) rfl rfl (by kernel_rfl) (by kernel_rfl) (by kernel_rfl) (by kernel_rfl) (fun _ _ _ h=>h) (by rfl) (by assumption) ?_ ?_
    rotate_left
    . (intro wx hSw;(try dsimp only at hSw);go_simp);all_goals with_reducible rfl
    try simp only [Act.put,Ws,Wt,Wu]
    refine Ba.take 7 (d:=(some 42)) (v:=?_) rfl rfl (by kernel_rfl) (by kernel_rfl) (by kernel_rfl) (by kernel_rfl) (fun _ _ _ h=>h) (by rfl) (by assumption) ?_ ?_
    rotate_left
    . (intro wx hSw;(try dsimp only at hSw);go_simp);all_goals with_reducible rfl
    try simp only [Act.put,Ws,Wt,Wu]
    refine Ba.take 8 (d:=(some 43)) (v:=?_) rfl rfl (by kernel_rfl) (by kernel_rfl) (by kernel_rfl) (by kernel_rfl) (fun _ _ _ h=>h) (by rfl) (by assumption) ?_ ?_
    rotate_left
    . (intro wx hSw;(try dsimp only at hSw);go_simp);all_goals with_reducible rfl
    try simp only [Act.put,Ws,Wt,Wu]
    refine Ba.take 9 (d:=(some 44)) (v:=?_) rfl rfl (by kernel_rfl) (by kernel_rfl) (by kernel_rfl) (by kernel_rfl) (fun _ _ _ h=>h) (by rfl) (by assumption) ?_ ?_
    rotate_left
    . (intro wx hSw;(try dsimp only at hSw);go_simp);all_goals with_reducible rfl
    try simp only [Act.put,Ws,Wt,Wu]
    refine Ba.take 10 (d:=(some 45)) (v:=?_) rfl rfl (by kernel_rfl) (by kernel_rfl) (by kernel_rfl) (by kernel_rfl) (fun _ _ _ h=>h) (by rfl) (by assumption) ?_ ?_
    rotate_left
    . (intro wx hSw;(try dsimp only at hSw);go_simp);all_goals with_reducible rfl
    try simp only [Act.put,Ws,Wt,Wu]
    refine Ba.take 11 (d:=(some 46)) (v:=?_) rfl rfl (by kernel_rfl) (by kernel_rfl) (by kernel_rfl) (by kernel_rfl) (fun _ _ _ h=>h) (by rfl) (by assumption) ?_ ?_
    rotate_left
    . (intro wx hSw;(try dsimp only at hSw);go_simp);all_goals with_reducible rfl
    try simp only [Act.put,Ws,Wt,Wu]
    refine Ba.step 12 (by kernel_rfl) rfl (by decide) (by rfl) (fun K hK=>?_)
    go_simp
    (with_reducible refine (Kd w1.heap.size (w1.heap.size+1) (Us (some ⟨gs,0,none⟩) zs.length cs) vw vb (lo zs k) (y*x) _ ?_ ?_ ?_ ?_ ?_ ?_).mono ?_)
    . exact HM.out.blk
    . exact HM.out.box
    . omega
    . omega
    . omega
    . omega
    rintro e w2 ⟨rfl,hg2,hgr2⟩;have M2:=K1 ((HM.out.drew.next hg2 hgr2).alloc (.cells #[U O (lo zs k),U O (lo zs k+y*x)] 47));have hb2:Below w.heap.size w w2:=(Cs hbr).grown hgr2 hbr.size (fun q hq=>by have:=hbw.size;injection hq with hq;omega);have d5:w2.cell? ⟨w1.heap.size+1,0,none⟩=some (.pointer (some ⟨w1.heap.size,0,none⟩)):=Ay (DE HM.out.drew.box hgr2 (by simp)) 0;have d6:w2.cell? ⟨w1.heap.size,1,none⟩=some vw:=Ay hg2 1;have dB:w2.cell? ⟨b,off+k,none⟩=some (U O x):=(hb2.cell (p:=⟨b,off+k,none⟩) hb).trans (Hc.out _ _ HX.out);have d7:=Ay M2.out.box 0;have d8:=Ay M2.out.blk 1
    have d9:=((hb2.alloc hb2.size (.cells #[U O (lo zs k),U O (lo zs k+y*x)] 47)).cell (p:=⟨b,off+k,none⟩) hb).trans (Hc.out _ _ HX.out);refine hK.out _ _ ⟨d5,d6,dB⟩ ?_;clear hK K hg2 hHeld
    try simp only [Act.put,Ws,Wt,Wu]
    refine Ba.step 13 (by kernel_rfl) rfl (by decide) (by rfl) (fun K hK=>?_)
    go_simp
    refine hK.out _ _ ⟨d7,d8,d9⟩ ?_;clear hK K
    try simp only [Act.put,Ws,Wt,Wu]
    refine Ba.step 14 (by kernel_rfl) rfl (by decide) (by rfl) (fun K hK=>?_)
    refine wp_append_lies _ _ _ _ rfl w.heap.size 47 i0 _ 2 16 Tryz.underlying44 I0.out I1.out I2.out I3.out rfl (by omega) vw k (wcells zs k) rfl M2.out.ow
      ⟨w2.heap.size,0,none⟩ 1 1 [U O (lo zs k),U O (lo zs k+y*x)] rfl rfl (WF (cs:=#[U O (lo zs k),U O (lo zs k+y*x)]) (t:=47) (fr:=(0,0)) (heap_alloc_new w2 _)) (by simp [Value.oneCell'])
      (by omega) (by simp only [maxLen];omega) (by omega) (by simp;have:=hb2.size;omega) (w2.heap.size+1) (by simp) ?_
    intro gg cap' w3 hown3 hgr3 hat3 hlt3;have hm3:wcells zs k++[U O (lo zs k),U O (lo zs k+y*x)]=wcells zs (k+1):=by rw [wcells,IC zs k x y HX.out HY.out]
    rw [hm3] at hown3;have M3:=K1 (M2.out.setW hown3 hgr3 (by rw [Wy];exact hat3));have hb3:Below w.heap.size w w3:=(hb2.alloc hb2.size _).grown hgr3 (by simp;have:=hb2.size;omega) (fun q hq=>(M2.out.ow.lt q hq).1);have e5:w3.cell? ⟨w1.heap.size+1,0,none⟩=some (.pointer (some ⟨w1.heap.size,0,none⟩)):=Ay (DE M2.out.box hgr3 (Ne.symm (Cl M2.out.ow M2.out.box (by decide)))) 0;have e6:w3.cell? ⟨w1.heap.size,1,none⟩=some vw:=Ay (M2.out.blkW hgr3) 1;have f6:w3.frozen? ⟨w1.heap.size,1,none⟩=false:=DD (M2.out.blkW hgr3) 1
    have eB:w3.cell? ⟨b,off+k,none⟩=some (U O x):=(hb3.cell (p:=⟨b,off+k,none⟩) hb).trans (Hc.out _ _ HX.out);have hb4:=hb3.setCell (p:=⟨w1.heap.size,1,none⟩) hbw.size (Us (some ⟨gg,0,none⟩) (k+1) cap');refine hK.out _ _ ⟨e5,e6,eB⟩ ?_;clear hK K hm3 hown3 d5 d6 dB d7 d8 d9;have hHeld:=Wz e5 (Wz e6 eB)
    try simp only [Act.put,Ws,Wt,Wu]
    refine Ba.step 15 (by kernel_rfl) rfl (by decide) (by rfl) (fun K hK=>?_)
    go_simp
    refine hK.out _ _ hHeld ?_;clear hK K
    try simp only [Act.put,Ws,Wt,Wu]
    refine Ba.step 16 (by kernel_rfl) rfl (by decide) (by rfl) (fun K hK=>?_)
    go_simp
    refine hK.out _ _ hHeld ?_;clear hK K
    try simp only [Act.put,Ws,Wt,Wu]
    refine Ba.last (by kernel_rfl) (by kernel_rfl) rfl (by rfl) (fun K hK=>?_)
    go_simp
    refine hK.out _ _ ?_;clear hK K hHeld;clear hgr2 hgr3 hat3 hlt3 c5 c6 cA cB e5 e6 f6 eB HM M2 hb2 hb3
    go_wp2
    generalize w3.setCell ⟨w1.heap.size,1,none⟩ (Us (some ⟨gg,0,none⟩) (k+1) cap')=w4 at *;have c5:w4.cell? ⟨w1.heap.size+1,0,none⟩=some (.pointer (some ⟨w1.heap.size,0,none⟩)):=Ay M3.out.box 0;have c6:w4.cell? ⟨w1.heap.size,2,none⟩=some vb:=Ay M3.out.blk 2;refine Ke 12 (fun w'=>w'.cell? ⟨w1.heap.size+1,0,none⟩=some (.pointer (some ⟨w1.heap.size,0,none⟩))/\w'.cell? ⟨w1.heap.size,2,none⟩=some vb) (by kernel_rfl) ⟨c5,c6⟩ (fun hHeld=>?_);refine Ba.take 0 (d:=(some 52)) (v:=?_) rfl rfl (by kernel_rfl) (by kernel_rfl) (by kernel_rfl) (by kernel_rfl) (fun _ _ _ h=>h) (by rfl) (by assumption) ?_ ?_
    rotate_left
    . (intro wx hSw;(try dsimp only at hSw);go_simp);all_goals with_reducible rfl
    try simp only [Act.put,Ws,Wt,Wu]
    refine Ba.take 1 (d:=(some 53)) (v:=?_) rfl rfl (by kernel_rfl) (by kernel_rfl) (by kernel_rfl) (by kernel_rfl) (fun _ _ _ h=>h) (by rfl) (by assumption) ?_ ?_
    rotate_left
    . (intro wx hSw;(try dsimp only at hSw);go_simp);all_goals with_reducible rfl
    try simp only [Act.put,Ws,Wt,Wu]
    refine Ba.take 2 (d:=(some 54)) (v:=?_) rfl rfl (by kernel_rfl) (by kernel_rfl) (by kernel_rfl) (by kernel_rfl) (fun _ _ _ h=>h) (by rfl) (by assumption) ?_ ?_
    rotate_left
    . (intro wx hSw;(try dsimp only at hSw);go_simp);all_goals with_reducible rfl
    try simp only [Act.put,Ws,Wt,Wu]
    refine Ba.take 3 (d:=(some 55)) (v:=?_) rfl rfl (by kernel_rfl) (by kernel_rfl) (by kernel_rfl) (by kernel_rfl) (fun _ _ _ h=>h) (by rfl) (by assumption) ?_ ?_
    rotate_left
    . (intro wx hSw;(try dsimp only at hSw);go_simp);all_goals with_reducible rfl
    try simp only [Act.put,Ws,Wt,Wu]
    refine Ba.take 4 (d:=(some 56)) (v:=?_) rfl rfl (by kernel_rfl) (by kernel_rfl) (by kernel_rfl) (by kernel_rfl) (fun _ _ _ h=>h) (by rfl) (by assumption) ?_ ?_
    rotate_left
    . (intro wx hSw;(try dsimp only at hSw);go_simp);all_goals with_reducible rfl
    try simp only [Act.put,Ws,Wt,Wu]
    refine Ba.take 5 (d:=(some 57)) (v:=?_) rfl rfl (by kernel_rfl) (by kernel_rfl) (by kernel_rfl) (by kernel_rfl) (fun _ _ _ h=>h) (by rfl) (by assumption) ?_ ?_
    rotate_left
    . (intro wx hSw;(try dsimp only at hSw);go_simp);all_goals with_reducible rfl
    try simp only [Act.put,Ws,Wt,Wu]
    refine Ba.take 6 (d:=(some 58)) (v:=?_) rfl rfl (by kernel_rfl) (by kernel_rfl) (by kernel_rfl) (by kernel_rfl) (fun _ _ _ h=>h) (by rfl) (by assumption) ?_ ?_
    rotate_left
    . (intro wx hSw;(try dsimp only at hSw);go_simp);all_goals with_reducible rfl
    try simp only [Act.put,Ws,Wt,Wu]
    refine Ba.step 7 (by kernel_rfl) rfl (by decide) (by rfl) (fun K hK=>?_)
    go_simp
    (with_reducible refine (Kd w1.heap.size (w1.heap.size+1) (Us (some ⟨gs,0,none⟩) zs.length cs) (Us (some ⟨gg,0,none⟩) (k+1) cap') vb (lo zs k+y*x) y _ ?_ ?_ ?_ ?_ ?_ ?_).mono ?_)
    . exact M3.out.blk
    . exact M3.out.box
    . omega
    . omega
    . omega
    . omega
    rintro e w5 ⟨rfl,hg5,hgr5⟩;have M5:=K1 ((M3.out.drew.next hg5 hgr5).alloc (.cells #[U O (lo zs k+y*x),U O (lo zs k+y*x+y)] 47));have hb5:Below w.heap.size w w5:=(Cs hb4).grown hgr5 hb4.size (fun q hq=>by have:=hbw.size;injection hq with hq;omega);have d5:w5.cell? ⟨w1.heap.size+1,0,none⟩=some (.pointer (some ⟨w1.heap.size,0,none⟩)):=Ay (DE M3.out.drew.box hgr5 (by simp)) 0;have d6:w5.cell? ⟨w1.heap.size,2,none⟩=some vb:=Ay hg5 2;have d7:=Ay M5.out.box 0;have d8:=Ay M5.out.blk 2;refine hK.out _ _ ⟨d5,d6⟩ ?_;clear hK K hg5 hHeld
    try simp only [Act.put,Ws,Wt,Wu]
    refine Ba.step 8 (by kernel_rfl) rfl (by decide) (by rfl) (fun K hK=>?_)
    go_simp
    refine hK.out _ _ ⟨d7,d8⟩ ?_;clear hK K
    try simp only [Act.put,Ws,Wt,Wu]
    refine Ba.step 9 (by kernel_rfl) rfl (by decide) (by rfl) (fun K hK=>?_)
    refine wp_append_lies _ _ _ _ rfl w.heap.size 47 i0 _ 2 16 Tryz.underlying44 I0.out I1.out I2.out I3.out rfl (by omega) vb k (bcells zs k) rfl M5.out.ob
      ⟨w5.heap.size,0,none⟩ 1 1 [U O (lo zs k+y*x),U O (lo zs k+y*x+y)] rfl rfl (WF (cs:=#[U O (lo zs k+y*x),U O (lo zs k+y*x+y)]) (t:=47) (fr:=(0,0)) (heap_alloc_new w5 _)) (by simp [Value.oneCell'])
      (by omega) (by simp only [maxLen];omega) (by omega) (by simp;have:=hb5.size;omega) (w5.heap.size+1) (by simp) ?_
    intro gb capb w6 hown6 hgr6 hat6 hlt6;have hm6:bcells zs k++[U O (lo zs k+y*x),U O (lo zs k+y*x+y)]=bcells zs (k+1):=by rw [bcells,IC zs k x y HX.out HY.out,IB zs k x y HX.out HY.out]
    rw [hm6] at hown6;have M6:=K1 (M5.out.setB hown6 hgr6 (by rw [Wy];exact hat6));have hb6:Below w.heap.size w w6:=(hb5.alloc hb5.size _).grown hgr6 (by simp;have:=hb5.size;omega) (fun q hq=>(M5.out.ob.lt q hq).1);have e5:w6.cell? ⟨w1.heap.size+1,0,none⟩=some (.pointer (some ⟨w1.heap.size,0,none⟩)):=Ay (DE M5.out.box hgr6 (Ne.symm (Cl M5.out.ob M5.out.box (by decide)))) 0;have e6:w6.cell? ⟨w1.heap.size,2,none⟩=some vb:=Ay (M5.out.blkB hgr6) 2;have f6:w6.frozen? ⟨w1.heap.size,2,none⟩=false:=DD (M5.out.blkB hgr6) 2
    have hb7:=hb6.setCell (p:=⟨w1.heap.size,2,none⟩) hbw.size (Us (some ⟨gb,0,none⟩) (k+1) capb);refine hK.out _ _ ⟨e5,e6⟩ ?_;clear hK K hm6 hown6 d5 d6 d7 d8;have hHeld:=Wz e5 e6
    try simp only [Act.put,Ws,Wt,Wu]
    refine Ba.step 10 (by kernel_rfl) rfl (by decide) (by rfl) (fun K hK=>?_)
    go_simp
    refine hK.out _ _ hHeld ?_;clear hK K
    try simp only [Act.put,Ws,Wt,Wu]
    refine Ba.step 11 (by kernel_rfl) rfl (by decide) (by rfl) (fun K hK=>?_)
    go_simp
    refine hK.out _ _ hHeld ?_;clear hK K
    try simp only [Act.put,Ws,Wt,Wu]
    refine Ba.last (by kernel_rfl) (by kernel_rfl) rfl (by rfl) (fun K hK=>?_)
    go_simp
    refine hK.out _ _ ?_;clear hK K hHeld hgr5 hgr6 hat6 hlt6 e5 e6 f6 M5 hb5 hb6 wp bm c5 c6
    go_wp2
    go_roundw
    case rel=>exact ⟨k+1,by omega,by go_num,_,_,by rw [IB zs k x y HX.out HY.out];exact M6.out,hb7⟩
    case measure=>simp [intOf];omega
  . obtain rfl:k=zs.length-1:=by omega
    have hlo:lo zs (zs.length-1)=cnt zs:=by unfold lo;rw [List.take_of_length_le (by omega)]
    rw [hlo] at hM;have HS:=K1 hM.from_;have c5:wr.cell? ⟨w1.heap.size+1,0,none⟩=some (.pointer (some ⟨w1.heap.size,0,none⟩)):=Ay hM.box 0;have c6:wr.cell? ⟨w1.heap.size,3,none⟩=some (U O (cnt zs)):=Ay hM.blk 3;clear hlo hM
    by_cases h4:1048576<cnt zs
    . have hc4:Hid (AV zs=4):=K1 (by rw [Hcode.out,if_pos h4])
      go_wp2
      go_ret2
      exact ⟨hbr,fun h=>absurd (hc4.out.symm.trans h) (by decide),fun _=>Iz hc4.out.symm⟩
    . have hc4:Hid (AV zs=0):=K1 (by rw [Hcode.out,if_neg h4])
      go_wp2
      go_ret2
      exact ⟨hbr,fun _=>⟨w1.heap.size,rfl,HS.out hbw.size⟩,fun h=>absurd hc4.out h⟩
theorem K2 (A:Option Addr) (cap:Nat) (zs:List Int) (w:World) (hr:RdI w w.heap.size A zs) (hcap:zs.length<=cap) (hm:zs.length<=9223372036854775807) :
  Calls Tryz.prog 59 #[Us A zs.length cap] w (Fb w zs):=by
 by_cases h2:zs.length<2
 . exact Kz A cap zs w (.inl h2) hm
 by_cases h16:16<zs.length
 . exact Kz A cap zs w (.inr h16) hm
 cases hz:zs.all okSz
 . exact Ou A cap zs w h2 h16 hr hz
 . exact Ow A cap zs w h2 h16 hr hcap hz
theorem K3 (A:Option Addr) (cap:Nat) (zs:List Int) (w:World) (hr:RdI w w.heap.size A zs) (hcap:zs.length<=cap) (hm:zs.length<=9223372036854775807) :
  Calls Tryz.prog 59 #[Us A zs.length cap] w (Made w zs):=(K2 A cap zs w hr hcap hm).mono fun _ _ h=>h.made
def Ox (w:World) (zs:List Int) (e:Ending) (w':World):Prop :=
 ∃ g,e=.returned (.tuple #[.pointer (some ⟨g,0,none⟩),U O 0])/\Below w.heap.size w w'/\w.heap.size<=g/\Es w' w'.heap.size g zs
theorem FO (A:Option Addr) (cap:Nat) (zs:List Int) (w:World) (hr:RdI w w.heap.size A zs) (hcap:zs.length<=cap) (hm:zs.length<=9223372036854775807) (h:AV zs=0) :
  Calls Tryz.prog 59 #[Us A zs.length cap] w (Ox w zs) :=
 (K3 A cap zs w hr hcap hm).mono fun _ _ ⟨h1,h2,_⟩=>by
  obtain ⟨g,e,hg,hS⟩:=h2 h;exact ⟨g,e,h1,hg,hS⟩
theorem Oy (A:Option Addr) (cap:Nat) (zs:List Int) (w:World) (hr:RdI w w.heap.size A zs) (hcap:zs.length<=cap) (hm:zs.length<=9223372036854775807) (h:AV zs≠0) :
  Calls Tryz.prog 59 #[Us A zs.length cap] w fun e w'=>e=.returned (.tuple #[.pointer none,U O (AV zs)])/\Below w.heap.size w w' :=
 (K3 A cap zs w hr hcap hm).mono fun _ _ ⟨h1,_,h3⟩=>⟨h3 h,h1⟩
theorem BP (x:Int) (w:World) :
  Calls Tryz.prog 95 #[U O x] w fun e w'=>e=.returned (.bool (okSz x))/\w=w':=by
 by_cases h1:1<=x
 . by_cases h2:x<=1048576
   all_goals
    go_enter Tryz.func95,Tryz.ntmps95
    go_wp2
    go_ret;exact ⟨AY (by simp [okSz];omega),rfl⟩
 . go_enter Tryz.func95,Tryz.ntmps95
   go_wp2
   go_ret;exact ⟨AY (by simp [okSz];omega),rfl⟩
theorem BQ (A:Option Addr) (n cap:Nat) (sh ra mo wo ba mi st bu ch wi ca:Int) (w w1:World) (hb:Below (w.alloc (.cells #[Us A n cap,U O sh,U O ra,U O mo,U O wo,U O ba,U O mi,U O st,U O bu,U O ch,U O wi,U O ca] 24)).heap.size (w.alloc (.cells #[Us A n cap,U O sh,U O ra,U O mo,U O wo,U O ba,U O mi,U O st,U O bu,U O ch,U O wi,U O ca] 24)) w1) :
  w1.cell? ⟨w.heap.size,0,none⟩=some (Us A n cap)/\w1.cell? ⟨w.heap.size,1,none⟩=some (U O sh)/\w1.cell? ⟨w.heap.size,4,none⟩=some (U O wo)/\w1.cell? ⟨w.heap.size,5,none⟩=some (U O ba)/\w1.cell? ⟨w.heap.size,6,none⟩=some (U O mi) /\
  w1.cell? ⟨w.heap.size,7,none⟩=some (U O st)/\w1.cell? ⟨w.heap.size,8,none⟩=some (U O bu)/\w1.cell? ⟨w.heap.size,9,none⟩=some (U O ch)/\w1.cell? ⟨w.heap.size,10,none⟩=some (U O wi)/\w1.cell? ⟨w.heap.size,11,none⟩=some (U O ca):=by
 have hn:=Bp (heap_alloc_new w (.cells #[Us A n cap,U O sh,U O ra,U O mo,U O wo,U O ba,U O mi,U O st,U O bu,U O ch,U O wi,U O ca] 24)) hb (by simp);exact ⟨Ay hn 0,Ay hn 1,Ay hn 4,Ay hn 5,Ay hn 6,Ay hn 7,Ay hn 8,Ay hn 9,Ay hn 10,Ay hn 11⟩
def Coded (w:World) (k:Int) (e:Ending) (w':World):Prop:=e=.returned (U O k)/\Below w.heap.size w w'
theorem Oz (A:Option Addr) (cap:Nat) (zs:List Int) (c:Cf) (w:World) (hr:RdI w w.heap.size A zs) (hcap:zs.length<=cap) (hm:zs.length<=9223372036854775807) (h:AV zs≠0) :
  Calls Tryz.prog 58 #[B7 A zs.length cap c] w (Coded w (AT zs c)):=by
 obtain ⟨sh,ra,mo,wo,ba,mi,st,bu,ch,wi,ca⟩:=c;dsimp only [B7]
 have hr1:RdI (w.alloc (.cells #[Us A zs.length cap,U O sh,U O ra,U O mo,U O wo,U O ba,U O mi,U O st,U O bu,U O ch,U O wi,U O ca] 24)) (w.alloc (.cells #[Us A zs.length cap,U O sh,U O ra,U O mo,U O wo,U O ba,U O mi,U O st,U O bu,U O ch,U O wi,U O ca] 24)).heap.size A zs :=
  (hr.alloc (Ww _) _).more (by simp)
 have C:=K1 (Oy A cap zs _ hr1 hcap hm h);have Hne:=K1 h;clear hr1
 by_cases l1:wo<1
 . have hfin:=K1 (code6 (zs:=zs) (c:=⟨sh,ra,mo,wo,ba,mi,st,bu,ch,wi,ca⟩) (.inl l1));go_enter Tryz.func58,Tryz.ntmps58
   go_wp2_with (first
    | (go_at_call 95;refine (BP _ _).mono ?_;rintro e w' ⟨rfl,rfl⟩)
    | (go_at_call 59;refine C.out.mono ?_;rintro e w1 ⟨rfl,hb1⟩
       obtain ⟨c0,c1,c4,c5,c6,c7,c8,c9,c10,c11⟩:=BQ A zs.length cap sh ra mo wo ba mi st bu ch wi ca w w1 hb1))
   go_ret;exact ⟨AN hfin.out.symm,((Wx _ _).alloc (Ww _) _).trans (hb1.mono (by simp))⟩
 by_cases l2:64<wo
 . have hfin:=K1 (code6 (zs:=zs) (c:=⟨sh,ra,mo,wo,ba,mi,st,bu,ch,wi,ca⟩) (.inr l2));go_enter Tryz.func58,Tryz.ntmps58
   go_wp2_with (first
    | (go_at_call 95;refine (BP _ _).mono ?_;rintro e w' ⟨rfl,rfl⟩)
    | (go_at_call 59;refine C.out.mono ?_;rintro e w1 ⟨rfl,hb1⟩
       obtain ⟨c0,c1,c4,c5,c6,c7,c8,c9,c10,c11⟩:=BQ A zs.length cap sh ra mo wo ba mi st bu ch wi ca w w1 hb1))
   go_ret;exact ⟨AN hfin.out.symm,((Wx _ _).alloc (Ww _) _).trans (hb1.mono (by simp))⟩
 by_cases l3:sh<1
 . have hfin:=K1 (code9 (zs:=zs) (c:=⟨sh,ra,mo,wo,ba,mi,st,bu,ch,wi,ca⟩) l1 l2 (.inl l3));go_enter Tryz.func58,Tryz.ntmps58
   go_wp2_with (first
    | (go_at_call 95;refine (BP _ _).mono ?_;rintro e w' ⟨rfl,rfl⟩)
    | (go_at_call 59;refine C.out.mono ?_;rintro e w1 ⟨rfl,hb1⟩
       obtain ⟨c0,c1,c4,c5,c6,c7,c8,c9,c10,c11⟩:=BQ A zs.length cap sh ra mo wo ba mi st bu ch wi ca w w1 hb1))
   go_ret;exact ⟨AN hfin.out.symm,((Wx _ _).alloc (Ww _) _).trans (hb1.mono (by simp))⟩
 by_cases l4:62<sh
 . have hfin:=K1 (code9 (zs:=zs) (c:=⟨sh,ra,mo,wo,ba,mi,st,bu,ch,wi,ca⟩) l1 l2 (.inr l4));go_enter Tryz.func58,Tryz.ntmps58
   go_wp2_with (first
    | (go_at_call 95;refine (BP _ _).mono ?_;rintro e w' ⟨rfl,rfl⟩)
    | (go_at_call 59;refine C.out.mono ?_;rintro e w1 ⟨rfl,hb1⟩
       obtain ⟨c0,c1,c4,c5,c6,c7,c8,c9,c10,c11⟩:=BQ A zs.length cap sh ra mo wo ba mi st bu ch wi ca w w1 hb1))
   go_ret;exact ⟨AN hfin.out.symm,((Wx _ _).alloc (Ww _) _).trans (hb1.mono (by simp))⟩
 . have hfin:=K1 (Kg (zs:=zs) (c:=⟨sh,ra,mo,wo,ba,mi,st,bu,ch,wi,ca⟩) l1 l2 l3 l4 h);have h0:(AV zs == 0)=false:=by simpa using h
   generalize AV zs=k at *;go_enter Tryz.func58,Tryz.ntmps58
   go_wp2_with (first
    | (go_at_call 95;refine (BP _ _).mono ?_;rintro e w' ⟨rfl,rfl⟩)
    | (go_at_call 59;refine C.out.mono ?_;rintro e w1 ⟨rfl,hb1⟩
       obtain ⟨c0,c1,c4,c5,c6,c7,c8,c9,c10,c11⟩:=BQ A zs.length cap sh ra mo wo ba mi st bu ch wi ca w w1 hb1))
   go_ret;exact ⟨AN hfin.out.symm,((Wx _ _).alloc (Ww _) _).trans (hb1.mono (by simp))⟩
theorem O0 (A:Option Addr) (cap:Nat) (zs:List Int) (c:Cf) (w:World) (hr:RdI w w.heap.size A zs) (hcap:zs.length<=cap) (hm:zs.length<=9223372036854775807) (h:AV zs=0) (hbad:c.wo<1\/64<c.wo\/c.sh<1\/62<c.sh) :
  Calls Tryz.prog 58 #[B7 A zs.length cap c] w (Coded w (AT zs c)):=by
 obtain ⟨sh,ra,mo,wo,ba,mi,st,bu,ch,wi,ca⟩:=c;dsimp only [B7]
 have hr1:RdI (w.alloc (.cells #[Us A zs.length cap,U O sh,U O ra,U O mo,U O wo,U O ba,U O mi,U O st,U O bu,U O ch,U O wi,U O ca] 24)) (w.alloc (.cells #[Us A zs.length cap,U O sh,U O ra,U O mo,U O wo,U O ba,U O mi,U O st,U O bu,U O ch,U O wi,U O ca] 24)).heap.size A zs :=
  (hr.alloc (Ww _) _).more (by simp)
 have C:=K1 (FO A cap zs _ hr1 hcap hm h);clear hr1;dsimp only at hbad;have Hbad:=K1 hbad;have H0:=K1 h;clear hbad h
 by_cases l1:wo<1
 . have hfin:=K1 (code6 (zs:=zs) (c:=⟨sh,ra,mo,wo,ba,mi,st,bu,ch,wi,ca⟩) (.inl l1));go_enter Tryz.func58,Tryz.ntmps58
   go_wp2_with (first
    | (go_at_call 95;refine (BP _ _).mono ?_;rintro e w' ⟨rfl,rfl⟩)
    | (go_at_call 59;refine C.out.mono ?_;rintro e w1 ⟨g,rfl,hb1,hg,hS⟩
       obtain ⟨c0,c1,c4,c5,c6,c7,c8,c9,c10,c11⟩:=BQ A zs.length cap sh ra mo wo ba mi st bu ch wi ca w w1 hb1))
   go_ret;exact ⟨AN hfin.out.symm,((Wx _ _).alloc (Ww _) _).trans (hb1.mono (by simp))⟩
 by_cases l2:64<wo
 . have hfin:=K1 (code6 (zs:=zs) (c:=⟨sh,ra,mo,wo,ba,mi,st,bu,ch,wi,ca⟩) (.inr l2));go_enter Tryz.func58,Tryz.ntmps58
   go_wp2_with (first
    | (go_at_call 95;refine (BP _ _).mono ?_;rintro e w' ⟨rfl,rfl⟩)
    | (go_at_call 59;refine C.out.mono ?_;rintro e w1 ⟨g,rfl,hb1,hg,hS⟩
       obtain ⟨c0,c1,c4,c5,c6,c7,c8,c9,c10,c11⟩:=BQ A zs.length cap sh ra mo wo ba mi st bu ch wi ca w w1 hb1))
   go_ret;exact ⟨AN hfin.out.symm,((Wx _ _).alloc (Ww _) _).trans (hb1.mono (by simp))⟩
 by_cases l3:sh<1
 . have hfin:=K1 (code9 (zs:=zs) (c:=⟨sh,ra,mo,wo,ba,mi,st,bu,ch,wi,ca⟩) l1 l2 (.inl l3));go_enter Tryz.func58,Tryz.ntmps58
   go_wp2_with (first
    | (go_at_call 95;refine (BP _ _).mono ?_;rintro e w' ⟨rfl,rfl⟩)
    | (go_at_call 59;refine C.out.mono ?_;rintro e w1 ⟨g,rfl,hb1,hg,hS⟩
       obtain ⟨c0,c1,c4,c5,c6,c7,c8,c9,c10,c11⟩:=BQ A zs.length cap sh ra mo wo ba mi st bu ch wi ca w w1 hb1))
   go_ret;exact ⟨AN hfin.out.symm,((Wx _ _).alloc (Ww _) _).trans (hb1.mono (by simp))⟩
 by_cases l4:62<sh
 . have hfin:=K1 (code9 (zs:=zs) (c:=⟨sh,ra,mo,wo,ba,mi,st,bu,ch,wi,ca⟩) l1 l2 (.inr l4));go_enter Tryz.func58,Tryz.ntmps58
   go_wp2_with (first
    | (go_at_call 95;refine (BP _ _).mono ?_;rintro e w' ⟨rfl,rfl⟩)
    | (go_at_call 59;refine C.out.mono ?_;rintro e w1 ⟨g,rfl,hb1,hg,hS⟩
       obtain ⟨c0,c1,c4,c5,c6,c7,c8,c9,c10,c11⟩:=BQ A zs.length cap sh ra mo wo ba mi st bu ch wi ca w w1 hb1))
   go_ret;exact ⟨AN hfin.out.symm,((Wx _ _).alloc (Ww _) _).trans (hb1.mono (by simp))⟩
 . exfalso;have:=Hbad.out;omega
theorem O1 (A:Option Addr) (cap:Nat) (zs:List Int) (c:Cf) (w:World) (hr:RdI w w.heap.size A zs) (hcap:zs.length<=cap) (hm:zs.length<=9223372036854775807) (h:AV zs=0) (h1:¬ c.wo<1) (h2:¬ 64<c.wo) (h3:¬ c.sh<1) (h4:¬ 62<c.sh) (hbad:BL c=false) :
  Calls Tryz.prog 58 #[B7 A zs.length cap c] w (Coded w (AT zs c)):=by
 obtain ⟨sh,ra,mo,wo,ba,mi,st,bu,ch,wi,ca⟩:=c;dsimp only [B7]
 have hr1:RdI (w.alloc (.cells #[Us A zs.length cap,U O sh,U O ra,U O mo,U O wo,U O ba,U O mi,U O st,U O bu,U O ch,U O wi,U O ca] 24)) (w.alloc (.cells #[Us A zs.length cap,U O sh,U O ra,U O mo,U O wo,U O ba,U O mi,U O st,U O bu,U O ch,U O wi,U O ca] 24)).heap.size A zs :=
  (hr.alloc (Ww _) _).more (by simp)
 have C:=K1 (FO A cap zs _ hr1 hcap hm h);clear hr1;dsimp only at h1 h2 h3 h4;have hfin:=K1 (code2 (zs:=zs) (c:=⟨sh,ra,mo,wo,ba,mi,st,bu,ch,wi,ca⟩) h1 h2 h3 h4 h hbad);have Hbad:=K1 hbad;clear hbad h
 cases k0:okSz mi
 . go_enter Tryz.func58,Tryz.ntmps58
   go_wp2_with (first
    | (go_at_call 95;refine (BP _ _).mono ?_;rintro e w' ⟨rfl,rfl⟩)
    | (go_at_call 59;refine C.out.mono ?_;rintro e w1 ⟨g,rfl,hb1,hg,hS⟩
       obtain ⟨c0,c1,c4,c5,c6,c7,c8,c9,c10,c11⟩:=BQ A zs.length cap sh ra mo wo ba mi st bu ch wi ca w w1 hb1))
   go_ret;exact ⟨AN hfin.out.symm,((Wx _ _).alloc (Ww _) _).trans (hb1.mono (by simp))⟩
 cases k1:okSz bu
 . go_enter Tryz.func58,Tryz.ntmps58
   go_wp2_with (first
    | (go_at_call 95;refine (BP _ _).mono ?_;rintro e w' ⟨rfl,rfl⟩)
    | (go_at_call 59;refine C.out.mono ?_;rintro e w1 ⟨g,rfl,hb1,hg,hS⟩
       obtain ⟨c0,c1,c4,c5,c6,c7,c8,c9,c10,c11⟩:=BQ A zs.length cap sh ra mo wo ba mi st bu ch wi ca w w1 hb1))
   go_ret;exact ⟨AN hfin.out.symm,((Wx _ _).alloc (Ww _) _).trans (hb1.mono (by simp))⟩
 cases k2:okSz ch
 . go_enter Tryz.func58,Tryz.ntmps58
   go_wp2_with (first
    | (go_at_call 95;refine (BP _ _).mono ?_;rintro e w' ⟨rfl,rfl⟩)
    | (go_at_call 59;refine C.out.mono ?_;rintro e w1 ⟨g,rfl,hb1,hg,hS⟩
       obtain ⟨c0,c1,c4,c5,c6,c7,c8,c9,c10,c11⟩:=BQ A zs.length cap sh ra mo wo ba mi st bu ch wi ca w w1 hb1))
   go_ret;exact ⟨AN hfin.out.symm,((Wx _ _).alloc (Ww _) _).trans (hb1.mono (by simp))⟩
 cases k3:okSz wi
 . go_enter Tryz.func58,Tryz.ntmps58
   go_wp2_with (first
    | (go_at_call 95;refine (BP _ _).mono ?_;rintro e w' ⟨rfl,rfl⟩)
    | (go_at_call 59;refine C.out.mono ?_;rintro e w1 ⟨g,rfl,hb1,hg,hS⟩
       obtain ⟨c0,c1,c4,c5,c6,c7,c8,c9,c10,c11⟩:=BQ A zs.length cap sh ra mo wo ba mi st bu ch wi ca w w1 hb1))
   go_ret;exact ⟨AN hfin.out.symm,((Wx _ _).alloc (Ww _) _).trans (hb1.mono (by simp))⟩
 cases k4:okSz ca
 . go_enter Tryz.func58,Tryz.ntmps58
   go_wp2_with (first
    | (go_at_call 95;refine (BP _ _).mono ?_;rintro e w' ⟨rfl,rfl⟩)
    | (go_at_call 59;refine C.out.mono ?_;rintro e w1 ⟨g,rfl,hb1,hg,hS⟩
       obtain ⟨c0,c1,c4,c5,c6,c7,c8,c9,c10,c11⟩:=BQ A zs.length cap sh ra mo wo ba mi st bu ch wi ca w w1 hb1))
   go_ret;exact ⟨AN hfin.out.symm,((Wx _ _).alloc (Ww _) _).trans (hb1.mono (by simp))⟩
 by_cases k5:st=0
 . exfalso;have:=Hbad.out;simp [BL,k0,k1,k2,k3,k4,k5] at this
 cases k6:okSz st
 . have k7:(st != 0)=true:=by simpa using k5
   go_enter Tryz.func58,Tryz.ntmps58
   go_wp2_with (first
    | (go_at_call 95;refine (BP _ _).mono ?_;rintro e w' ⟨rfl,rfl⟩)
    | (go_at_call 59;refine C.out.mono ?_;rintro e w1 ⟨g,rfl,hb1,hg,hS⟩
       obtain ⟨c0,c1,c4,c5,c6,c7,c8,c9,c10,c11⟩:=BQ A zs.length cap sh ra mo wo ba mi st bu ch wi ca w w1 hb1))
   go_ret;exact ⟨AN hfin.out.symm,((Wx _ _).alloc (Ww _) _).trans (hb1.mono (by simp))⟩
 . exfalso;have:=Hbad.out;simp [BL,k0,k1,k2,k3,k4,k6] at this
theorem O2 (A:Option Addr) (cap:Nat) (zs:List Int) (c:Cf) (w:World) (hr:RdI w w.heap.size A zs) (hcap:zs.length<=cap) (hm:zs.length<=9223372036854775807) (h:AV zs=0) (h1:¬ c.wo<1) (h2:¬ 64<c.wo) (h3:¬ c.sh<1) (h4:¬ 62<c.sh) (hnum:BL c=true) (hst:c.st=0) :
  Calls Tryz.prog 58 #[B7 A zs.length cap c] w (Coded w (AT zs c)):=by
 obtain ⟨sh,ra,mo,wo,ba,mi,st,bu,ch,wi,ca⟩:=c;dsimp only [B7]
 have hr1:RdI (w.alloc (.cells #[Us A zs.length cap,U O sh,U O ra,U O mo,U O wo,U O ba,U O mi,U O st,U O bu,U O ch,U O wi,U O ca] 24)) (w.alloc (.cells #[Us A zs.length cap,U O sh,U O ra,U O mo,U O wo,U O ba,U O mi,U O st,U O bu,U O ch,U O wi,U O ca] 24)).heap.size A zs :=
  (hr.alloc (Ww _) _).more (by simp)
 have C:=K1 (FO A cap zs _ hr1 hcap hm h);clear hr1;dsimp only at h1 h2 h3 h4;have hn:=hnum;simp only [BL,WG,WH,decide_eq_true_eq] at hn;obtain ⟨⟨⟨⟨⟨k0,k1⟩,k2⟩,k3⟩,k4⟩,k56⟩:=hn;have k5:(st != 0)=false:=by simpa using hst
 clear hst k56;have Hnum:=K1 hnum;have H0:=K1 h;clear hnum h
 by_cases l1:ba<wo
 . have hfin:=K1 (code7 (zs:=zs) (c:=⟨sh,ra,mo,wo,ba,mi,st,bu,ch,wi,ca⟩) h1 h2 h3 h4 H0.out Hnum.out (.inl l1));go_enter Tryz.func58,Tryz.ntmps58
   go_wp2_with (first
    | (go_at_call 95;refine (BP _ _).mono ?_;rintro e w' ⟨rfl,rfl⟩)
    | (go_at_call 59;refine C.out.mono ?_;rintro e w1 ⟨g,rfl,hb1,hg,hS⟩
       obtain ⟨c0,c1,c4,c5,c6,c7,c8,c9,c10,c11⟩:=BQ A zs.length cap sh ra mo wo ba mi st bu ch wi ca w w1 hb1))
   go_ret;exact ⟨AN hfin.out.symm,((Wx _ _).alloc (Ww _) _).trans (hb1.mono (by simp))⟩
 by_cases l2:1048576<ba
 . have hfin:=K1 (code7 (zs:=zs) (c:=⟨sh,ra,mo,wo,ba,mi,st,bu,ch,wi,ca⟩) h1 h2 h3 h4 H0.out Hnum.out (.inr l2));go_enter Tryz.func58,Tryz.ntmps58
   go_wp2_with (first
    | (go_at_call 95;refine (BP _ _).mono ?_;rintro e w' ⟨rfl,rfl⟩)
    | (go_at_call 59;refine C.out.mono ?_;rintro e w1 ⟨g,rfl,hb1,hg,hS⟩
       obtain ⟨c0,c1,c4,c5,c6,c7,c8,c9,c10,c11⟩:=BQ A zs.length cap sh ra mo wo ba mi st bu ch wi ca w w1 hb1))
   go_ret;exact ⟨AN hfin.out.symm,((Wx _ _).alloc (Ww _) _).trans (hb1.mono (by simp))⟩
 . have hfin:=K1 (code0 (zs:=zs) (c:=⟨sh,ra,mo,wo,ba,mi,st,bu,ch,wi,ca⟩) h1 h2 h3 h4 H0.out Hnum.out l1 l2);go_enter Tryz.func58,Tryz.ntmps58
   go_wp2_with (first
    | (go_at_call 95;refine (BP _ _).mono ?_;rintro e w' ⟨rfl,rfl⟩)
    | (go_at_call 59;refine C.out.mono ?_;rintro e w1 ⟨g,rfl,hb1,hg,hS⟩
       obtain ⟨c0,c1,c4,c5,c6,c7,c8,c9,c10,c11⟩:=BQ A zs.length cap sh ra mo wo ba mi st bu ch wi ca w w1 hb1))
   go_ret;exact ⟨AN hfin.out.symm,((Wx _ _).alloc (Ww _) _).trans (hb1.mono (by simp))⟩
theorem O3 (A:Option Addr) (cap:Nat) (zs:List Int) (c:Cf) (w:World) (hr:RdI w w.heap.size A zs) (hcap:zs.length<=cap) (hm:zs.length<=9223372036854775807) (h:AV zs=0) (h1:¬ c.wo<1) (h2:¬ 64<c.wo) (h3:¬ c.sh<1) (h4:¬ 62<c.sh) (hnum:BL c=true) (hst:¬ c.st=0) :
  Calls Tryz.prog 58 #[B7 A zs.length cap c] w (Coded w (AT zs c)):=by
 obtain ⟨sh,ra,mo,wo,ba,mi,st,bu,ch,wi,ca⟩:=c;dsimp only [B7]
 have hr1:RdI (w.alloc (.cells #[Us A zs.length cap,U O sh,U O ra,U O mo,U O wo,U O ba,U O mi,U O st,U O bu,U O ch,U O wi,U O ca] 24)) (w.alloc (.cells #[Us A zs.length cap,U O sh,U O ra,U O mo,U O wo,U O ba,U O mi,U O st,U O bu,U O ch,U O wi,U O ca] 24)).heap.size A zs :=
  (hr.alloc (Ww _) _).more (by simp)
 have C:=K1 (FO A cap zs _ hr1 hcap hm h);clear hr1;dsimp only at h1 h2 h3 h4;have hn:=hnum;simp only [BL,WG,WH,decide_eq_true_eq] at hn;obtain ⟨⟨⟨⟨⟨k0,k1⟩,k2⟩,k3⟩,k4⟩,k56⟩:=hn;dsimp only at hst;have k5:(st != 0)=true:=by simpa using hst
 have k6:okSz st=true:=by rcases k56 with e | e;exact absurd e hst;exact e
 clear hst k56;have Hnum:=K1 hnum;have H0:=K1 h;clear hnum h
 by_cases l1:ba<wo
 . have hfin:=K1 (code7 (zs:=zs) (c:=⟨sh,ra,mo,wo,ba,mi,st,bu,ch,wi,ca⟩) h1 h2 h3 h4 H0.out Hnum.out (.inl l1));go_enter Tryz.func58,Tryz.ntmps58
   go_wp2_with (first
    | (go_at_call 95;refine (BP _ _).mono ?_;rintro e w' ⟨rfl,rfl⟩)
    | (go_at_call 59;refine C.out.mono ?_;rintro e w1 ⟨g,rfl,hb1,hg,hS⟩
       obtain ⟨c0,c1,c4,c5,c6,c7,c8,c9,c10,c11⟩:=BQ A zs.length cap sh ra mo wo ba mi st bu ch wi ca w w1 hb1))
   go_ret;exact ⟨AN hfin.out.symm,((Wx _ _).alloc (Ww _) _).trans (hb1.mono (by simp))⟩
 by_cases l2:1048576<ba
 . have hfin:=K1 (code7 (zs:=zs) (c:=⟨sh,ra,mo,wo,ba,mi,st,bu,ch,wi,ca⟩) h1 h2 h3 h4 H0.out Hnum.out (.inr l2));go_enter Tryz.func58,Tryz.ntmps58
   go_wp2_with (first
    | (go_at_call 95;refine (BP _ _).mono ?_;rintro e w' ⟨rfl,rfl⟩)
    | (go_at_call 59;refine C.out.mono ?_;rintro e w1 ⟨g,rfl,hb1,hg,hS⟩
       obtain ⟨c0,c1,c4,c5,c6,c7,c8,c9,c10,c11⟩:=BQ A zs.length cap sh ra mo wo ba mi st bu ch wi ca w w1 hb1))
   go_ret;exact ⟨AN hfin.out.symm,((Wx _ _).alloc (Ww _) _).trans (hb1.mono (by simp))⟩
 . have hfin:=K1 (code0 (zs:=zs) (c:=⟨sh,ra,mo,wo,ba,mi,st,bu,ch,wi,ca⟩) h1 h2 h3 h4 H0.out Hnum.out l1 l2);go_enter Tryz.func58,Tryz.ntmps58
   go_wp2_with (first
    | (go_at_call 95;refine (BP _ _).mono ?_;rintro e w' ⟨rfl,rfl⟩)
    | (go_at_call 59;refine C.out.mono ?_;rintro e w1 ⟨g,rfl,hb1,hg,hS⟩
       obtain ⟨c0,c1,c4,c5,c6,c7,c8,c9,c10,c11⟩:=BQ A zs.length cap sh ra mo wo ba mi st bu ch wi ca w w1 hb1))
   go_ret;exact ⟨AN hfin.out.symm,((Wx _ _).alloc (Ww _) _).trans (hb1.mono (by simp))⟩
theorem K4 (A:Option Addr) (cap:Nat) (zs:List Int) (c:Cf) (w:World) (hr:RdI w w.heap.size A zs) (hcap:zs.length<=cap) (hm:zs.length<=9223372036854775807) :
  Calls Tryz.prog 58 #[B7 A zs.length cap c] w (Coded w (AT zs c)):=by
 by_cases h:AV zs=0
 . by_cases hbad:c.wo<1\/64<c.wo\/c.sh<1\/62<c.sh
   . exact O0 A cap zs c w hr hcap hm h hbad
   . cases hn:BL c
     . exact O1 A cap zs c w hr hcap hm h (by omega) (by omega) (by omega) (by omega) hn
     . by_cases hst:c.st=0
       . exact O2 A cap zs c w hr hcap hm h (by omega) (by omega) (by omega) (by omega) hn hst
       . exact O3 A cap zs c w hr hcap hm h (by omega) (by omega) (by omega) (by omega) hn hst
 . exact Oz A cap zs c w hr hcap hm h
end
end Go.Proofs.YtdpojpcoghcieaaGreat
