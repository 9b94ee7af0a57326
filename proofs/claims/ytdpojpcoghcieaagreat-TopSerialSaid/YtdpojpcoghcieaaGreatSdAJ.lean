/- A part of the proof of TopSerial: ShapeMake, ConfPlain. Conditions: none. -/
import Derived.Test.YtdpojpcoghcieaaGreatSdAI
set_option maxHeartbeats 8000000
namespace Go.Proofs.YtdpojpcoghcieaaGreat
open Lib renaming hid → K1
open Go.RowKit
def IsShape (w:World) (B:Nat) (g:Nat) (zs:List Int):Prop :=
 g<B∧∃ (As Aw Ab:Option Addr) (cs cw cb:Nat),w.heap[g]?=some (.cells #[.slice As zs.length cs,.slice Aw (zs.length-1) cw,.slice Ab (zs.length-1) cb,.int .i64 (cnt zs)] 199 (0,0)) ∧
   zs.length≤cs∧zs.length-1≤cw∧zs.length-1≤cb∧RdI w B As zs∧Rd w B Aw (wcells zs (zs.length-1))∧Rd w B Ab (bcells zs (zs.length-1))
theorem IsShape.below {w w':World} {B g:Nat} {zs:List Int} (h:IsShape w B g zs) (hb:Below B w w'):IsShape w' B g zs:=by
 obtain ⟨hg,As,Aw,Ab,cs,cw,cb,h1,l1,l2,l3,h2,h3,h4⟩:=h
 exact ⟨hg,As,Aw,Ab,cs,cw,cb,blk_below h1 hb hg,l1,l2,l3,h2.below hb,h3.below hb,h4.below hb⟩
def Made (w:World) (zs:List Int) (e:Ending) (w':World):Prop :=
 Below w.heap.size w w'∧(shCode zs=0→∃ g,e=.returned (.tuple #[.pointer (some ⟨g,0,none⟩),.int .i64 0])∧w.heap.size≤g∧IsShape w' w'.heap.size g zs) ∧
  (shCode zs≠0→e=.returned (.tuple #[.pointer none,.int .i64 (shCode zs)]))
def ShapeFrom (w:World) (lo g:Nat) (zs:List Int):Prop :=
 lo≤g∧∃ (As Aw Ab:Option Addr) (cs cw cb:Nat),w.heap[g]?=some (.cells #[.slice As zs.length cs,.slice Aw (zs.length-1) cw,.slice Ab (zs.length-1) cb,.int .i64 (cnt zs)] 199 (0,0)) ∧
  w.ownsRow lo 3 1 (.slice As zs.length cs) zs.length (zs.map (Value.int .i64))∧w.ownsRow lo 47 2 (.slice Aw (zs.length-1) cw) (zs.length-1) (wcells zs (zs.length-1))∧w.ownsRow lo 47 2 (.slice Ab (zs.length-1) cb) (zs.length-1) (bcells zs (zs.length-1))
theorem ShapeFrom.shape {w:World} {lo g:Nat} {zs:List Int} (h:ShapeFrom w lo g zs):IsShape w w.heap.size g zs:=by
 obtain ⟨_,As,Aw,Ab,cs,cw,cb,h1,h2,h3,h4⟩:=h
 exact ⟨blk_lt h1,As,Aw,Ab,cs,cw,cb,h1,own_cap h2,own_cap h3,own_cap h4,rd_of_own h2,rd_of_own h3,rd_of_own h4⟩
theorem Mid.from_ {w:World} {B g:Nat} {vs vw vb:Value} {zs:List Int} (h:Mid w B g vs vw vb (cnt zs) zs (zs.length-1) (zs.length-1)):B≤g→ShapeFrom w B g zs:=fun hg=>by
 have h2:=h.sz
 obtain ⟨As,cs,rfl⟩:=own_slice h.sz
 obtain ⟨Aw,cw,rfl⟩:=own_slice h.ow
 obtain ⟨Ab,cb,rfl⟩:=own_slice h.ob
 exact ⟨hg,As,Aw,Ab,cs,cw,cb,h.blk,h2,h.ow,h.ob⟩
def MadeF (w:World) (zs:List Int) (e:Ending) (w':World):Prop :=
 Below w.heap.size w w'∧(shCode zs=0→∃ g,e=.returned (.tuple #[.pointer (some ⟨g,0,none⟩),.int .i64 0])∧ShapeFrom w' w.heap.size g zs) ∧
  (shCode zs≠0→e=.returned (.tuple #[.pointer none,.int .i64 (shCode zs)]))
theorem MadeF.made {w:World} {zs:List Int} {e:Ending} {w':World} (h:MadeF w zs e w'):Made w zs e w' :=
 ⟨h.1,fun h0=>let ⟨g,he,hs⟩:=h.2.1 h0;⟨g,he,hs.1,hs.shape⟩,h.2.2⟩
theorem Tryz.infoR:(Tryz.prog.info? 47).map (fun i=>(i.zero,i.size,i.bytes))=some (some (.agg #[.int .i64 0,.int .i64 0]),2,16):=by kernel_rfl
theorem lo_bd (zs:List Int) (k:Nat) (hall:∀ z∈zs,okSz z=true) (hl:zs.length≤16):0≤lo zs k∧lo zs k≤17592202821632:=by
 have bc:=cnt_bd (zs.take (k+1)) (fun z hz=>hall z (List.mem_of_mem_take hz))
 have bl:((zs.take (k+1)).length:Int)≤16:=by have:=List.length_take_le (k+1) zs;have:=List.length_take_le' (k+1) zs;omega
 unfold lo
 omega
theorem new_few (A:Option Addr) (cap:Nat) (zs:List Int) (w:World) (h2:zs.length<2∨16<zs.length) (hm:zs.length≤9223372036854775807) :
  Calls Tryz.prog 59 #[.slice A zs.length cap] w (MadeF w zs):=by
 have hcode:shCode zs=5:=by unfold shCode;rw [if_pos h2]
 have Hcode:=K1 hcode
 clear hcode
 rcases h2 with h2 | h2
 all_goals
  go_enter Tryz.func59,Tryz.ntmps59
  go_wp2
  go_ret2
  exact ⟨Below.refl _ _,fun h=>absurd (Hcode.out.symm.trans h) (by decide),fun _=>ret_pi Hcode.out.symm⟩
theorem new_wrong (A:Option Addr) (cap:Nat) (zs:List Int) (w:World) (h2:¬ zs.length<2) (h16:¬ 16<zs.length) (hr:RdI w w.heap.size A zs) (hz:zs.all okSz=false) :
  Calls Tryz.prog 59 #[.slice A zs.length cap] w (MadeF w zs):=by
 have hcode:shCode zs=5:=by unfold shCode;rw [if_neg (by omega),if_pos hz]
 have Hcode:=K1 hcode
 have C:=K1 (hasWrong_any A cap zs w hr (by omega))
 have HZ:=K1 hz
 clear hcode hz
 go_enter Tryz.func59,Tryz.ntmps59
 go_wp2_with (go_at_call 97;refine C.out.mono ?_;rintro e w' ⟨rfl,rfl⟩;rw [HZ.out])
 go_ret2
 exact ⟨Below.refl _ _,fun h=>absurd (Hcode.out.symm.trans h) (by decide),fun _=>ret_pi Hcode.out.symm⟩
theorem clone_some (A:Option Addr) (cap:Nat) (zs:List Int) (w:World) (hr:RdI w w.heap.size A zs) (h0:0<zs.length) (hl:zs.length≤1000000000) :
  Calls Tryz.prog 98 #[.slice A zs.length cap] w fun e w'=>∃ gs cs,e=.returned (.slice (some ⟨gs,0,none⟩) zs.length cs)∧w'.ownsRow w.heap.size 3 1 (.slice (some ⟨gs,0,none⟩) zs.length cs) zs.length (zs.map (Value.int .i64))∧Below w.heap.size w w':=by
 refine (cloneI_any A zs.length cap (zs.map (Value.int .i64)) w hr (by simp) (ints_one zs) (by omega)).mono ?_
 rintro e w' ⟨A',c',rfl,hown,_,hbw⟩
 obtain ⟨gs,cs,h1,_⟩:=hown.form h0
 injection h1 with h1 _ h3
 subst h1;subst h3
 exact ⟨gs,_,rfl,hown,hbw⟩
set_option linter.unusedSimpArgs false in
set_option maxRecDepth 100000 in
theorem new_right (A:Option Addr) (cap:Nat) (zs:List Int) (w:World) (h2:¬ zs.length<2) (h16:¬ 16<zs.length) (hr:RdI w w.heap.size A zs) (hcap:zs.length≤cap) (hz:zs.all okSz=true) :
  Calls Tryz.prog 59 #[.slice A zs.length cap] w (MadeF w zs):=by
 have hall:∀ z∈zs,okSz z=true:=List.all_eq_true.1 hz
 have hcode:shCode zs=if 1048576<cnt zs then 4 else 0:=by unfold shCode;rw [if_neg (by omega),if_neg (by rw [hz];decide)]
 have Hcode:=K1 hcode
 have C:=K1 (hasWrong_any A cap zs w hr (by omega))
 have HZ:=K1 hz
 have Hall:=K1 hall
 clear hcode hz hall
 obtain ⟨i0,hi0,hz0,hz1,hz2⟩:=info_parts Tryz.infoR
 have I0:=K1 hi0
 have I1:=K1 hz0
 have I2:=K1 hz1
 have I3:=K1 hz2
 clear hi0 hz0 hz1 hz2
 have d1:decide ((zs.length:Int)<2)=false:=by simp;omega
 have d2:decide ((16:Int)<(zs.length:Int))=false:=by simp;omega
 obtain ⟨b,off,rfl,hb,hc⟩:=hr.at_ (by omega)
 have CL:=K1 (clone_some _ cap zs w hr (by omega) (by omega))
 have Hc:=K1 hc
 clear hc
 go_enter Tryz.func59,Tryz.ntmps59
 go_wp2_with (first | (go_at_call 97;refine C.out.mono ?_;rintro e w' ⟨rfl,rfl⟩;rw [HZ.out]) | (go_at_call 98;refine CL.out.mono ?_;rintro e w1 ⟨gs,cs,rfl,hown,hbw⟩))
 go_loopw [30] (fun i wr=>∃ k:Nat,k≤zs.length-1∧i=.int .i64 k∧∃ vw vb,Mid wr w.heap.size w1.heap.size (.slice (some ⟨gs,0,none⟩) zs.length cs) vw vb (lo zs k) zs k k∧Below w.heap.size w wr)
  (fun i _=>zs.length-(intOf i).toNat)
 case atStart =>
  refine ⟨0,Nat.zero_le _,rfl,.slice none 0 0,.slice none 0 0,⟨?_,?_,?_,World.ownsRow_nil _ _ _ _,World.ownsRow_nil _ _ _ _,.inl rfl,hbw.size⟩,(hbw.alloc hbw.size _).alloc (by simp;have:=hbw.size;omega) _⟩
  · have hlo:lo zs 0=0:=by
     unfold lo
     match zs with
     | []=>rfl
     | _::_=>rfl
    rw [hlo]
    exact blk_alloc (heap_alloc_new w1 _) _
  · have:=heap_alloc_new (w1.alloc (.cells #[.slice (some ⟨gs,0,none⟩) zs.length cs,.slice none 0 0,.slice none 0 0,.int .i64 0] 199)) (.cells #[.pointer (some ⟨w1.heap.size,0,none⟩)] 150)
    rw [World.size_alloc] at this
    exact this
  · exact (hown.alloc _).alloc _
 case round =>
  obtain ⟨k,hk,rfl,vw,vb,hM,hbr⟩:=hrel
  by_cases hlt:k<zs.length-1
  · obtain ⟨x,hx⟩:=get_some zs k (by omega)
    obtain ⟨y,hy⟩:=get_some zs (k+1) (by omega)
    have bx:=okSz_iff.1 (Hall.out x (List.mem_of_getElem? hx))
    have byy:=okSz_iff.1 (Hall.out y (List.mem_of_getElem? hy))
    have bm:0≤y*x∧y*x≤1099511627776:=⟨Int.mul_nonneg (by omega) (by omega),Int.mul_le_mul byy.2 bx.2 (by omega) (by omega)⟩
    have bl:=lo_bd zs k Hall.out (by omega)
    have cA:wr.cell? ⟨b,off+1+k,none⟩=some (.int .i64 y):=(hbr.cell (p:=⟨b,off+1+k,none⟩) hb).trans (by rw [Nat.add_assoc,Nat.add_comm 1 k];exact Hc.out _ _ hy)
    have cB:wr.cell? ⟨b,off+k,none⟩=some (.int .i64 x):=(hbr.cell (p:=⟨b,off+k,none⟩) hb).trans (Hc.out _ _ hx)
    have c5:wr.cell? ⟨w1.heap.size+1,0,none⟩=some (.pointer (some ⟨w1.heap.size,0,none⟩)):=blk_cell hM.box 0
    have c6:wr.cell? ⟨w1.heap.size,1,none⟩=some vw:=blk_cell hM.blk 1
    have wp:IntKind.i64.wrap (y*x)=y*x:=IntWalk.i64_in _ (by omega)
    have HX:=K1 hx
    have HY:=K1 hy
    have HM:=K1 hM
    clear hx hy hM
    have k0:(0:Int)≤(k:Int):=Int.natCast_nonneg _
    have k1:(k:Int)<(zs.length:Int):=by omega
    go_wp2
    refine wp_region_but 17 (fun w'=>w'.cell? ⟨w1.heap.size+1,0,none⟩=some (.pointer (some ⟨w1.heap.size,0,none⟩))∧w'.cell? ⟨w1.heap.size,1,none⟩=some vw∧w'.cell? ⟨b,off+k,none⟩=some (.int .i64 x)) (by kernel_rfl) ⟨c5,c6,cB⟩ (fun hHeld=>?_)
    refine AnyBut.take 0 (d:=(some 35)) (v:=?_) rfl rfl (by kernel_rfl) (by kernel_rfl) (by kernel_rfl) (by kernel_rfl) (fun _ _ _ h=>h) (by rfl) (by assumption) ?_ ?_
    rotate_left
    · (intro wx hSw;(try dsimp only at hSw);go_simp);all_goals with_reducible rfl
    try simp only [Act.put,List.setIfInBounds_toArray,List.set_cons_zero,List.set_cons_succ]
    refine AnyBut.take 1 (d:=(some 36)) (v:=?_) rfl rfl (by kernel_rfl) (by kernel_rfl) (by kernel_rfl) (by kernel_rfl) (fun _ _ _ h=>h) (by rfl) (by assumption) ?_ ?_
    rotate_left
    · (intro wx hSw;(try dsimp only at hSw);go_simp);all_goals with_reducible rfl
    try simp only [Act.put,List.setIfInBounds_toArray,List.set_cons_zero,List.set_cons_succ]
    refine AnyBut.take 2 (d:=(some 37)) (v:=?_) rfl rfl (by kernel_rfl) (by kernel_rfl) (by kernel_rfl) (by kernel_rfl) (fun _ _ _ h=>h) (by rfl) (by assumption) ?_ ?_
    rotate_left
    · (intro wx hSw;(try dsimp only at hSw);go_simp);all_goals with_reducible rfl
    try simp only [Act.put,List.setIfInBounds_toArray,List.set_cons_zero,List.set_cons_succ]
    refine AnyBut.take 3 (d:=(some 38)) (v:=?_) rfl rfl (by kernel_rfl) (by kernel_rfl) (by kernel_rfl) (by kernel_rfl) (fun _ _ _ h=>h) (by rfl) (by assumption) ?_ ?_
    rotate_left
    · (intro wx hSw;(try dsimp only at hSw);go_simp);all_goals with_reducible rfl
    try simp only [Act.put,List.setIfInBounds_toArray,List.set_cons_zero,List.set_cons_succ]
    refine AnyBut.take 4 (d:=(some 39)) (v:=?_) rfl rfl (by kernel_rfl) (by kernel_rfl) (by kernel_rfl) (by kernel_rfl) (fun _ _ _ h=>h) (by rfl) (by assumption) ?_ ?_
    rotate_left
    · (intro wx hSw;(try dsimp only at hSw);go_simp);all_goals with_reducible rfl
    try simp only [Act.put,List.setIfInBounds_toArray,List.set_cons_zero,List.set_cons_succ]
    refine AnyBut.take 5 (d:=(some 40)) (v:=?_) rfl rfl (by kernel_rfl) (by kernel_rfl) (by kernel_rfl) (by kernel_rfl) (fun _ _ _ h=>h) (by rfl) (by assumption) ?_ ?_
    rotate_left
    · (intro wx hSw;(try dsimp only at hSw);go_simp);all_goals with_reducible rfl
    try simp only [Act.put,List.setIfInBounds_toArray,List.set_cons_zero,List.set_cons_succ]
    refine AnyBut.take 6 (d:=(some 41)) (v:=?_) rfl rfl (by kernel_rfl) (by kernel_rfl) (by kernel_rfl) (by kernel_rfl) (fun _ _ _ h=>h) (by rfl) (by assumption) ?_ ?_
    rotate_left
    · (intro wx hSw;(try dsimp only at hSw);go_simp);all_goals with_reducible rfl
    try simp only [Act.put,List.setIfInBounds_toArray,List.set_cons_zero,List.set_cons_succ]
    refine AnyBut.take 7 (d:=(some 42)) (v:=?_) rfl rfl (by kernel_rfl) (by kernel_rfl) (by kernel_rfl) (by kernel_rfl) (fun _ _ _ h=>h) (by rfl) (by assumption) ?_ ?_
    rotate_left
    · (intro wx hSw;(try dsimp only at hSw);go_simp);all_goals with_reducible rfl
    try simp only [Act.put,List.setIfInBounds_toArray,List.set_cons_zero,List.set_cons_succ]
    refine AnyBut.take 8 (d:=(some 43)) (v:=?_) rfl rfl (by kernel_rfl) (by kernel_rfl) (by kernel_rfl) (by kernel_rfl) (fun _ _ _ h=>h) (by rfl) (by assumption) ?_ ?_
    rotate_left
    · (intro wx hSw;(try dsimp only at hSw);go_simp);all_goals with_reducible rfl
    try simp only [Act.put,List.setIfInBounds_toArray,List.set_cons_zero,List.set_cons_succ]
    refine AnyBut.take 9 (d:=(some 44)) (v:=?_) rfl rfl (by kernel_rfl) (by kernel_rfl) (by kernel_rfl) (by kernel_rfl) (fun _ _ _ h=>h) (by rfl) (by assumption) ?_ ?_
    rotate_left
    · (intro wx hSw;(try dsimp only at hSw);go_simp);all_goals with_reducible rfl
    try simp only [Act.put,List.setIfInBounds_toArray,List.set_cons_zero,List.set_cons_succ]
    refine AnyBut.take 10 (d:=(some 45)) (v:=?_) rfl rfl (by kernel_rfl) (by kernel_rfl) (by kernel_rfl) (by kernel_rfl) (fun _ _ _ h=>h) (by rfl) (by assumption) ?_ ?_
    rotate_left
    · (intro wx hSw;(try dsimp only at hSw);go_simp);all_goals with_reducible rfl
    try simp only [Act.put,List.setIfInBounds_toArray,List.set_cons_zero,List.set_cons_succ]
    refine AnyBut.take 11 (d:=(some 46)) (v:=?_) rfl rfl (by kernel_rfl) (by kernel_rfl) (by kernel_rfl) (by kernel_rfl) (fun _ _ _ h=>h) (by rfl) (by assumption) ?_ ?_
    rotate_left
    · (intro wx hSw;(try dsimp only at hSw);go_simp);all_goals with_reducible rfl
    try simp only [Act.put,List.setIfInBounds_toArray,List.set_cons_zero,List.set_cons_succ]
    refine AnyBut.step 12 (by kernel_rfl) rfl (by decide) (by rfl) (fun K hK=>?_)
    go_simp
    (with_reducible refine (next_any w1.heap.size (w1.heap.size+1) (.slice (some ⟨gs,0,none⟩) zs.length cs) vw vb (lo zs k) (y*x) _ ?_ ?_ ?_ ?_ ?_ ?_).mono ?_)
    · exact HM.out.blk
    · exact HM.out.box
    · omega
    · omega
    · omega
    · omega
    rintro e w2 ⟨rfl,hg2,hgr2⟩
    have M2:=K1 ((HM.out.drew.next hg2 hgr2).alloc (.cells #[.int .i64 (lo zs k),.int .i64 (lo zs k+y*x)] 47))
    have hb2:Below w.heap.size w w2:=(below_drew hbr).grown hgr2 hbr.size (fun q hq=>by have:=hbw.size;injection hq with hq;omega)
    have d5:w2.cell? ⟨w1.heap.size+1,0,none⟩=some (.pointer (some ⟨w1.heap.size,0,none⟩)):=blk_cell (blk_grown HM.out.drew.box hgr2 (by simp)) 0
    have d6:w2.cell? ⟨w1.heap.size,1,none⟩=some vw:=blk_cell hg2 1
    have dB:w2.cell? ⟨b,off+k,none⟩=some (.int .i64 x):=(hb2.cell (p:=⟨b,off+k,none⟩) hb).trans (Hc.out _ _ HX.out)
    have d7:=blk_cell M2.out.box 0
    have d8:=blk_cell M2.out.blk 1
    have d9:=((hb2.alloc hb2.size (.cells #[.int .i64 (lo zs k),.int .i64 (lo zs k+y*x)] 47)).cell (p:=⟨b,off+k,none⟩) hb).trans (Hc.out _ _ HX.out)
    refine hK.out _ _ ⟨d5,d6,dB⟩ ?_
    clear hK K hg2 hHeld
    try simp only [Act.put,List.setIfInBounds_toArray,List.set_cons_zero,List.set_cons_succ]
    refine AnyBut.step 13 (by kernel_rfl) rfl (by decide) (by rfl) (fun K hK=>?_)
    go_simp
    refine hK.out _ _ ⟨d7,d8,d9⟩ ?_
    clear hK K
    try simp only [Act.put,List.setIfInBounds_toArray,List.set_cons_zero,List.set_cons_succ]
    refine AnyBut.step 14 (by kernel_rfl) rfl (by decide) (by rfl) (fun K hK=>?_)
    refine wp_append_lies _ _ _ _ rfl w.heap.size 47 i0 _ 2 16 Tryz.underlying44 I0.out I1.out I2.out I3.out rfl (by omega) vw k (wcells zs k) rfl M2.out.ow
      ⟨w2.heap.size,0,none⟩ 1 1 [.int .i64 (lo zs k),.int .i64 (lo zs k+y*x)] rfl rfl (World.news_of_block (cs:=#[.int .i64 (lo zs k),.int .i64 (lo zs k+y*x)]) (t:=47) (fr:=(0,0)) (heap_alloc_new w2 _)) (by simp [Value.oneCell'])
      (by omega) (by simp only [maxLen];omega) (by omega) (by simp;have:=hb2.size;omega) (w2.heap.size+1) (by simp) ?_
    intro gg cap' w3 hown3 hgr3 hat3 hlt3
    have hm3:wcells zs k++[.int .i64 (lo zs k),.int .i64 (lo zs k+y*x)]=wcells zs (k+1):=by rw [wcells,mid_eq zs k x y HX.out HY.out]
    rw [hm3] at hown3
    have M3:=K1 (M2.out.setW hown3 hgr3 (by rw [World.size_alloc];exact hat3))
    have hb3:Below w.heap.size w w3:=(hb2.alloc hb2.size _).grown hgr3 (by simp;have:=hb2.size;omega) (fun q hq=>(M2.out.ow.lt q hq).1)
    have e5:w3.cell? ⟨w1.heap.size+1,0,none⟩=some (.pointer (some ⟨w1.heap.size,0,none⟩)):=blk_cell (blk_grown M2.out.box hgr3 (Ne.symm (own_ne M2.out.ow M2.out.box (by decide)))) 0
    have e6:w3.cell? ⟨w1.heap.size,1,none⟩=some vw:=blk_cell (M2.out.blkW hgr3) 1
    have f6:w3.frozen? ⟨w1.heap.size,1,none⟩=false:=blk_frozen (M2.out.blkW hgr3) 1
    have eB:w3.cell? ⟨b,off+k,none⟩=some (.int .i64 x):=(hb3.cell (p:=⟨b,off+k,none⟩) hb).trans (Hc.out _ _ HX.out)
    have hb4:=hb3.setCell (p:=⟨w1.heap.size,1,none⟩) hbw.size (.slice (some ⟨gg,0,none⟩) (k+1) cap')
    refine hK.out _ _ ⟨e5,e6,eB⟩ ?_
    clear hK K hm3 hown3 d5 d6 dB d7 d8 d9
    have hHeld:=And.intro e5 (And.intro e6 eB)
    try simp only [Act.put,List.setIfInBounds_toArray,List.set_cons_zero,List.set_cons_succ]
    refine AnyBut.step 15 (by kernel_rfl) rfl (by decide) (by rfl) (fun K hK=>?_)
    go_simp
    refine hK.out _ _ hHeld ?_
    clear hK K
    try simp only [Act.put,List.setIfInBounds_toArray,List.set_cons_zero,List.set_cons_succ]
    refine AnyBut.step 16 (by kernel_rfl) rfl (by decide) (by rfl) (fun K hK=>?_)
    go_simp
    refine hK.out _ _ hHeld ?_
    clear hK K
    try simp only [Act.put,List.setIfInBounds_toArray,List.set_cons_zero,List.set_cons_succ]
    refine AnyBut.last (by kernel_rfl) (by kernel_rfl) rfl (by rfl) (fun K hK=>?_)
    go_simp
    refine hK.out _ _ ?_
    clear hK K hHeld
    clear hgr2 hgr3 hat3 hlt3 c5 c6 cA cB e5 e6 f6 eB HM M2 hb2 hb3
    go_wp2
    generalize w3.setCell ⟨w1.heap.size,1,none⟩ (.slice (some ⟨gg,0,none⟩) (k+1) cap')=w4 at *
    have c5:w4.cell? ⟨w1.heap.size+1,0,none⟩=some (.pointer (some ⟨w1.heap.size,0,none⟩)):=blk_cell M3.out.box 0
    have c6:w4.cell? ⟨w1.heap.size,2,none⟩=some vb:=blk_cell M3.out.blk 2
    refine wp_region_but 12 (fun w'=>w'.cell? ⟨w1.heap.size+1,0,none⟩=some (.pointer (some ⟨w1.heap.size,0,none⟩))∧w'.cell? ⟨w1.heap.size,2,none⟩=some vb) (by kernel_rfl) ⟨c5,c6⟩ (fun hHeld=>?_)
    refine AnyBut.take 0 (d:=(some 52)) (v:=?_) rfl rfl (by kernel_rfl) (by kernel_rfl) (by kernel_rfl) (by kernel_rfl) (fun _ _ _ h=>h) (by rfl) (by assumption) ?_ ?_
    rotate_left
    · (intro wx hSw;(try dsimp only at hSw);go_simp);all_goals with_reducible rfl
    try simp only [Act.put,List.setIfInBounds_toArray,List.set_cons_zero,List.set_cons_succ]
    refine AnyBut.take 1 (d:=(some 53)) (v:=?_) rfl rfl (by kernel_rfl) (by kernel_rfl) (by kernel_rfl) (by kernel_rfl) (fun _ _ _ h=>h) (by rfl) (by assumption) ?_ ?_
    rotate_left
    · (intro wx hSw;(try dsimp only at hSw);go_simp);all_goals with_reducible rfl
    try simp only [Act.put,List.setIfInBounds_toArray,List.set_cons_zero,List.set_cons_succ]
    refine AnyBut.take 2 (d:=(some 54)) (v:=?_) rfl rfl (by kernel_rfl) (by kernel_rfl) (by kernel_rfl) (by kernel_rfl) (fun _ _ _ h=>h) (by rfl) (by assumption) ?_ ?_
    rotate_left
    · (intro wx hSw;(try dsimp only at hSw);go_simp);all_goals with_reducible rfl
    try simp only [Act.put,List.setIfInBounds_toArray,List.set_cons_zero,List.set_cons_succ]
    refine AnyBut.take 3 (d:=(some 55)) (v:=?_) rfl rfl (by kernel_rfl) (by kernel_rfl) (by kernel_rfl) (by kernel_rfl) (fun _ _ _ h=>h) (by rfl) (by assumption) ?_ ?_
    rotate_left
    · (intro wx hSw;(try dsimp only at hSw);go_simp);all_goals with_reducible rfl
    try simp only [Act.put,List.setIfInBounds_toArray,List.set_cons_zero,List.set_cons_succ]
    refine AnyBut.take 4 (d:=(some 56)) (v:=?_) rfl rfl (by kernel_rfl) (by kernel_rfl) (by kernel_rfl) (by kernel_rfl) (fun _ _ _ h=>h) (by rfl) (by assumption) ?_ ?_
    rotate_left
    · (intro wx hSw;(try dsimp only at hSw);go_simp);all_goals with_reducible rfl
    try simp only [Act.put,List.setIfInBounds_toArray,List.set_cons_zero,List.set_cons_succ]
    refine AnyBut.take 5 (d:=(some 57)) (v:=?_) rfl rfl (by kernel_rfl) (by kernel_rfl) (by kernel_rfl) (by kernel_rfl) (fun _ _ _ h=>h) (by rfl) (by assumption) ?_ ?_
    rotate_left
    · (intro wx hSw;(try dsimp only at hSw);go_simp);all_goals with_reducible rfl
    try simp only [Act.put,List.setIfInBounds_toArray,List.set_cons_zero,List.set_cons_succ]
    refine AnyBut.take 6 (d:=(some 58)) (v:=?_) rfl rfl (by kernel_rfl) (by kernel_rfl) (by kernel_rfl) (by kernel_rfl) (fun _ _ _ h=>h) (by rfl) (by assumption) ?_ ?_
    rotate_left
    · (intro wx hSw;(try dsimp only at hSw);go_simp);all_goals with_reducible rfl
    try simp only [Act.put,List.setIfInBounds_toArray,List.set_cons_zero,List.set_cons_succ]
    refine AnyBut.step 7 (by kernel_rfl) rfl (by decide) (by rfl) (fun K hK=>?_)
    go_simp
    (with_reducible refine (next_any w1.heap.size (w1.heap.size+1) (.slice (some ⟨gs,0,none⟩) zs.length cs) (.slice (some ⟨gg,0,none⟩) (k+1) cap') vb (lo zs k+y*x) y _ ?_ ?_ ?_ ?_ ?_ ?_).mono ?_)
    · exact M3.out.blk
    · exact M3.out.box
    · omega
    · omega
    · omega
    · omega
    rintro e w5 ⟨rfl,hg5,hgr5⟩
    have M5:=K1 ((M3.out.drew.next hg5 hgr5).alloc (.cells #[.int .i64 (lo zs k+y*x),.int .i64 (lo zs k+y*x+y)] 47))
    have hb5:Below w.heap.size w w5:=(below_drew hb4).grown hgr5 hb4.size (fun q hq=>by have:=hbw.size;injection hq with hq;omega)
    have d5:w5.cell? ⟨w1.heap.size+1,0,none⟩=some (.pointer (some ⟨w1.heap.size,0,none⟩)):=blk_cell (blk_grown M3.out.drew.box hgr5 (by simp)) 0
    have d6:w5.cell? ⟨w1.heap.size,2,none⟩=some vb:=blk_cell hg5 2
    have d7:=blk_cell M5.out.box 0
    have d8:=blk_cell M5.out.blk 2
    refine hK.out _ _ ⟨d5,d6⟩ ?_
    clear hK K hg5 hHeld
    try simp only [Act.put,List.setIfInBounds_toArray,List.set_cons_zero,List.set_cons_succ]
    refine AnyBut.step 8 (by kernel_rfl) rfl (by decide) (by rfl) (fun K hK=>?_)
    go_simp
    refine hK.out _ _ ⟨d7,d8⟩ ?_
    clear hK K
    try simp only [Act.put,List.setIfInBounds_toArray,List.set_cons_zero,List.set_cons_succ]
    refine AnyBut.step 9 (by kernel_rfl) rfl (by decide) (by rfl) (fun K hK=>?_)
    refine wp_append_lies _ _ _ _ rfl w.heap.size 47 i0 _ 2 16 Tryz.underlying44 I0.out I1.out I2.out I3.out rfl (by omega) vb k (bcells zs k) rfl M5.out.ob
      ⟨w5.heap.size,0,none⟩ 1 1 [.int .i64 (lo zs k+y*x),.int .i64 (lo zs k+y*x+y)] rfl rfl (World.news_of_block (cs:=#[.int .i64 (lo zs k+y*x),.int .i64 (lo zs k+y*x+y)]) (t:=47) (fr:=(0,0)) (heap_alloc_new w5 _)) (by simp [Value.oneCell'])
      (by omega) (by simp only [maxLen];omega) (by omega) (by simp;have:=hb5.size;omega) (w5.heap.size+1) (by simp) ?_
    intro gb capb w6 hown6 hgr6 hat6 hlt6
    have hm6:bcells zs k++[.int .i64 (lo zs k+y*x),.int .i64 (lo zs k+y*x+y)]=bcells zs (k+1):=by rw [bcells,mid_eq zs k x y HX.out HY.out,lo_succ zs k x y HX.out HY.out]
    rw [hm6] at hown6
    have M6:=K1 (M5.out.setB hown6 hgr6 (by rw [World.size_alloc];exact hat6))
    have hb6:Below w.heap.size w w6:=(hb5.alloc hb5.size _).grown hgr6 (by simp;have:=hb5.size;omega) (fun q hq=>(M5.out.ob.lt q hq).1)
    have e5:w6.cell? ⟨w1.heap.size+1,0,none⟩=some (.pointer (some ⟨w1.heap.size,0,none⟩)):=blk_cell (blk_grown M5.out.box hgr6 (Ne.symm (own_ne M5.out.ob M5.out.box (by decide)))) 0
    have e6:w6.cell? ⟨w1.heap.size,2,none⟩=some vb:=blk_cell (M5.out.blkB hgr6) 2
    have f6:w6.frozen? ⟨w1.heap.size,2,none⟩=false:=blk_frozen (M5.out.blkB hgr6) 2
    have hb7:=hb6.setCell (p:=⟨w1.heap.size,2,none⟩) hbw.size (.slice (some ⟨gb,0,none⟩) (k+1) capb)
    refine hK.out _ _ ⟨e5,e6⟩ ?_
    clear hK K hm6 hown6 d5 d6 d7 d8
    have hHeld:=And.intro e5 e6
    try simp only [Act.put,List.setIfInBounds_toArray,List.set_cons_zero,List.set_cons_succ]
    refine AnyBut.step 10 (by kernel_rfl) rfl (by decide) (by rfl) (fun K hK=>?_)
    go_simp
    refine hK.out _ _ hHeld ?_
    clear hK K
    try simp only [Act.put,List.setIfInBounds_toArray,List.set_cons_zero,List.set_cons_succ]
    refine AnyBut.step 11 (by kernel_rfl) rfl (by decide) (by rfl) (fun K hK=>?_)
    go_simp
    refine hK.out _ _ hHeld ?_
    clear hK K
    try simp only [Act.put,List.setIfInBounds_toArray,List.set_cons_zero,List.set_cons_succ]
    refine AnyBut.last (by kernel_rfl) (by kernel_rfl) rfl (by rfl) (fun K hK=>?_)
    go_simp
    refine hK.out _ _ ?_
    clear hK K hHeld hgr5 hgr6 hat6 hlt6 e5 e6 f6 M5 hb5 hb6 wp bm c5 c6
    go_wp2
    go_roundw
    case rel=>exact ⟨k+1,by omega,by go_num,_,_,by rw [lo_succ zs k x y HX.out HY.out];exact M6.out,hb7⟩
    case measure=>simp [intOf];omega
  · obtain rfl:k=zs.length-1:=by omega
    have hlo:lo zs (zs.length-1)=cnt zs:=by unfold lo;rw [List.take_of_length_le (by omega)]
    rw [hlo] at hM
    have HS:=K1 hM.from_
    have c5:wr.cell? ⟨w1.heap.size+1,0,none⟩=some (.pointer (some ⟨w1.heap.size,0,none⟩)):=blk_cell hM.box 0
    have c6:wr.cell? ⟨w1.heap.size,3,none⟩=some (.int .i64 (cnt zs)):=blk_cell hM.blk 3
    clear hlo hM
    by_cases h4:1048576<cnt zs
    · have hc4:Hid (shCode zs=4):=K1 (by rw [Hcode.out,if_pos h4])
      go_wp2
      go_ret2
      exact ⟨hbr,fun h=>absurd (hc4.out.symm.trans h) (by decide),fun _=>ret_pi hc4.out.symm⟩
    · have hc4:Hid (shCode zs=0):=K1 (by rw [Hcode.out,if_neg h4])
      go_wp2
      go_ret2
      exact ⟨hbr,fun _=>⟨w1.heap.size,rfl,HS.out hbw.size⟩,fun h=>absurd hc4.out h⟩
theorem newF_any (A:Option Addr) (cap:Nat) (zs:List Int) (w:World) (hr:RdI w w.heap.size A zs) (hcap:zs.length≤cap) (hm:zs.length≤9223372036854775807) :
  Calls Tryz.prog 59 #[.slice A zs.length cap] w (MadeF w zs):=by
 by_cases h2:zs.length<2
 · exact new_few A cap zs w (.inl h2) hm
 by_cases h16:16<zs.length
 · exact new_few A cap zs w (.inr h16) hm
 cases hz:zs.all okSz
 · exact new_wrong A cap zs w h2 h16 hr hz
 · exact new_right A cap zs w h2 h16 hr hcap hz
theorem new_any (A:Option Addr) (cap:Nat) (zs:List Int) (w:World) (hr:RdI w w.heap.size A zs) (hcap:zs.length≤cap) (hm:zs.length≤9223372036854775807) :
  Calls Tryz.prog 59 #[.slice A zs.length cap] w (Made w zs):=(newF_any A cap zs w hr hcap hm).mono fun _ _ h=>h.made
end Go.Proofs.YtdpojpcoghcieaaGreat
namespace Go.Proofs.YtdpojpcoghcieaaGreat
structure Cf where
 sh:Int
 ra:Int
 mo:Int
 wo:Int
 ba:Int
 mi:Int
 st:Int
 bu:Int
 ch:Int
 wi:Int
 ca:Int
def cfVal (A:Option Addr) (n cap:Nat) (c:Cf):Value :=
 .agg #[.slice A n cap,.int .i64 c.sh,.int .i64 c.ra,.int .i64 c.mo,.int .i64 c.wo,.int .i64 c.ba,.int .i64 c.mi,.int .i64 c.st,.int .i64 c.bu,.int .i64 c.ch,.int .i64 c.wi,.int .i64 c.ca]
def numsOk (c:Cf):Bool:=okSz c.mi && okSz c.bu && okSz c.ch && okSz c.wi && okSz c.ca && (decide (c.st=0) || okSz c.st)
def confCode (zs:List Int) (c:Cf):Int :=
 if c.wo<1∨64<c.wo then 6
 else if c.sh<1∨62<c.sh then 9
 else if shCode zs≠0 then shCode zs
 else if numsOk c=false then 2
 else if c.ba<c.wo∨1048576<c.ba then 7 else 0
section
variable {zs:List Int} {c:Cf}
theorem code6 (h:c.wo<1∨64<c.wo):confCode zs c=6:=if_pos h
theorem code9 (h:¬ c.wo<1) (h':¬ 64<c.wo) (h1:c.sh<1∨62<c.sh):confCode zs c=9:=by
 unfold confCode;rw [if_neg (by omega),if_pos h1]
theorem codeS (h:¬ c.wo<1) (h':¬ 64<c.wo) (h1:¬ c.sh<1) (h1':¬ 62<c.sh) (h2:shCode zs≠0):confCode zs c=shCode zs:=by
 unfold confCode;rw [if_neg (by omega),if_neg (by omega),if_pos h2]
theorem code2 (h:¬ c.wo<1) (h':¬ 64<c.wo) (h1:¬ c.sh<1) (h1':¬ 62<c.sh) (h2:shCode zs=0) (h3:numsOk c=false):confCode zs c=2:=by
 unfold confCode;rw [if_neg (by omega),if_neg (by omega),if_neg (by simp [h2]),if_pos h3]
theorem code7 (h:¬ c.wo<1) (h':¬ 64<c.wo) (h1:¬ c.sh<1) (h1':¬ 62<c.sh) (h2:shCode zs=0) (h3:numsOk c=true) (h4:c.ba<c.wo∨1048576<c.ba):confCode zs c=7:=by
 unfold confCode;rw [if_neg (by omega),if_neg (by omega),if_neg (by simp [h2]),if_neg (by simp [h3]),if_pos h4]
theorem code0 (h:¬ c.wo<1) (h':¬ 64<c.wo) (h1:¬ c.sh<1) (h1':¬ 62<c.sh) (h2:shCode zs=0) (h3:numsOk c=true) (h4:¬ c.ba<c.wo) (h4':¬ 1048576<c.ba):confCode zs c=0:=by
 unfold confCode;rw [if_neg (by omega),if_neg (by omega),if_neg (by simp [h2]),if_neg (by simp [h3]),if_neg (by omega)]
end
end Go.Proofs.YtdpojpcoghcieaaGreat
