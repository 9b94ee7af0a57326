/- A part of the proof of TopSerial: Same13, Traj, TrajAll. Conditions: none. -/
import Derived.Test.YtdpojpcoghcieaaGreatSdBQ
set_option maxHeartbeats 8000000
namespace Go.Proofs.YtdpojpcoghcieaaGreat
open Lib renaming hid → K1
open List renaming filterMap_cons → p1, filterMap_nil → p2, getElem?_cons_zero → p3, getElem?_cons_succ → p4
open Go.RowKit
structure RSt (W:World) (A:Option Addr) (l:List Ex):Prop where
 row:Rd W W.heap.size A (exCells l)
 fam:∀ a∈exFam l,Rd W W.heap.size a.1 a.2
theorem RSt.below {W W':World} {A:Option Addr} {l:List Ex} (h:RSt W A l) (hb:Below W.heap.size W W'):RSt W' A l:=⟨(h.row.below hb).more hb.size,fun a ha=>((h.fam a ha).below hb).more hb.size⟩
theorem RSt.at_ {W:World} {b off k:Nat} {l:List Ex} {e:Ex} (h:RSt W (some ⟨b,off,none⟩) l) (he:l[k]?=some e):W.cell? ⟨b,off+k*2,none⟩=some (.slice e.ax e.xs.length e.cx)∧W.cell? ⟨b,off+k*2+1,none⟩=some (.slice e.ay e.ys.length e.cy):=by
 have ha:=exCells_at l k e he
 have h0:0<(exCells l).length:=by have:=(List.getElem?_eq_some_iff.1 ha.1).1;omega
 obtain ⟨b',o',e',_,hc⟩:=h.row h0
 injection e' with e'
 injection e' with e1 e2
 subst e1;subst e2
 have h1:=hc _ _ ha.1
 have h2:=hc _ _ ha.2
 rw [Nat.mul_comm] at h1
 rw [Nat.mul_comm 2 k] at h2
 exact ⟨h1,by rw [Nat.add_assoc];exact h2⟩
theorem RSt.addr {W:World} {A:Option Addr} {l:List Ex} (h:RSt W A l) (h0:0<l.length):∃ b off,A=some ⟨b,off,none⟩:=by
 obtain ⟨b,o,e,_⟩:=h.row (by rw [exCells_len];omega)
 exact ⟨b,o,e⟩
theorem differ_same (A C:Option Addr) (n cap cap':Nat) (xs:List Int) (w:World) (hr:Rd w w.heap.size A (zC xs)) (hs:Rd w w.heap.size C (zC xs)) (hx:xs.length=n) (hn:n≤1000000) :
  Calls Tryz.prog 148 #[.slice A n cap,.slice C n cap'] w fun e w'=>e=.returned (.int .i64 (-1))∧Below w.heap.size w w':=by
 have HM:=K1 (((Mem.start w).add_rd (i:=0) rfl hr).add_rd (i:=0) rfl hs)
 have hA:0<n→∃ b o,A=some ⟨b,o,none⟩:=fun h0=>by obtain ⟨b,o,e,_⟩:=hr (by rw [zC_len];omega);exact ⟨b,o,e⟩
 have hC:0<n→∃ b o,C=some ⟨b,o,none⟩:=fun h0=>by obtain ⟨b,o,e,_⟩:=hs (by rw [zC_len];omega);exact ⟨b,o,e⟩
 have HX:=K1 hx
 clear hr hs hx
 go_enter Tryz.func148,Tryz.ntmps148
 go_wp2_with fail
 go_loopw [5] (fun i wr=>∃ k:Nat,k≤n∧i=.int .i64 k∧Hid (Mem wr [.bel w.heap.size w,.rd A (zC xs),.rd C (zC xs)])) (fun i _=>n-(intOf i).toNat)
 case atStart=>exact ⟨0,Nat.zero_le _,rfl,HM⟩
 case round =>
  clear HM
  obtain ⟨k,hk,rfl,HM⟩:=hrel
  by_cases h1:k<n
  · obtain ⟨b,off,rfl⟩:=hA (by omega)
    obtain ⟨b',off',rfl⟩:=hC (by omega)
    obtain ⟨x,hx⟩:=get_some xs k (by rw [HX.out];exact h1)
    have c1:=HM.out.rdAt 1 rfl (zC_at hx)
    have c2:=HM.out.rdAt 2 rfl (zC_at hx)
    have hq:(x != x)=false:=by simp
    have hd:decide (n≤k)=false:=decide_eq_false (by omega)
    clear hx
    go_wp2_with fail
    go_quiet (fail)
    go_wp2_with fail
    go_roundw
    case rel=>exact ⟨k+1,by omega,by go_num,K1 (HM.out.drewN _)⟩
    case measure=>simp [intOf];omega
  · go_wp2_with fail
    go_ret
    exact ⟨rfl,HM.out.bel 0 rfl⟩
theorem same03_same (A C:Option Addr) (n cap cap':Nat) (xs:List Int) (w:World) (hr:Rd w w.heap.size A (zC xs)) (hs:Rd w w.heap.size C (zC xs)) (hx:xs.length=n) (hn:n≤1000000) :
  Calls Tryz.prog 123 #[.slice A n cap,.slice C n cap'] w fun e w'=>e=.returned (.bool true)∧Below w.heap.size w w':=by
 have HD:=K1 (differ_same A C n cap cap' xs w hr hs hx hn)
 clear hr hs hx
 go_enter Tryz.func123,Tryz.ntmps123
 go_wp2_with fail
 refine HD.out.mono ?_
 rintro e w1 ⟨rfl,hb⟩
 go_wp2_with fail
 go_ret
 exact ⟨rfl,hb⟩
set_option maxRecDepth 100000 in
theorem same13_same (w:World) (A1 A2 B1 B2:Option Addr) (n c1 c2 d1 d2:Nat) (xs ys:List Int) (h1:Rd w w.heap.size A1 (zC xs)) (h2:Rd w w.heap.size A2 (zC ys)) (h3:Rd w w.heap.size B1 (zC xs)) (h4:Rd w w.heap.size B2 (zC ys)) (hx:xs.length=n) (hy:ys.length=n) (hn:n≤1000000) :
  Calls Tryz.prog 76 #[.agg #[.slice A1 n c1,.slice A2 n c2],.agg #[.slice B1 n d1,.slice B2 n d2]] w fun e w'=>e=.returned (.bool true)∧Below w.heap.size w w':=by
 have CX:=K1 (fun W a b=>same03_same A1 B1 n c1 d1 xs W a b hx hn)
 have CY:=K1 (fun W a b=>same03_same A2 B2 n c2 d2 ys W a b hy hn)
 have hm:=((((((Mem.start w).add_rd (i:=0) rfl h1).add_rd (i:=0) rfl h2).add_rd (i:=0) rfl h3).add_rd (i:=0) rfl h4).alloc (.cells #[.slice A1 n c1,.slice A2 n c2] 66)).alloc (.cells #[.slice B1 n d1,.slice B2 n d2] 66)
 simp only [World.size_alloc] at hm
 have HM:=K1 hm
 clear hm h1 h2 h3 h4 hx hy
 go_enter Tryz.func76,Tryz.ntmps76
 have q5:=HM.out.cells 5 rfl
 have q6:=HM.out.cells 6 rfl
 go_wp2_with fail
 refine (CX.out _ (HM.out.rd 1 rfl) (HM.out.rd 3 rfl)).mono ?_
 rintro e w1 ⟨rfl,hb⟩
 replace HM:=K1 (HM.out.below hb)
 clear hb CX q5 q6
 have q5:=HM.out.cells 5 rfl
 have q6:=HM.out.cells 6 rfl
 go_wp2_with fail
 refine (CY.out _ (HM.out.rd 2 rfl) (HM.out.rd 4 rfl)).mono ?_
 rintro e w1 ⟨rfl,hb⟩
 replace HM:=K1 (HM.out.below hb)
 clear hb CY q5 q6
 go_wp2_with fail
 go_ret
 exact ⟨rfl,HM.out.bel 0 rfl⟩
structure EqSt (p:Nat) (l m:List Ex):Prop where
 eq:l.map Ex.nums=m.map Ex.nums
 len:∀ e∈l,e.xs.length=p∧e.ys.length=p
theorem EqSt.at_ {p:Nat} {l m:List Ex} (h:EqSt p l m) {k:Nat} (hk:k<l.length):∃ e f:Ex,l[k]?=some e∧m[k]?=some f∧f.xs=e.xs∧f.ys=e.ys∧e.xs.length=p∧e.ys.length=p:=by
 obtain ⟨e,he⟩:=get_some l k hk
 have:=congrArg (·[k]?) h.eq
 simp only [List.getElem?_map,he,Option.map_some] at this
 obtain ⟨f,hf,hn⟩:=Option.map_eq_some_iff.1 this.symm
 have hl:=h.len e (List.mem_of_getElem? he)
 exact ⟨e,f,he,hf,congrArg Prod.fst hn,congrArg Prod.snd hn,hl.1,hl.2⟩
set_option maxRecDepth 100000 in
theorem sameAll13_same (w:World) (A B:Option Addr) (n p ca cb:Nat) (l m:List Ex) (hA:RSt w A l) (hB:RSt w B m) (hE:EqSt p l m) (hl:l.length=n) (hn:n≤1000000) (hp:p≤1000000) :
  Calls Tryz.prog 37 #[.slice A n ca,.slice B n cb] w fun e w'=>e=.returned (.bool true)∧Below w.heap.size w w':=by
 have HRA:=K1 (fun W (hb:Below w.heap.size w W)=>hA.below hb)
 have HRB:=K1 (fun W (hb:Below w.heap.size w W)=>hB.below hb)
 have HE:=K1 hE
 have HL:=K1 hl
 have hml:m.length=n:=by have:=congrArg List.length hE.eq;simpa [hl] using this.symm
 have gA:0<n→∃ b o,A=some ⟨b,o,none⟩:=fun h0=>hA.addr (by omega)
 have gB:0<n→∃ b o,B=some ⟨b,o,none⟩:=fun h0=>hB.addr (by omega)
 clear hA hB hE hl hml
 go_enter Tryz.func37,Tryz.ntmps37
 have hq0:((n:Int) != (n:Int))=false:=by simp
 go_wp2_with fail
 go_loopw [5] (fun s5 wr=>∃ k:Nat,k≤n∧s5=.int .i64 k∧Hid (Below w.heap.size w wr)) (fun s5 _=>n-(intOf s5).toNat)
 case atStart=>exact ⟨0,Nat.zero_le _,rfl,K1 (Below.refl _ _)⟩
 case round =>
  obtain ⟨k,hk,rfl,HB⟩:=hrel
  by_cases h1:k<n
  · obtain ⟨b,off,rfl⟩:=gA (by omega)
    obtain ⟨b',off',rfl⟩:=gB (by omega)
    obtain ⟨e,f,he,hf,e1,e2,e3,e4⟩:=HE.out.at_ (k:=k) (by rw [HL.out];exact h1)
    have HS:=K1 (fun W (hb:Below w.heap.size w W)=>And.intro ((HRA.out W hb).at_ he) ((HRB.out W hb).at_ hf))
    have HF:=K1 (fun W (hb:Below w.heap.size w W)=>And.intro (And.intro ((HRA.out W hb).fam _ (exFam_x (List.mem_of_getElem? he))) ((HRA.out W hb).fam _ (exFam_y (List.mem_of_getElem? he)))) (And.intro ((HRB.out W hb).fam _ (exFam_x (List.mem_of_getElem? hf))) ((HRB.out W hb).fam _ (exFam_y (List.mem_of_getElem? hf)))))
    rw [e1,e2,e3,e4] at HS
    rw [e1,e2] at HF
    obtain ⟨ax,xs,cx,ay,ys,cy⟩:=e
    obtain ⟨bx,us,dx,by_,vs,dy⟩:=f
    dsimp only at *
    have CS:=K1 (fun W (hb:Below w.heap.size w W)=>same13_same W ax ay bx by_ p cx cy dx dy xs ys (HF.out W hb).1.1 (HF.out W hb).1.2 (HF.out W hb).2.1 (HF.out W hb).2.2 e3 e4 hp)
    have HSF:=K1 (show ∀ W,Below w.heap.size w W→W.cell? ⟨b,off+k*2,none⟩=some (.slice ax p cx)∧W.cell? ⟨b,off+k*2+1,none⟩=some (.slice ay p cy)∧W.cell? ⟨b',off'+k*2,none⟩=some (.slice bx p dx)∧W.cell? ⟨b',off'+k*2+1,none⟩=some (.slice by_ p dy) from fun W hb=>⟨(HS.out W hb).1.1,(HS.out W hb).1.2,(HS.out W hb).2.1,(HS.out W hb).2.2⟩)
    clear he hf e1 e2 e3 e4 HS HF
    go_wp2_with fail
    refine name_wp fun W0 hW=>?_
    replace HB:=K1 (hW.out.symm ▸ HB.out)
    clear hW
    refine wp_region_stage (.reads [0,1,2,3,4,5,6,7] (.eff 8 (.reads [9] .fin))) 10 (fun W'=>W'.cell? ⟨b,off+k*2,none⟩=some (.slice ax p cx)∧W'.cell? ⟨b,off+k*2+1,none⟩=some (.slice ay p cy)∧W'.cell? ⟨b',off'+k*2,none⟩=some (.slice bx p dx)∧W'.cell? ⟨b',off'+k*2+1,none⟩=some (.slice by_ p dy))
     (by kernel_rfl) (by kernel_rfl) (by intro d v c a w h;cases d <;> exact h) ?_
    replace HB:=K1 (below_drewN HB.out 1)
    refine PlS.reads_ (HSF.out _ HB.out) (by kernel_rfl) ?_
    simp only [pickO,p1,p2,p3,p4]
    apply Exists.intro
    apply And.intro
    · intro W' hS
      obtain ⟨s0,s1,s2,s3⟩:=hS
      repeat still_step
      exact wpStill_nil rfl
    refine PlS.eff_ ?_
    simp only [pickO,p1,p2,p3,p4]
    go_wp2_with fail
    refine (CS.out _ HB.out).mono ?_
    rintro e w1 ⟨rfl,hb⟩
    replace HB:=K1 (HB.out.trans (hb.mono HB.out.size))
    clear hb CS
    go_wp2_with fail
    refine After.go (HSF.out _ HB.out) ?_
    refine PlS.reads_ (HSF.out _ HB.out) (by kernel_rfl) ?_
    simp only [pickO,p1,p2,p3,p4]
    apply Exists.intro
    apply And.intro
    · intro W' hS
      clear hS
      repeat still_step
      exact wpStill_nil rfl
    refine PlS.fin_ ?_
    go_wp2_with fail
    go_roundw
    case rel=>exact ⟨k+1,by omega,by go_num,HB⟩
    case measure=>simp [intOf];omega
  · go_wp2_with fail
    go_ret
    exact ⟨rfl,HB.out⟩
set_option maxRecDepth 100000 in
theorem back13_any (w:World) (A B:Option Addr) (p ca cb:Nat) :
  Calls Tryz.prog 77 #[.agg #[.slice A p ca,.slice B p cb]] w fun e w'=>e=.returned (.agg #[.slice A p ca,.slice B p cb])∧Below w.heap.size w w':=by
 have hm:=((Mem.start w).alloc (.cells #[.slice A p ca,.slice B p cb] 89)).alloc (.cells #[.slice A p ca,.slice B p cb] 66)
 simp only [World.size_alloc] at hm
 have HM:=K1 hm
 clear hm
 go_enter Tryz.func77,Tryz.ntmps77
 go_wp2_with fail
 have c2:=HM.out.cells 2 rfl
 refine bodyPost_ret (v:=.agg #[.slice A p ca,.slice B p cb]) ?_ rfl ⟨rfl,HM.out.bel 0 rfl⟩
 simp [results,Tryz.results77,go_sem,c2]
set_option maxRecDepth 100000 in
theorem back14_any (w:World) (A:Option Addr) (n p ca:Nat) (l:List Ex) (hA:RSt w A l) (hl:l.length=n) (hp:∀ e∈l,e.xs.length=p∧e.ys.length=p) (hn:n≤1000000) :
  Calls Tryz.prog 38 #[.slice A n ca] w fun e w'=>∃ B cb,e=.returned (.slice B n cb)∧w'.ownsRow w.heap.size 66 2 (.slice B n cb) n (exCells l)∧Below w.heap.size w w':=by
 have hm:=((Mem.start w).add_rd (i:=0) rfl hA.row).add (c:=.own w.heap.size 66 2 (.slice none 0 0) 0 (exCells (l.take 0))) ⟨own_nil _ _ _ _,Nat.le_refl _⟩ (fun _ _ _ _ g hg=>by cases hg)
 have HM:=K1 hm
 have gA:0<n→∃ b o,A=some ⟨b,o,none⟩:=fun h0=>hA.addr (by omega)
 have CB:=K1 (fun W A B ca cb=>back13_any W A B p ca cb)
 have HL:=K1 hl
 have HP:=K1 hp
 clear hm hA hl hp
 go_enter Tryz.func38,Tryz.ntmps38
 go_wp2_with fail
 go_loopw [3,5,8] (fun s3 _ s8 wr=>∃ (k:Nat) (B:Option Addr) (cb:Nat),k≤n∧s3=.slice B k cb∧s8=.int .i64 k∧Hid (Mem wr [.bel w.heap.size w,.rd A (exCells l),.own w.heap.size 66 2 (.slice B k cb) k (exCells (l.take k))])) (fun _ _ s8 _=>n-(intOf s8).toNat)
 case atStart=>exact ⟨0,none,0,Nat.zero_le _,rfl,rfl,HM⟩
 case round =>
  clear HM
  obtain ⟨k,B,cb,hk,rfl,rfl,HM⟩:=hrel
  by_cases h1:k<n
  · obtain ⟨b,off,rfl⟩:=gA (by omega)
    obtain ⟨e,he⟩:=get_some l k (by rw [HL.out];exact h1)
    have hpe:=HP.out e (List.mem_of_getElem? he)
    have h2:=HM.out.ex2 1 rfl he
    rw [hpe.1,hpe.2] at h2
    have e1:=h2.1
    have e2:=h2.2
    have HT:=K1 (show exCells (l.take (k+1))=exCells (l.take k)++[.slice e.ax p e.cx,.slice e.ay p e.cy] by rw [List.take_add_one,he,← hpe.1];show exCells (l.take k++[e])=_;rw [exCells_snoc];rw [hpe.2,← hpe.1])
    obtain ⟨ax,xs,cx,ay,ys,cy⟩:=e
    dsimp only at *
    clear h2 hpe he
    have HM1:=K1 (HM.out.alloc (.cells #[.slice ax p cx,.slice ay p cy] 89))
    have c3:=HM1.out.cells 3 rfl
    go_wp2_with fail
    refine (CB.out _ _ _ _ _).mono ?_
    rintro e w1 ⟨rfl,hb⟩
    have hm2:=(HM1.out.below hb).alloc (.cells #[.slice ax p cx,.slice ay p cy] 66)
    have HM3:=K1 hm2
    clear hm2 HM1 HM hb c3 e1 e2
    go_wp2_with (at_builtin;refine wpList_append_mem (n:=k) rfl _ _ 40 rfl HM3.out 2 rowS13 rfl rfl _ 1 _ [.slice ax p cx,.slice ay p cy] rfl (HM3.out.box 4 rfl) rfl (by intro u hu;simp at hu;rcases hu with rfl | rfl <;> rfl) (by omega) ?_;intro B' c' W4 hM4;have HM4:=K1 (hM4.front 3);clear hM4 HM3)
    go_roundw
    case rel=>exact ⟨k+1,B',c',by omega,rfl,by go_num,K1 (by rw [HT.out];exact HM4.out)⟩
    case measure=>simp [intOf];omega
  · have hkn:k=n:=by omega
    subst hkn
    go_wp2_with fail
    go_ret
    have ho:=HM.out.own 2 rfl
    rw [List.take_of_length_le (by rw [HL.out];exact Nat.le_refl _)] at ho
    exact ⟨B,cb,rfl,ho,HM.out.bel 0 rfl⟩
set_option maxRecDepth 100000 in
theorem mtraj_any (w:World) (m:Mc) (R:List Ch) (h:Mem w (m.ps++R)) (ho:m.Ok) (hb:m.cnt≤1000000) :
  Calls Tryz.prog 197 #[.pointer (some ⟨m.f.g,0,none⟩)] w fun e w'=>∃ A c l,e=.returned (.slice A m.rcd.length c)∧RSt w' A l∧l.map Ex.nums=m.rcd.map Ex.nums∧Below w.heap.size w w':=by
 have hp:=ho.f.p.2
 have hrl:=ho.recs
 have CC:=K1 (fun W A B ca cb ps ms hA hB hx hy=>sclone_any W A B m.f.p ca cb ps ms hA hB hx hy (by omega))
 have HC:=K1 (show ∀ W:World,Below w.heap.size w W→∀ k e,m.rcd[k]?=some e→∃ b o,m.Ar=some ⟨b,o,none⟩∧W.cell? ⟨b,o+k*2,none⟩=some (.slice e.ax m.f.p e.cx)∧W.cell? ⟨b,o+k*2+1,none⟩=some (.slice e.ay m.f.p e.cy)∧Rd W W.heap.size e.ax (zC e.xs)∧Rd W W.heap.size e.ay (zC e.ys) from fun W hb k e he=>by
  have hW:=h.below hb
  have hr:RSt W m.Ar m.rcd:=⟨rd_of_own (hW.own 4 rfl),hW.st 5 rfl⟩
  obtain ⟨b,o,e1⟩:=hr.addr (by have:=(List.getElem?_eq_some_iff.1 he).1;omega)
  have hr2:=hr
  rw [e1] at hr2
  have hc:=hr2.at_ he
  have hl:=ho.rcds e (List.mem_of_getElem? he)
  rw [hl.1,hl.2] at hc
  exact ⟨b,o,e1,hc.1,hc.2,hr.fam _ (exFam_x (List.mem_of_getElem? he)),hr.fam _ (exFam_y (List.mem_of_getElem? he))⟩)
 have HL:=K1 (show ∀ e∈m.rcd,e.xs.length=m.f.p∧e.ys.length=m.f.p from ho.rcds)
 have c14:w.cell? ⟨m.f.g,14,none⟩=some (.slice m.Ar m.rcd.length m.cr):=blk_cells (h.obj 0 rfl) 14
 have hm:=((Mem.start w).add (c:=.own w.heap.size 89 2 (.slice none 0 0) 0 (exCells [])) ⟨own_nil _ _ _ _,Nat.le_refl _⟩ (fun _ _ _ _ g hg=>by cases hg)).add (c:=famCh (exFam [])) (fam_local (fun a ha=>by cases ha)) (fun _ _ _ _ g hg=>by obtain ⟨a,ha,_⟩:=hg;cases ha)
 have HM:=K1 hm
 have gA:0<m.rcd.length→∃ b o,m.Ar=some ⟨b,o,none⟩:=fun h0=>RSt.addr (W:=w) (l:=m.rcd) ⟨rd_of_own (h.own 4 rfl),h.st 5 rfl⟩ h0
 obtain ⟨n,hn⟩:∃ n,n=m.rcd.length:=⟨_,rfl⟩
 obtain ⟨Ar,hAr⟩:∃ Ar,Ar=m.Ar:=⟨_,rfl⟩
 rw [← hn] at c14 hrl gA ⊢
 rw [← hAr] at c14 gA HC
 have HN:=K1 hn
 clear hm h ho hn hAr
 dsimp only [stV] at CC
 go_enter Tryz.func197,Tryz.ntmps197
 go_wp2_with fail
 clear c14
 go_loopw [3,5,13] (fun s3 _ s13 wr=>∃ (k:Nat) (B:Option Addr) (cb:Nat) (l:List Ex),k≤n∧s3=.slice B k cb∧s13=.int .i64 k∧Hid (l.map Ex.nums=(m.rcd.take k).map Ex.nums)∧Hid (Mem wr [.bel w.heap.size w,.own w.heap.size 89 2 (.slice B k cb) k (exCells l),famCh (exFam l)])) (fun _ _ s13 _=>n-(intOf s13).toNat)
 case atStart=>exact ⟨0,none,0,[],Nat.zero_le _,rfl,rfl,K1 rfl,HM⟩
 case round =>
  clear HM
  obtain ⟨k,B,cb,l,hk,rfl,rfl,HE,HM⟩:=hrel
  by_cases h1:k<n
  · obtain ⟨e,he⟩:=get_some m.rcd k (by rw [← HN.out];exact h1)
    obtain ⟨b,o,hA,e1,e2,r1,r2⟩:=HC.out wr (HM.out.bel 0 rfl) k e he
    obtain ⟨hl1,hl2⟩:=HL.out e (List.mem_of_getElem? he)
    have HT:=K1 (show (m.rcd.take (k+1)).map Ex.nums=(m.rcd.take k).map Ex.nums++[(e.xs,e.ys)] by rw [List.take_add_one,he];simp [Ex.nums])
    obtain ⟨b2,o2,hg⟩:=gA (by omega)
    rw [hg] at hA
    injection hA with hA
    injection hA with hA1 hA2
    subst hA1;subst hA2;subst hg
    have HM1:=K1 (HM.out.alloc (.cells #[.slice e.ax m.f.p e.cx,.slice e.ay m.f.p e.cy] 89))
    have c3:=HM1.out.cells 3 rfl
    have hbw:=(Below.refl wr.heap.size wr).alloc (Nat.le_refl _) (.cells #[.slice e.ax m.f.p e.cx,.slice e.ay m.f.p e.cy] 89)
    have CCk:=K1 (CC.out _ e.ax e.ay e.cx e.cy e.xs e.ys ((r1.below hbw).more hbw.size) ((r2.below hbw).more hbw.size) hl1 hl2)
    have HLL:=K1 (And.intro hl1 hl2)
    clear he r1 r2 hl1 hl2 hbw
    go_wp2_with fail
    refine CCk.out.mono ?_
    rintro x w1 ⟨Ap,cp,Am,cm,rfl,hm3⟩
    have hm4:=HM1.out.join hm3 (fun c hc hmu g hg=>by simp only [List.mem_cons,List.not_mem_nil,or_false] at hc;rcases hc with rfl | rfl <;> exact absurd trivial hmu)
    have hm5:=((hm4.freeze (i:=4) rfl).freeze (i:=5) rfl).alloc (.cells #[.slice Ap m.f.p cp,.slice Am m.f.p cm] 89)
    have HM5:=K1 hm5
    clear hm3 hm4 hm5 HM1 HM CCk c3 e1 e2
    go_wp2_with (at_builtin;refine wpList_append_mem (n:=k) rfl _ _ 85 rfl HM5.out 1 rowSt rfl rfl _ 1 _ [.slice Ap m.f.p cp,.slice Am m.f.p cm] rfl (HM5.out.box 6 rfl) rfl (by intro u hu;simp at hu;rcases hu with rfl | rfl <;> rfl) (by omega) ?_;intro B' c' W4 hM4;have HM6:=K1 ((((hM4.famSnoc (i:=2) (j:=4) rfl rfl).famSnoc (i:=2) (j:=5) rfl rfl)).front 3);clear hM4 HM5)
    go_roundw
    case rel =>
     refine ⟨k+1,B',c',l++[⟨Ap,e.xs,cp,Am,e.ys,cm⟩],by omega,rfl,by go_num,K1 ?_,K1 ?_⟩
     · rw [HT.out,List.map_append,HE.out];rfl
     · rw [exCells_snoc,exFam_snoc];dsimp only;rw [HLL.out.1,HLL.out.2];exact HM6.out
    case measure=>simp [intOf];omega
  · have hkn:k=n:=by omega
    subst hkn
    go_wp2_with fail
    go_ret
    have hm:=(HM.out.freeze (i:=1) rfl)
    have he:=HE.out
    rw [List.take_of_length_le (by rw [← HN.out];exact Nat.le_refl _)] at he
    exact ⟨B,cb,l,rfl,⟨hm.rd 1 rfl,hm.st 2 rfl⟩,he,hm.bel 0 rfl⟩
set_option maxRecDepth 100000 in
theorem wtraj_any (w:World) (x:Wv) (r:Rn) (R:List Ch) (h:Mem w (x.ps++R)) (ho:x.Ok r) (hb:x.count≤1000000) (u:Nat) (m:Mc) (h1:x.ms[u]?=some m) :
  Calls Tryz.prog 26 #[.pointer (some ⟨x.g,0,none⟩),.int .i64 u] w fun e w'=>∃ A c l,e=.returned (.slice A m.rcd.length c)∧RSt w' A l∧l.map Ex.nums=m.rcd.map Ex.nums∧Below w.heap.size w w':=by
 have hk:=ho.c.k
 have hu:u<r.c.k:=by rw [← ho.lm];exact (List.getElem?_eq_some_iff.1 h1).1
 obtain ⟨li,h2⟩:=get_some x.ls ((u+r.c.k-1) % r.c.k) (by rw [ho.ll];exact Nat.mod_lt _ (by omega))
 obtain ⟨lo,h3⟩:=get_some x.ls u (by rw [ho.ll];exact hu)
 have CA:=K1 (at_any w x _ (by have:=h;unfold Wv.ps at this;rw [List.append_assoc] at this;exact this) r.c.k ho.lm ho.ll hk u hu m li lo h1 h2 h3)
 obtain ⟨k1,k2,k3,k4⟩:=ho.m u m h1
 have CT:=K1 (fun W M hM=>mtraj_any W m M hM k1 (by omega))
 have HM:=K1 (h.perm (x.perm1 R h1))
 dsimp only [ifV,ptV] at CA
 clear h ho hu h1 h2 h3 k1 k2 k3 k4 hk hb
 go_enter Tryz.func26,Tryz.ntmps26
 go_wp2_with fail
 refine CA.out.mono ?_
 rintro e w1 ⟨rfl,q,rfl⟩
 replace HM:=K1 (HM.out.drewN q)
 clear CA
 go_wp2_with fail
 refine (CT.out _ _ HM.out).mono ?_
 rintro e w2 ⟨A,c,l,rfl,hr,he,hb⟩
 have HF:=K1 (And.intro hr (And.intro he (below_drewN (Below.refl w.heap.size w) q |>.trans hb)))
 clear hr he hb CT HM
 go_wp2_with fail
 go_ret
 exact ⟨A,c,l,rfl,HF.out.1,HF.out.2.1,HF.out.2.2⟩
set_option maxRecDepth 100000 in
theorem all_any (w:World) (x:Wv) (r:Rn) (R:List Ch) (h:Mem w (x.ps++R)) (ho:x.Ok r) (hb:x.count≤1000000) (B:Option Addr) (n cb:Nat) (want:List Ex) (hB:RSt w B want) (hn:want.length=n) (hnb:n≤1000000) (he:∀ m∈x.ms,m.rcd.map Ex.nums=want.map Ex.nums) :
  Calls Tryz.prog 13 #[.pointer (some ⟨x.g,0,none⟩),.int .i64 r.c.k,.slice B n cb] w fun e w'=>e=.returned (.bool true)∧Below w.heap.size w w':=by
 have hk:=ho.c.k
 have HTR:=K1 (fun W (hbw:Below w.heap.size w W) u m h1=>wtraj_any W x r R (h.below hbw) ho hb u m h1)
 have HBK:=K1 (fun W (A:Option Addr) (l:List Ex) (p ca:Nat) hA hl hp=>back14_any W A n p ca l hA hl hp hnb)
 have HSA:=K1 (fun W (hbw:Below w.heap.size w W) (A:Option Addr) (l:List Ex) (p ca:Nat) hA hE hl hp=>sameAll13_same W A B n p ca cb l want hA (hB.below hbw) hE hl hnb hp)
 have HX:=K1 (show ∀ u,u<r.c.k→∃ m,x.ms[u]?=some m∧m.rcd.length=n∧m.rcd.map Ex.nums=want.map Ex.nums∧m.f.p≤60∧∀ e∈m.rcd,e.xs.length=m.f.p∧e.ys.length=m.f.p from fun u hu=>by
  obtain ⟨m,hm⟩:=get_some x.ms u (by rw [ho.lm];exact hu)
  have e1:=he m (List.mem_of_getElem? hm)
  have e2:=congrArg List.length e1
  simp only [List.length_map] at e2
  have k1:=(ho.m u m hm).1
  exact ⟨m,hm,e2.trans hn,e1,k1.f.p.2,k1.rcds⟩)
 obtain ⟨k,hke⟩:∃ k,k=r.c.k:=⟨_,rfl⟩
 rw [← hke] at HX hk ⊢
 clear h ho hB he hn hke
 go_enter Tryz.func13,Tryz.ntmps13
 go_wp2_with fail
 go_loopw [7,9] (fun _ s9 wr=>∃ u:Nat,u≤k∧s9=.int .i64 u∧Hid (Below w.heap.size w wr)) (fun _ s9 _=>k-(intOf s9).toNat)
 case atStart=>exact ⟨0,Nat.zero_le _,rfl,K1 (Below.refl _ _)⟩
 case round =>
  obtain ⟨u,hu,rfl,HB⟩:=hrel
  by_cases hlt:u<k
  · obtain ⟨m,hm,hln,heq,hp,hps⟩:=HX.out u hlt
    have CT:=K1 (HTR.out wr HB.out u m hm)
    rw [hln] at CT
    have HQ:=K1 (And.intro heq (And.intro hps (And.intro hln hp)))
    clear hm heq hps hln hp
    go_wp2_with fail
    refine CT.out.mono ?_
    rintro e w1 ⟨A,c,l,rfl,hr,hl,hb1⟩
    have HB1:=K1 (HB.out.trans (hb1.mono HB.out.size))
    have hll:l.length=n:=by have:=congrArg List.length hl;simp only [List.length_map] at this;rw [this];exact HQ.out.2.2.1
    have hlp:∀ e∈l,e.xs.length=m.f.p∧e.ys.length=m.f.p:=fun e he=>by
     have h1:e.nums∈m.rcd.map Ex.nums:=by rw [← hl];exact List.mem_map.2 ⟨e,he,rfl⟩
     obtain ⟨f,hf,hfe⟩:=List.mem_map.1 h1
     have h2:=HQ.out.2.1 f hf
     have e1:f.xs=e.xs:=congrArg Prod.fst hfe
     have e2:f.ys=e.ys:=congrArg Prod.snd hfe
     rw [← e1,← e2];exact h2
    have CB:=K1 (HBK.out w1 A l m.f.p c hr hll hlp)
    have HL:=K1 (And.intro hr (And.intro hl (And.intro hll hlp)))
    clear hr hl hll hlp hb1 CT HB
    go_wp2_with fail
    refine CB.out.mono ?_
    rintro e w2 ⟨B2,c2,rfl,ho2,hb2⟩
    have HB2:=K1 (HB1.out.trans (hb2.mono HB1.out.size))
    have CS:=K1 (HSA.out w2 HB2.out B2 l m.f.p c2 ⟨rd_of_own ho2,fun a ha=>(((HL.out.1.below hb2)).fam a ha)⟩ ⟨HL.out.2.1.trans HQ.out.1,HL.out.2.2.2⟩ HL.out.2.2.1 (by have:=HQ.out.2.2.2;omega))
    clear ho2 hb2 CB HB1
    go_wp2_with fail
    refine CS.out.mono ?_
    rintro e w3 ⟨rfl,hb3⟩
    have HB3:=K1 (HB2.out.trans (hb3.mono HB2.out.size))
    clear hb3 CS HB2
    go_wp2_with fail
    go_roundw
    case rel=>exact ⟨u+1,by omega,by go_num,HB3⟩
    case measure=>simp [intOf];omega
  · go_wp2_with fail
    go_ret
    exact ⟨rfl,HB.out⟩
end Go.Proofs.YtdpojpcoghcieaaGreat
