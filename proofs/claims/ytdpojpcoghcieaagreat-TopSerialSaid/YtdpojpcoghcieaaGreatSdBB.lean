/- A part of the proof of TopSerial: RefNet, RefTrace. Conditions: none. -/
import Derived.Test.YtdpojpcoghcieaaGreatSdBA
set_option maxHeartbeats 8000000
namespace Go.Proofs.YtdpojpcoghcieaaGreat
open Lib renaming hid → K1
open List renaming filterMap_cons → p1, filterMap_nil → p2, getElem?_cons_zero → p3, getElem?_cons_succ → p4
open Go.RowKit
structure RNet (W:World) (ns:List Nat) (ps:List Int) (m P cs cp q:Nat) (As Ap:Option Addr):Prop where
 ok:NsOk ns
 len:ns.length=m
 cap:m≤cs
 sz:Rd W W.heap.size As (zC (castL ns))
 pr:Rd W W.heap.size Ap (zC ps)
 pl:ps.length=P
 fit:offN ns (m-1)=P
 sh:q≤62
 bd:In64 ps
theorem RNet.below {W W':World} {ns:List Nat} {ps:List Int} {m P cs cp q:Nat} {As Ap:Option Addr} (h:RNet W ns ps m P cs cp q As Ap) (hb:Below W.heap.size W W'):RNet W' ns ps m P cs cp q As Ap :=
 ⟨h.ok,h.len,h.cap,(h.sz.below hb).more hb.size,(h.pr.below hb).more hb.size,h.pl,h.fit,h.sh,h.bd⟩
theorem RNet.few {W:World} {ns:List Nat} {ps:List Int} {m P cs cp q:Nat} {As Ap:Option Addr} (h:RNet W ns ps m P cs cp q As Ap):2≤m∧m≤16∧P≤1000:=by
 have h1:=h.ok.len
 have h2:=h.ok.few
 have h3:=h.len
 have h4:=h.fit
 rw [h3] at h1 h2
 omega
def wAt (ns:List Nat) (ps:List Int) (k r c:Nat):Int:=ps[offN ns k+r*(ns[k]?.getD 0)+c]?.getD 0
def bAt (ns:List Nat) (ps:List Int) (k r:Nat):Int:=ps[midN ns k+r]?.getD 0
theorem getD_in {l:List Int} (h:In64 l) (i:Nat):-9223372036854775808≤l[i]?.getD 0∧l[i]?.getD 0≤9223372036854775807:=by
 rcases hx:l[i]? with _ | x
 · simp
 · exact h x (List.mem_of_getElem? hx)
theorem getD_at {l:List Int} {i:Nat} (h:i<l.length):l[i]?=some (l[i]?.getD 0):=by simp [h]
set_option maxRecDepth 100000 in
theorem rweight_any (w:World) (m P cs cp q:Nat) (As Ap:Option Addr) (ns:List Nat) (ps:List Int) (h:RNet w ns ps m P cs cp q As Ap) (k r c a b:Nat) (hk:k<m-1) (hva:ns[k]?=some a) (hvb:ns[k+1]?=some b) (hr:r<b) (hc:c<a) :
  Calls Tryz.prog 147 #[.agg #[.slice As m cs,.slice Ap P cp,.int .i64 q],.int .i64 k,.int .i64 r,.int .i64 c] w fun e w'=>e=.returned (.int .i64 (wAt ns ps k r c))∧Below w.heap.size w w':=by
 have h16:=h.few
 obtain ⟨a0,b0,ha,hb,h1a,h1b,e1,e2,h3a,h3b,h4⟩:=h.ok.at_ (k:=k) (by rw [h.len];exact hk)
 rw [hva] at ha
 injection ha with ha
 subst ha
 rw [hvb] at hb
 injection hb with hb
 subst hb
 have hfit:=h.fit
 rw [h.len] at h4
 have hm0:=(((Mem.start w).add_rd (i:=0) rfl h.sz).add_rd (i:=0) rfl h.pr).alloc (.cells #[.slice As m cs,.slice Ap P cp,.int .i64 q] 178)
 obtain ⟨bs,os,rfl⟩:=hm0.rdA 1 rfl (by have:=h.len;simp;omega)
 obtain ⟨bp,op,rfl⟩:=hm0.rdA 2 rfl (by have:=h.pl;simp;omega)
 have HM:=K1 hm0
 have hin:r*a+a≤b*a:=by have:=Nat.mul_le_mul_right a (show r+1≤b by omega);rw [Nat.succ_mul] at this;exact this
 have GP:=K1 (zC_at (getD_at (l:=ps) (i:=offN ns k+r*a+c) (by rw [h.pl];omega)))
 have GS:=K1 (zC_at (castL_at hva))
 have CW:=K1 (fun W (hw:Below w.heap.size w W)=>rwts_any W _ m cs k ns (h.below hw).sz h.ok h.len h.cap hk)
 have hwa:wAt ns ps k r c=ps[offN ns k+r*a+c]?.getD 0:=by rw [wAt,hva];rfl
 rw [hwa]
 generalize ps[offN ns k+r*a+c]?.getD 0=v at *
 have hML:offN ns k+r*a+c<P:=by omega
 clear h hm0 hwa hfit e1 e2 h4 h3a h3b h1a h1b
 generalize midN ns k=M at *
 generalize offN ns k=L at *
 obtain ⟨x,hx⟩:∃ x,r*a=x:=⟨_,rfl⟩
 rw [hx] at hin hML GP
 obtain ⟨y,hy⟩:∃ y,L+x=y:=⟨_,rfl⟩
 rw [hy] at hML GP
 obtain ⟨i,hi⟩:∃ i,y+c=i:=⟨_,rfl⟩
 rw [hi] at hML GP
 have m1:IntKind.i64.wrap ((r:Int)*(a:Int))=(x:Int):=by rw [← Int.natCast_mul,hx];exact IntWalk.i64_in _ (by omega)
 have m2:IntKind.i64.wrap ((L:Int)+(x:Int))=(y:Int):=by rw [show (L:Int)+(x:Int)=(y:Int) by omega];exact IntWalk.i64_in _ (by omega)
 have m3:IntKind.i64.wrap ((y:Int)+(c:Int))=(i:Int):=by rw [show (y:Int)+(c:Int)=(i:Int) by omega];exact IntWalk.i64_in _ (by omega)
 have b1:(0:Int)≤(k:Int)∧(k:Int)<(m:Int):=by omega
 have b2:(0:Int)≤(i:Int)∧(i:Int)<(P:Int):=by omega
 clear hva hvb hr hc hin hx hy hi hk
 have hfd:∀ w:World,(Instr.field 72 (.agg #[.int .i64 (L:Int),.int .i64 (M:Int)]) 0).run Tryz.prog w=.ok (.int .i64 (L:Int)) w:=fun _=>by kernel_rfl
 go_enter Tryz.func147,Tryz.ntmps147
 go_wp2_with fail
 refine name_wp fun W0 hW=>?_
 replace HM:=K1 (hW.out.symm ▸ HM.out)
 clear hW
 refine wp_region_stage (.reads [0,1,2,3,4,7,8,9,10,11,12,13,15] (.eff 5 (.reads [6,14,16,17,18,19] (.fin)))) 20 (fun W'=>(∀ j,W'.cell? ⟨w.heap.size,j,none⟩=([.slice (some ⟨bs,os,none⟩) m cs,.slice (some ⟨bp,op,none⟩) P cp,.int .i64 q]:List Value)[j]?)∧W'.cell? ⟨bs,os+k,none⟩=some (.int .i64 (a:Int))∧W'.cell? ⟨bp,op+i,none⟩=some (.int .i64 v))
  (by kernel_rfl) (by kernel_rfl) (by intro d v c a w h;cases d <;> exact h) ?_
 replace HM:=K1 HM.out.drew
 generalize W0.drew=V at *
 refine PlS.reads_ ⟨HM.out.cells 3 rfl,HM.out.rdAt 1 rfl GS.out,HM.out.rdAt 2 rfl GP.out⟩ (by kernel_rfl) ?_
 simp only [pickO,p1,p2,p3,p4]
 apply Exists.intro
 apply And.intro
 · intro W' hS
   obtain ⟨s0,s1,s2⟩:=hS
   repeat still_step
   exact wpStill_nil rfl
 refine PlS.eff_ ?_
 simp only [pickO,p1,p2,p3,p4]
 go_wp2_with fail
 refine (CW.out _ (HM.out.bel 0 rfl)).mono ?_
 rintro e w2 ⟨rfl,hb2⟩
 replace HM:=K1 (HM.out.below hb2)
 clear hb2 CW
 go_wp2_with fail
 refine After.go ⟨HM.out.cells 3 rfl,HM.out.rdAt 1 rfl GS.out,HM.out.rdAt 2 rfl GP.out⟩ ?_
 refine PlS.reads_ ⟨HM.out.cells 3 rfl,HM.out.rdAt 1 rfl GS.out,HM.out.rdAt 2 rfl GP.out⟩ (by kernel_rfl) ?_
 simp only [pickO,p1,p2,p3,p4]
 apply Exists.intro
 apply And.intro
 · intro W' hS
   obtain ⟨s0,s1,s2⟩:=hS
   repeat still_step
   exact wpStill_nil rfl
 refine PlS.fin_ ?_
 go_wp2_with fail
 go_ret
 exact ⟨rfl,HM.out.bel 0 rfl⟩
set_option maxRecDepth 100000 in
theorem rbias_any (w:World) (m P cs cp q:Nat) (As Ap:Option Addr) (ns:List Nat) (ps:List Int) (h:RNet w ns ps m P cs cp q As Ap) (k r a b:Nat) (hk:k<m-1) (hva:ns[k]?=some a) (hvb:ns[k+1]?=some b) (hr:r<b) :
  Calls Tryz.prog 160 #[.agg #[.slice As m cs,.slice Ap P cp,.int .i64 q],.int .i64 k,.int .i64 r] w fun e w'=>e=.returned (.int .i64 (bAt ns ps k r))∧Below w.heap.size w w':=by
 have h16:=h.few
 obtain ⟨a0,b0,ha,hb,h1a,h1b,e1,e2,h3a,h3b,h4⟩:=h.ok.at_ (k:=k) (by rw [h.len];exact hk)
 rw [hva] at ha
 injection ha with ha
 subst ha
 rw [hvb] at hb
 injection hb with hb
 subst hb
 have hfit:=h.fit
 rw [h.len] at h4
 have hm0:=(((Mem.start w).add_rd (i:=0) rfl h.sz).add_rd (i:=0) rfl h.pr).alloc (.cells #[.slice As m cs,.slice Ap P cp,.int .i64 q] 178)
 obtain ⟨bs,os,rfl⟩:=hm0.rdA 1 rfl (by have:=h.len;simp;omega)
 obtain ⟨bp,op,rfl⟩:=hm0.rdA 2 rfl (by have:=h.pl;simp;omega)
 have HM:=K1 hm0
 have GP:=K1 (zC_at (getD_at (l:=ps) (i:=midN ns k+r) (by rw [h.pl];omega)))
 have CW:=K1 (fun W (hw:Below w.heap.size w W)=>rbias_r_any W _ m cs k ns (h.below hw).sz h.ok h.len h.cap hk)
 have hwa:bAt ns ps k r=ps[midN ns k+r]?.getD 0:=rfl
 rw [hwa]
 generalize ps[midN ns k+r]?.getD 0=v at *
 have hML:midN ns k+r<P:=by omega
 clear h hm0 hwa hfit e1 h4 h3a h3b h1a h1b
 generalize midN ns k=M at *
 generalize offN ns (k+1)=L at *
 obtain ⟨i,hi⟩:∃ i,M+r=i:=⟨_,rfl⟩
 rw [hi] at hML GP
 have m3:IntKind.i64.wrap ((M:Int)+(r:Int))=(i:Int):=by rw [show (M:Int)+(r:Int)=(i:Int) by omega];exact IntWalk.i64_in _ (by omega)
 have b2:(0:Int)≤(i:Int)∧(i:Int)<(P:Int):=by omega
 clear hva hvb hr hi hk e2
 have hfd:∀ w:World,(Instr.field 72 (.agg #[.int .i64 (M:Int),.int .i64 (L:Int)]) 0).run Tryz.prog w=.ok (.int .i64 (M:Int)) w:=fun _=>by kernel_rfl
 go_enter Tryz.func160,Tryz.ntmps160
 go_wp2_with fail
 refine name_wp fun W0 hW=>?_
 replace HM:=K1 (hW.out.symm ▸ HM.out)
 clear hW
 refine wp_region_stage (.reads [0,1,2,3,4,7] (.eff 5 (.reads [6,8,9,10,11] (.fin)))) 12 (fun W'=>(∀ j,W'.cell? ⟨w.heap.size,j,none⟩=([.slice (some ⟨bs,os,none⟩) m cs,.slice (some ⟨bp,op,none⟩) P cp,.int .i64 q]:List Value)[j]?)∧W'.cell? ⟨bp,op+i,none⟩=some (.int .i64 v))
  (by kernel_rfl) (by kernel_rfl) (by intro d v c a w h;cases d <;> exact h) ?_
 replace HM:=K1 HM.out.drew
 generalize W0.drew=V at *
 refine PlS.reads_ ⟨HM.out.cells 3 rfl,HM.out.rdAt 2 rfl GP.out⟩ (by kernel_rfl) ?_
 simp only [pickO,p1,p2,p3,p4]
 apply Exists.intro
 apply And.intro
 · intro W' hS
   obtain ⟨s0,s1⟩:=hS
   repeat still_step
   exact wpStill_nil rfl
 refine PlS.eff_ ?_
 simp only [pickO,p1,p2,p3,p4]
 go_wp2_with fail
 refine (CW.out _ (HM.out.bel 0 rfl)).mono ?_
 rintro e w2 ⟨rfl,hb2⟩
 replace HM:=K1 (HM.out.below hb2)
 clear hb2 CW
 go_wp2_with fail
 refine After.go ⟨HM.out.cells 3 rfl,HM.out.rdAt 2 rfl GP.out⟩ ?_
 refine PlS.reads_ ⟨HM.out.cells 3 rfl,HM.out.rdAt 2 rfl GP.out⟩ (by kernel_rfl) ?_
 simp only [pickO,p1,p2,p3,p4]
 apply Exists.intro
 apply And.intro
 · intro W' hS
   obtain ⟨s0,s1⟩:=hS
   repeat still_step
   exact wpStill_nil rfl
 refine PlS.fin_ ?_
 go_wp2_with fail
 go_ret
 exact ⟨rfl,HM.out.bel 0 rfl⟩
def rsumTo (ns:List Nat) (ps:List Int) (q k r:Nat) (vs:List Int):Nat→Int
 | 0=>bAt ns ps k r
 | c+1=>wrap64 (rsumTo ns ps q k r vs c+mulF (wAt ns ps k r c) (vs[c]?.getD 0) q)
set_option maxRecDepth 100000 in
theorem rsum09_any (w:World) (m P cs cp q:Nat) (As Ap:Option Addr) (ns:List Nat) (ps:List Int) (h:RNet w ns ps m P cs cp q As Ap) (k r a b cv:Nat) (A:Option Addr) (vs:List Int) (hk:k<m-1) (hva:ns[k]?=some a) (hvb:ns[k+1]?=some b) (hr:r<b) (hv:Rd w w.heap.size A (zC vs)) (hvl:vs.length=a) (hvi:In64 vs) :
  Calls Tryz.prog 145 #[.agg #[.slice As m cs,.slice Ap P cp,.int .i64 q],.int .i64 k,.int .i64 r,.slice A a cv] w fun e w'=>e=.returned (.int .i64 (rsumTo ns ps q k r vs a))∧Below w.heap.size w w':=by
 have h16:=h.few
 obtain ⟨a0,b0,ha,hb,h1a,h1b,e1,e2,h3a,h3b,h4⟩:=h.ok.at_ (k:=k) (by rw [h.len];exact hk)
 rw [hva] at ha
 injection ha with ha
 subst ha
 rw [hvb] at hb
 injection hb with hb
 subst hb
 have HM:=K1 (((((Mem.start w).add_rd (i:=0) rfl h.sz).add_rd (i:=0) rfl h.pr).add_rd (i:=0) rfl hv).alloc (.cells #[.slice As m cs,.slice Ap P cp,.int .i64 q] 178))
 obtain ⟨bv,ov,rfl⟩:=HM.out.rdA 3 rfl (by simp;omega)
 have CB:=K1 (fun W (hw:Below w.heap.size w W)=>rbias_any W m P cs cp q As Ap ns ps (h.below hw) k r a b hk hva hvb hr)
 have CW:=K1 (fun W c (hw:Below w.heap.size w W) (hc:c<a)=>rweight_any W m P cs cp q As Ap ns ps (h.below hw) k r c a b hk hva hvb hr hc)
 have HWI:=K1 (fun c=>show -9223372036854775808≤wAt ns ps k r c∧wAt ns ps k r c≤9223372036854775807 from getD_in h.bd _)
 have CM:=K1 (fun W x y hx hy=>rmul_any W x y q h.sh hx hy)
 have hq:(q:Int)≤62:=by have:=h.sh;omega
 obtain ⟨F,hF⟩:∃ F:Nat→Int,F=rsumTo ns ps q k r vs:=⟨_,rfl⟩
 rw [← hF]
 have H0:=K1 (show bAt ns ps k r=F 0 by rw [hF];rfl)
 have HS:=K1 (show ∀ c x,vs[c]?=some x→F (c+1)=wrap64 (F c+mulF (wAt ns ps k r c) x q) by intro c x hx;rw [hF,rsumTo,hx];rfl)
 have HVL:=K1 hvl
 have HVI:=K1 hvi
 obtain ⟨wf,hwf⟩:∃ f:Nat→Int,f=fun c=>wAt ns ps k r c:=⟨_,rfl⟩
 have HWf:=K1 (show ∀ c,wAt ns ps k r c=wf c by intro c;rw [hwf])
 clear hF h hvl hvi hv hwf e1 e2 h4 h1a h1b h3b hva hvb hr hk
 go_enter Tryz.func145,Tryz.ntmps145
 have c4:=HM.out.cells 4 rfl
 go_wp2_with fail
 clear c4
 refine (CB.out _ (HM.out.bel 0 rfl)).mono ?_
 rintro e w1 ⟨rfl,hb1⟩
 replace HM:=K1 (HM.out.below hb1)
 clear hb1 CB
 rw [H0.out]
 go_wp2_with fail
 generalize hg0:w.heap.size=g0 at *
 have HG0:=K1 hg0
 clear hg0
 go_loopw [9,10] (fun s9 s10 wr=>∃ (c:Nat),c≤a∧s9=.int .i64 (F c)∧s10=.int .i64 c∧Hid (Mem wr [.bel g0 w,.rd As (zC (castL ns)),.rd Ap (zC ps),.rd (some ⟨bv,ov,none⟩) (zC vs),.obj g0 (.cells #[.slice As m cs,.slice Ap P cp,.int .i64 q] 178 (0,0))])) (fun _ s10 _=>a-(intOf s10).toNat)
 case atStart=>exact ⟨0,Nat.zero_le _,rfl,rfl,HM⟩
 case round =>
  clear HM
  obtain ⟨c,hc,rfl,rfl,HM⟩:=hrel
  by_cases hlt:c<a
  · obtain ⟨x,hx⟩:=get_some vs c (by have:=HVL.out;omega)
    have hxi:=HVI.out x (List.mem_of_getElem? hx)
    have GV:=K1 (zC_at hx)
    have E:=K1 (HS.out c x hx)
    have hwi:=HWI.out c
    have CWc:=K1 (fun W hw=>CW.out W c hw hlt)
    rw [HWf.out c] at E hwi CWc
    have CMc:=K1 (fun W=>CM.out W (wf c) x hwi hxi)
    obtain ⟨p,hp⟩:∃ p,p=mulF (wf c) x q:=⟨_,rfl⟩
    rw [← hp] at E CMc
    clear hp hwi hxi hx
    obtain ⟨z,hz⟩:∃ z,z=wrap64 (F c+p):=⟨_,rfl⟩
    have hz1:wrap64 (F c+p)=z:=hz.symm
    have hz2:IntKind.i64.wrap (F c+p)=z:=by rw [hz,IntKind.wrap_i64];unfold wrap64;omega
    rw [hz1] at E
    clear hz
    have b1:(0:Int)≤(c:Int)∧(c:Int)<(a:Int):=by omega
    generalize wf c=wc at *
    go_wp2_with fail
    refine name_wp fun W0 hW=>?_
    replace HM:=K1 (hW.out.symm ▸ HM.out)
    clear hW
    refine wp_region_stage (.reads [0,1,2,3,4,6,7,8,9,10,11] (.eff 5 (.eff 12 (.reads [13,14] (.fin))))) 15 (fun W'=>(∀ j,W'.cell? ⟨g0,j,none⟩=([.slice As m cs,.slice Ap P cp,.int .i64 q]:List Value)[j]?)∧W'.cell? ⟨bv,ov+c,none⟩=some (.int .i64 x))
     (by kernel_rfl) (by kernel_rfl) (by intro d v c a w h;cases d <;> exact h) ?_
    replace HM:=K1 HM.out.drew
    generalize W0.drew=V at *
    refine PlS.reads_ ⟨HM.out.cells 4 rfl,HM.out.rdAt 3 rfl GV.out⟩ (by kernel_rfl) ?_
    simp only [pickO,p1,p2,p3,p4]
    apply Exists.intro
    apply And.intro
    · intro W' hS
      obtain ⟨s0,s1⟩:=hS
      repeat still_step
      exact wpStill_nil rfl
    refine PlS.eff_ ?_
    simp only [pickO,p1,p2,p3,p4]
    go_wp2_with fail
    refine (CWc.out _ (HM.out.bel 0 rfl)).mono ?_
    rintro e w2 ⟨rfl,hb2⟩
    replace HM:=K1 (HM.out.below hb2)
    clear hb2 CWc
    go_wp2_with fail
    refine After.go ⟨HM.out.cells 4 rfl,HM.out.rdAt 3 rfl GV.out⟩ ?_
    refine PlS.eff_ ?_
    simp only [pickO,p1,p2,p3,p4]
    go_wp2_with fail
    refine (CMc.out _).mono ?_
    rintro e w3 ⟨rfl,rfl⟩
    clear CMc
    go_wp2_with fail
    refine After.go ⟨HM.out.cells 4 rfl,HM.out.rdAt 3 rfl GV.out⟩ ?_
    refine PlS.reads_ ⟨HM.out.cells 4 rfl,HM.out.rdAt 3 rfl GV.out⟩ (by kernel_rfl) ?_
    simp only [pickO,p1,p2,p3,p4]
    apply Exists.intro
    apply And.intro
    · intro W' hS
      clear hS
      repeat still_step
      exact wpStill_nil rfl
    refine PlS.fin_ ?_
    go_wp2_with fail
    go_roundw
    case rel=>exact ⟨c+1,by omega,by rw [E.out],by go_num,HM⟩
    case measure=>simp [intOf];omega
  · have hcn:c=a:=by omega
    subst hcn
    go_wp2_with fail
    go_ret
    rw [HG0.out]
    exact ⟨rfl,HM.out.bel 0 rfl⟩
theorem infoLL:(Tryz.prog.info? 26).map (fun i=>(i.zero,i.size,i.bytes))=some (some (.slice none 0 0),1,24):=by kernel_rfl
theorem rowLL:RowT Tryz.prog 180 26 1 24:=by
 obtain ⟨i0,hi,hz0,hz1,hz2⟩:=info_parts infoLL
 exact ⟨i0,_,Tryz.underlying180,hi,hz0,hz1,hz2,rfl,by decide,by decide⟩
theorem rsumTo_in {ns:List Nat} {ps:List Int} (h:In64 ps) (q k r:Nat) (vs:List Int):∀ c,-9223372036854775808≤rsumTo ns ps q k r vs c∧rsumTo ns ps q k r vs c≤9223372036854775807
 | 0=>getD_in h _
 | _+1=>wrap64_in _
def gateZ (a g:Int):Int:=if a≤0 then 0 else g
def rz (ns:List Nat) (ps:List Int) (q k:Nat) (vs:List Int) (r:Nat):Int :=
 if k+1<ns.length-1 then gateZ (rsumTo ns ps q k r vs (ns[k]?.getD 0)) (rsumTo ns ps q k r vs (ns[k]?.getD 0)) else rsumTo ns ps q k r vs (ns[k]?.getD 0)
def rlay (ns:List Nat) (ps:List Int) (q:Nat) (xs:List Int):Nat→List Int
 | 0=>xs
 | k+1=>(List.range (ns[k+1]?.getD 0)).map (rz ns ps q k (rlay ns ps q xs k))
theorem rlay_len {ns:List Nat} {ps:List Int} {q:Nat} {xs:List Int} (hx:xs.length=ns[0]?.getD 0):∀ k,(rlay ns ps q xs k).length=ns[k]?.getD 0
 | 0=>hx
 | k+1=>by simp [rlay]
theorem gateZ_in {a g:Int} (h:-9223372036854775808≤g∧g≤9223372036854775807):-9223372036854775808≤gateZ a g∧gateZ a g≤9223372036854775807:=by
 unfold gateZ;split <;> omega
theorem rz_in {ns:List Nat} {ps:List Int} (h:In64 ps) (q k:Nat) (vs:List Int) (r:Nat):-9223372036854775808≤rz ns ps q k vs r∧rz ns ps q k vs r≤9223372036854775807:=by
 unfold rz
 split
 · exact gateZ_in (rsumTo_in h _ _ _ _ _)
 · exact rsumTo_in h _ _ _ _ _
theorem rlay_in {ns:List Nat} {ps:List Int} (h:In64 ps) (q:Nat) {xs:List Int} (hx:In64 xs):∀ k,In64 (rlay ns ps q xs k)
 | 0=>hx
 | k+1=>fun z hz=>by
   obtain ⟨r,_,rfl⟩:=List.mem_map.1 hz
   exact rz_in h _ _ _ _
def FOk (f:Nat→List Int) (n:Nat) (ls:List Ly):Prop:=ls.map Ly.v=(List.range n).map f∧∀ l∈ls,l.v.length≤l.c
theorem FOk.len {f:Nat→List Int} {n:Nat} {ls:List Ly} (h:FOk f n ls):ls.length=n:=by
 have:=congrArg List.length h.1
 simpa using this
theorem FOk.at_ {f:Nat→List Int} {n:Nat} {ls:List Ly} (h:FOk f n ls) {k:Nat} (hk:k<n):∃ l,ls[k]?=some l∧l.v=f k∧l.v.length≤l.c:=by
 obtain ⟨l,hl⟩:=get_some ls k (by rw [h.len];exact hk)
 refine ⟨l,hl,?_,h.2 l (List.mem_of_getElem? hl)⟩
 have:=congrArg (·[k]?) h.1
 simp only [List.getElem?_map,hl,List.getElem?_range hk,Option.map_some,Option.some.injEq] at this
 exact this
theorem FOk.snoc {f:Nat→List Int} {n:Nat} {ls:List Ly} (h:FOk f n ls) {l:Ly} (hv:l.v=f n) (hc:l.v.length≤l.c):FOk f (n+1) (ls++[l]):=by
 refine ⟨?_,fun m hm=>?_⟩
 · rw [List.map_append,h.1,List.range_succ,List.map_append]
   simp [hv]
 · rcases List.mem_append.1 hm with hm | hm
   · exact h.2 m hm
   · rw [List.mem_singleton.1 hm];exact hc
def llOwn (base n c:Nat) (A:Option Addr) (xs:List Value):Ch:=.own base 26 1 (.slice A n c) n xs
theorem rlast_any (w:World) (m P cs cp q:Nat) (As Ap:Option Addr) (hm:1≤m∧m≤1000) :
  Calls Tryz.prog 119 #[.agg #[.slice As m cs,.slice Ap P cp,.int .i64 q]] w fun e w'=>e=.returned (.int .i64 ((m-1:Nat):Int))∧Below w.heap.size w w':=by
 have HM:=K1 ((Mem.start w).alloc (.cells #[.slice As m cs,.slice Ap P cp,.int .i64 q] 178))
 have e1:IntKind.i64.wrap ((m:Int)-1)=((m-1:Nat):Int):=by rw [show (m:Int)-1=((m-1:Nat):Int) by omega];exact IntWalk.i64_in _ (by omega)
 go_enter Tryz.func119,Tryz.ntmps119
 have c1:=HM.out.cells 1 rfl
 go_wp2_with fail
 go_ret
 exact ⟨by go_num,HM.out.bel 0 rfl⟩
theorem fam_next {W w:World} {g0 k1 r cz c':Nat} {A1 A2 A':Option Addr} {v1 v2:List Value} {ls:List Ly} {zs:List Int} {o1 o2:Ch} {Az:Option Addr}
  (h:Mem W [.bel g0 w,.rd A1 v1,.rd A2 v2,famCh (lyFam ls),o1,llOwn g0 (k1+1) c' A' (lyVals ls++[.slice Az r cz]),vOwn g0 r cz Az zs,o2]) (hz:zs.length=r) :
  Mem W [.bel g0 w,.rd A1 v1,.rd A2 v2,famCh (lyFam (ls++[⟨Az,cz,zs⟩])),o1,llOwn g0 (k1+1) c' A' (lyVals (ls++[⟨Az,cz,zs⟩]))]:=by
 have h1:=((h.freeze (i:=6) rfl).famSnoc (i:=3) (j:=6) rfl rfl).front 6
 have e1:lyVals (ls++[⟨Az,cz,zs⟩])=lyVals ls++[.slice Az r cz]:=by simp [lyVals,hz]
 have e2:lyFam (ls++[⟨Az,cz,zs⟩])=lyFam ls++[(Az,zC zs)]:=by simp [lyFam]
 rw [e1,e2]
 exact h1
set_option maxRecDepth 100000 in
theorem rtrace_any (w:World) (m P cs cp q:Nat) (As Ap:Option Addr) (ns:List Nat) (ps:List Int) (h:RNet w ns ps m P cs cp q As Ap) (nx cx:Nat) (X:Option Addr) (xs:List Int) (hX:Rd w w.heap.size X (zC xs)) (hxl:xs.length=nx) (hnx:ns[0]?=some nx) (hxi:In64 xs) (hxc:nx≤cx) :
  Calls Tryz.prog 117 #[.agg #[.slice As m cs,.slice Ap P cp,.int .i64 q],.slice X nx cx] w fun e w'=>∃ Ao co ls,e=.returned (.slice Ao m co)∧FOk (rlay ns ps q xs) m ls∧Mem w' [.bel w.heap.size w,llOwn w.heap.size m co Ao (lyVals ls),famCh (lyFam ls)]:=by
 subst hxl
 have h16:=h.few
 have hm0:=(((((Mem.start w).add_rd (i:=0) rfl h.sz).add_rd (i:=0) rfl h.pr).fam_add (l:=lyFam [⟨X,cx,xs⟩]) rfl (by intro a ha;rw [List.mem_singleton.1 ha];exact hX)).alloc (.cells #[.slice As m cs,.slice Ap P cp,.int .i64 q] 178))
 obtain ⟨bs,os,rfl⟩:=hm0.rdA 1 rfl (by have:=h.len;simp;omega)
 have hm1:=(hm0.push_own ((Below.refl _ _).alloc (Nat.le_refl _) (.cells #[.slice X xs.length cx] 26)) (own_built _ _ _) rfl).lower (i:=5) (base':=w.heap.size) rfl (by simp)
 simp only [World.size_alloc] at hm1
 have HM1:=K1 (show Mem _ [.bel w.heap.size w,.rd (some ⟨bs,os,none⟩) (zC (castL ns)),.rd Ap (zC ps),famCh (lyFam [⟨X,cx,xs⟩]),.obj w.heap.size (.cells #[.slice (some ⟨bs,os,none⟩) m cs,.slice Ap P cp,.int .i64 q] 178 (0,0)),llOwn w.heap.size (0+1) 1 (some ⟨w.heap.size+1,0,none⟩) (lyVals [⟨X,cx,xs⟩])] from hm1)
 have HOK:=K1 (show FOk (rlay ns ps q xs) (0+1) [⟨X,cx,xs⟩] from ⟨rfl,fun l hl=>by rw [List.mem_singleton.1 hl];dsimp only;omega⟩)
 have HD:=K1 (show ∀ k,k<m-1→∃ a b,ns[k]?=some a∧ns[k+1]?=some b∧1≤a∧1≤b∧a≤1000∧b≤1000 by intro k hk;obtain ⟨a,b,h1,h2,h3,h4,_,_,h5,h6,_⟩:=h.ok.at_ (k:=k) (by rw [h.len];exact hk);exact ⟨a,b,h1,h2,h3,h4,h5,h6⟩)
 have HL:=K1 h.len
 have HLN:=K1 (rlay_len (ns:=ns) (ps:=ps) (q:=q) (xs:=xs) (by rw [hnx];rfl))
 have HLI:=K1 (rlay_in (ns:=ns) h.bd q hxi)
 have HRI:=K1 (fun k r vs c=>rsumTo_in (ns:=ns) h.bd q k r vs c)
 have CS:=K1 (fun W (hb:Below w.heap.size w W) k r a b cv A vs hk hva hvb hr hv hvl hvi=>rsum09_any W m P cs cp q _ _ ns ps (h.below hb) k r a b cv A vs hk hva hvb hr hv hvl hvi)
 have CL:=K1 (fun W=>rlast_any W m P cs cp q (some ⟨bs,os,none⟩) Ap (by omega))
 obtain ⟨F,hF⟩:∃ F:Nat→List Int,F=rlay ns ps q xs:=⟨_,rfl⟩
 have HFS:=K1 (show ∀ k b,ns[k+1]?=some b→F (k+1)=(List.range b).map (rz ns ps q k (F k)) by intro k b hb;rw [hF,rlay,hb];rfl)
 rw [← hF] at HLN HLI HOK ⊢
 obtain ⟨n1,hn1⟩:∃ n1,m=n1+1:=⟨m-1,by omega⟩
 subst hn1
 simp only [Nat.add_sub_cancel] at *
 clear hm0 hm1 h hX hnx hxi hxc hF
 have gn1:n1≤15:=by omega
 have gn2:1≤n1:=by omega
 clear h16
 go_enter Tryz.func117,Tryz.ntmps117
 go_wp2_with fail
 generalize hg0:w.heap.size=g0 at *
 have HG0:=K1 hg0
 clear hg0
 go_loopw [5,6] (fun s5 s6 wr=>∃ (k:Nat) (Ao:Option Addr) (co:Nat) (ls:List Ly),k≤n1∧s5=.slice Ao (k+1) co∧s6=.int .i64 k∧Hid (FOk F (k+1) ls)∧Hid (Mem wr [.bel g0 w,.rd (some ⟨bs,os,none⟩) (zC (castL ns)),.rd Ap (zC ps),famCh (lyFam ls),.obj g0 (.cells #[.slice (some ⟨bs,os,none⟩) (n1+1) cs,.slice Ap P cp,.int .i64 q] 178 (0,0)),llOwn g0 (k+1) co Ao (lyVals ls)])) (fun _ s6 _=>n1-(intOf s6).toNat)
 case atStart=>exact ⟨0,_,1,_,Nat.zero_le _,rfl,rfl,HOK,HM1⟩
 case round =>
  clear HM1 HOK
  obtain ⟨k,Ao,co,ls,hk,rfl,rfl,HOK,HM⟩:=hrel
  have c4:=HM.out.cells 4 rfl
  by_cases hlt:k<n1
  · obtain ⟨a,b,ha,hb,h1,h2,h3,h4⟩:=HD.out k hlt
    have GB:=K1 (zC_at (castL_at hb))
    have hfs:=HFS.out k b hb
    obtain ⟨l,hl,hlv,hlc⟩:=HOK.out.at_ (show k<k+1 by omega)
    have hll:l.v.length=a:=by rw [hlv,HLN.out k,ha];rfl
    have hin:=HLI.out k
    rw [← hlv] at hfs hin
    have HLV:=K1 (show (lyVals ls)[k]?=some (.slice l.A a l.c) by simp [lyVals,hl,hll])
    have HLF:=K1 (show (lyFam ls)[k]?=some (l.A,zC l.v) by simp [lyFam,hl])
    have CSk:=K1 (fun W (hb0:Below g0 w W) r hr hv=>CS.out W hb0 k r a b l.c l.A l.v (by omega) ha hb hr hv hll hin)
    have HRk:=K1 (fun r=>HRI.out k r l.v a)
    have HZ:=K1 (show ∀ r,rz ns ps q k l.v r=if k+1<n1 then gateZ (rsumTo ns ps q k r l.v a) (rsumTo ns ps q k r l.v a) else rsumTo ns ps q k r l.v a by intro r;rw [rz,HL.out,ha];rfl)
    obtain ⟨k1,hk1⟩:∃ k1,k1=k+1:=⟨_,rfl⟩
    have hk1i:(k:Int)+1=(k1:Int):=by omega
    have wk1:IntKind.i64.wrap (k1:Int)=(k1:Int):=IntWalk.i64_in _ (by omega)
    rw [← hk1] at GB hfs HZ HM HOK ⊢
    have hk1n:(0:Int)≤(k1:Int)∧(k1:Int)<((n1+1:Nat):Int):=by omega
    have hkk1:(0:Int)≤(k:Int)∧(k:Int)<(k1:Int):=by omega
    have hk16:k1≤16:=by omega
    have hkN:k<k1:=by omega
    have HK1:=K1 hk1
    obtain ⟨go,rfl⟩:=HM.out.ownA 5 rfl (by omega)
    generalize l.A=lA at *
    generalize l.c=lc at *
    generalize l.v=lv at *
    have HFS2:=K1 hfs
    clear hfs hl hlv hlc ha hb hk1 hll hin HLN
    obtain ⟨Z,hZ⟩:∃ f:Nat→Int,f=rz ns ps q k lv:=⟨_,rfl⟩
    obtain ⟨S,hS⟩:∃ f:Nat→Int,f=fun r=>rsumTo ns ps q k r lv a:=⟨_,rfl⟩
    have HSS:=K1 (show ∀ r,rsumTo ns ps q k r lv a=S r by intro r;rw [hS])
    have HZZ:=K1 (show ∀ r,rz ns ps q k lv r=Z r by intro r;rw [hZ])
    rw [← hZ] at HFS2
    clear hZ hS
    have hm7:=HM.out.add (c:=.own g0 2 1 (.slice none 0 0) 0 (zC ((List.range 0).map Z))) ⟨own_nil _ _ _ _,by have h1:=(HM.out.bel 0 rfl).size;have h2:=HG0.out;omega⟩ (fun _ _ _ _ g hg=>by cases hg)
    have HM7:=K1 hm7
    clear hm7
    go_wp2_with fail
    refine (CL.out _).mono ?_
    rintro e w3 ⟨rfl,hb3⟩
    replace HM7:=K1 (HM7.out.below hb3)
    clear hb3 c4
    go_wp2_with fail
    go_loopw [7,8] (fun s7 s8 wr=>∃ (r:Nat) (Az:Option Addr) (cz:Nat),r≤b∧s7=.slice Az r cz∧s8=.int .i64 r∧Hid (Mem wr [.bel g0 w,.rd (some ⟨bs,os,none⟩) (zC (castL ns)),.rd Ap (zC ps),famCh (lyFam ls),.obj g0 (.cells #[.slice (some ⟨bs,os,none⟩) (n1+1) cs,.slice Ap P cp,.int .i64 q] 178 (0,0)),llOwn g0 k1 co (some ⟨go,0,none⟩) (lyVals ls),vOwn g0 r cz Az ((List.range r).map Z)])) (fun _ s8 _=>b-(intOf s8).toNat)
    case atStart=>exact ⟨0,none,0,Nat.zero_le _,rfl,rfl,HM7⟩
    case round =>
     clear HM7 HM
     obtain ⟨r,Az,cz,hr,rfl,rfl,HM⟩:=hrel
     have c4:=HM.out.cells 4 rfl
     have c1:=HM.out.rdAt 1 rfl GB.out
     by_cases hrb:r<b
     · go_wp2_with fail
       clear c4 c1
       refine name_wp fun W0 hW=>?_
       replace HM:=K1 (hW.out.symm ▸ HM.out)
       clear hW
       refine wp_region_stage (.reads [0,1,2,3,4,5,6] (.eff 7 (.reads [8] (.fin)))) 9 (fun W'=>(∀ j,W'.cell? ⟨g0,j,none⟩=([.slice (some ⟨bs,os,none⟩) (n1+1) cs,.slice Ap P cp,.int .i64 q]:List Value)[j]?)∧W'.cell? ⟨go,k,none⟩=some (.slice lA a lc))
        (by kernel_rfl) (by kernel_rfl) (by intro d v c a w h;cases d <;> exact h) ?_
       replace HM:=K1 HM.out.drew
       generalize W0.drew=V at *
       refine PlS.reads_ ⟨HM.out.cells 4 rfl,((HM.out.own 5 rfl).cellAt k (by omega)).trans HLV.out⟩ (by kernel_rfl) ?_
       simp only [pickO,p1,p2,p3,p4]
       apply Exists.intro
       apply And.intro
       · intro W' hS
         obtain ⟨s0,s1⟩:=hS
         repeat still_step
         exact wpStill_nil rfl
       refine PlS.eff_ ?_
       simp only [pickO,p1,p2,p3,p4]
       go_wp2_with fail
       refine (CSk.out _ (HM.out.bel 0 rfl) r hrb (HM.out.st 3 rfl (lA,zC lv) (List.mem_of_getElem? HLF.out))).mono ?_
       rintro e w2 ⟨rfl,hb2⟩
       replace HM:=K1 (HM.out.below hb2)
       rw [HSS.out]
       clear hb2
       go_wp2_with fail
       refine After.go ⟨HM.out.cells 4 rfl,((HM.out.own 5 rfl).cellAt k (by omega)).trans HLV.out⟩ ?_
       refine PlS.reads_ ⟨HM.out.cells 4 rfl,((HM.out.own 5 rfl).cellAt k (by omega)).trans HLV.out⟩ (by kernel_rfl) ?_
       simp only [pickO,p1,p2,p3,p4]
       apply Exists.intro
       apply And.intro
       · intro W' hS
         clear hS
         repeat still_step
         exact wpStill_nil rfl
       refine PlS.fin_ ?_
       have c4:=HM.out.cells 4 rfl
       have hz:=HZ.out r
       rw [HZZ.out,HSS.out] at hz
       go_wp2_with fail
       refine (CL.out _).mono ?_
       rintro e w3 ⟨rfl,hb3⟩
       replace HM:=K1 (HM.out.below hb3)
       clear hb3 c4
       by_cases hl1:k1<n1
       · rw [if_pos hl1] at hz
         go_wp2_with fail
         refine (rgate_any _ _ _).mono ?_
         rintro e w4 ⟨rfl,rfl⟩
         rw [show (if S r≤0 then 0 else S r)=gateZ (S r) (S r) from rfl,← hz]
         have HZ1:=K1 hz
         clear hz
         have HM3:=K1 (HM.out.alloc (.cells #[.int .i64 (Z r)] 2))
         go_wp2_with (at_builtin;refine wpList_append_mem (n:=r) rfl _ _ 26 rfl HM3.out 6 rowCL rfl rfl _ 1 _ [.int .i64 (Z r)] rfl (HM3.out.box 7 rfl) rfl (by intro u hu;simp at hu;subst hu;rfl) (by omega) ?_;intro AZ' cZ' W4 hM4;have HM4:=K1 (hM4.front 7);clear hM4 HM3)
         have HE:=K1 (show zC ((List.range (r+1)).map Z)=zC ((List.range r).map Z)++[.int .i64 (Z r)] by rw [List.range_succ];simp )
         go_roundw
         case rel=>exact ⟨r+1,AZ',cZ',by omega,rfl,by go_num,K1 (by unfold vOwn;rw [HE.out];exact HM4.out)⟩
         case measure=>simp [intOf];omega
       · rw [if_neg hl1] at hz
         have HZ1:=K1 hz
         clear hz
         have HM3:=K1 (HM.out.alloc (.cells #[.int .i64 (S r)] 2))
         go_wp2_with (at_builtin;refine wpList_append_mem (n:=r) rfl _ _ 26 rfl HM3.out 6 rowCL rfl rfl _ 1 _ [.int .i64 (S r)] rfl (HM3.out.box 7 rfl) rfl (by intro u hu;simp at hu;subst hu;rfl) (by omega) ?_;intro AZ' cZ' W4 hM4;have HM4:=K1 (hM4.front 7);clear hM4 HM3)
         have HE:=K1 (show zC ((List.range (r+1)).map Z)=zC ((List.range r).map Z)++[.int .i64 (S r)] by rw [List.range_succ];simp [HZ1.out])
         go_roundw
         case rel=>exact ⟨r+1,AZ',cZ',by omega,rfl,by go_num,K1 (by unfold vOwn;rw [HE.out];exact HM4.out)⟩
         case measure=>simp [intOf];omega
     · have hrb2:r=b:=by omega
       subst hrb2
       have HM3:=K1 (HM.out.alloc (.cells #[.slice Az r cz] 26))
       have hcz:=own_cap (HM.out.own 6 rfl)
       go_wp2_with (at_builtin;refine wpList_append_mem (n:=k1) rfl _ _ 180 rfl HM3.out 5 rowLL rfl rfl _ 1 _ [.slice Az r cz] rfl (HM3.out.box 7 rfl) rfl (by intro u hu;simp at hu;subst hu;rfl) (by omega) ?_;intro AO' cO' W4 hM4;have HM4:=K1 hM4;clear hM4 HM3)
       replace HM4:=K1 (fam_next HM4.out (by simp))
       go_roundw
       case rel=>exact ⟨k1,AO',cO',ls++[⟨Az,cz,(List.range r).map Z⟩],by omega,rfl,by go_num,K1 (HOK.out.snoc HFS2.out.symm (by simpa using hcz)),HM4⟩
       case measure=>simp [intOf];omega
  · have hkn:k=n1:=by omega
    subst hkn
    go_wp2_with fail
    refine (CL.out _).mono ?_
    rintro e w3 ⟨rfl,hb3⟩
    replace HM:=K1 (HM.out.below hb3)
    clear hb3 c4
    go_wp2_with fail
    go_ret
    rw [HG0.out]
    exact ⟨Ao,co,ls,rfl,HOK.out,HM.out.pick [0,5,3] _ rfl (by decide)⟩
end Go.Proofs.YtdpojpcoghcieaaGreat
