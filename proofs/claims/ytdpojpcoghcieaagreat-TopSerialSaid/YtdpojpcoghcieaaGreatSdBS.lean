/- A part of the proof of TopSerial: SchedNew, Messages, PlanTotal, Progress, BoundP. Conditions: none. -/
import Derived.Test.YtdpojpcoghcieaaGreatSdBN
set_option maxHeartbeats 8000000
namespace Go.Proofs.YtdpojpcoghcieaaGreat
open Lib renaming hid → K1
open List renaming filterMap_cons → p1, filterMap_nil → p2, getElem?_cons_zero → p3, getElem?_cons_succ → p4
open Go.RowKit
theorem infoIf:(Tryz.prog.info? 127).map (fun i=>(i.zero,i.size,i.bytes))=some (some .nilIface,1,16):=by kernel_rfl
theorem rowIf:RowT Tryz.prog 91 127 1 16:=by
 obtain ⟨i0,hi,hz0,hz1,hz2⟩:=info_parts infoIf
 exact ⟨i0,_,Tryz.underlying91,hi,hz0,hz1,hz2,rfl,by decide,by decide⟩
theorem infoPL:(Tryz.prog.info? 98).map (fun i=>(i.zero,i.size,i.bytes))=some (some (.pointer none),1,8):=by kernel_rfl
theorem rowPL:RowT Tryz.prog 92 98 1 8:=by
 obtain ⟨i0,hi,hz0,hz1,hz2⟩:=info_parts infoPL
 exact ⟨i0,_,Tryz.underlying92,hi,hz0,hz1,hz2,rfl,by decide,by decide⟩
def swP (w:World) (gx:Nat) (i:Inp) (Aw:Option Addr) (k cw:Nat) (Al:Option Addr) (q cl:Nat) (ms:List Mc) (ls:List Ln):List Ch :=
 [.bel w.heap.size w,.obj w.heap.size (.cells #[.slice i.A i.r.ns.length i.cap,.int .i64 i.r.c.sh,.int .i64 i.r.c.ra,.int .i64 i.r.c.mo,.int .i64 i.r.c.k,.int .i64 i.r.c.ba,.int .i64 i.r.c.mi,.int .i64 i.r.c.st,.int .i64 i.r.c.bu,.int .i64 i.r.c.s,.int .i64 i.r.c.wi,.int .i64 i.r.c.ca,.slice i.DA i.r.n i.dcap,.slice i.SA i.r.p i.scap,.slice i.RA i.r.ds.length i.rcap] 29 (0,0)),.obj gx (.cells #[.slice Aw k cw,.slice Al q cl,.int .i64 0] 94 (0,0)),.own w.heap.size 127 1 (.slice Aw k cw) k (ms.map fun m=>ifV m.f.g),.own w.heap.size 98 1 (.slice Al q cl) q (ls.map fun l=>ptV l.g)]
def SwOk (i:Inp) (k:Nat) (ms:List Mc) (ls:List Ln):Prop:=ms.length=k∧ls.length=k∧(∀ (u:Nat) (m:Mc),ms[u]?=some m→m.Ok∧m.f.u=u∧m.f.Of i.r∧m.abs=iniA i)∧∀ l∈ls,l.Ok∧l.cap=i.r.c.ca∧l.se=0∧l.q=[]
theorem SwOk.snoc {i:Inp} {k:Nat} {ms:List Mc} {ls:List Ln} (h:SwOk i k ms ls) {m:Mc} {l:Ln} (hm:m.Ok∧m.f.u=k∧m.f.Of i.r∧m.abs=iniA i) (hl:l.Ok∧l.cap=i.r.c.ca∧l.se=0∧l.q=[]):SwOk i (k+1) (ms++[m]) (ls++[l]):=by
 obtain ⟨h1,h2,h3,h4⟩:=h
 refine ⟨by rw [List.length_append,h1];rfl,by rw [List.length_append,h2];rfl,fun u n hn=>?_,fun x hx=>?_⟩
 · rcases Nat.lt_trichotomy u k with h5 | h5 | h5
   · rw [List.getElem?_append_left (by omega)] at hn
     exact h3 u n hn
   · subst h5
     rw [← h1,List.getElem?_concat_length] at hn
     injection hn with hn
     subst hn
     exact hm
   · rw [List.getElem?_eq_none (by rw [List.length_append,h1];simp;omega)] at hn
     cases hn
 · rcases List.mem_append.1 hx with hx | hx
   · exact h4 x hx
   · rw [List.mem_singleton.1 hx];exact hl
theorem sw_perm (X A B M L:List Ch):(X++(L++((A++B)++M))).Perm (X++((A++M)++(B++L))) :=
 List.Perm.append_left X (List.perm_append_comm.trans (by
  simp only [List.append_assoc]
  exact List.Perm.append_left A (perm_swap_mid B M L)))
def newLn (g base cap:Nat):Ln:=⟨g,base,cap,none,0,0,0,0,0,[]⟩
theorem newLn_ok {g base cap:Nat} (h:1≤cap∧cap≤1048576):(newLn g base cap).Ok∧(newLn g base cap).q=[] :=
 ⟨⟨⟨rfl,by show 0=min 0 cap;omega,Nat.le_refl _,Nat.zero_le _,h,fun m hm=>by cases hm⟩,Nat.zero_le _⟩,qL_nil _ _ _⟩
set_option maxRecDepth 100000 in
theorem snew_any (w:World) (i:Inp) (hi:i.Ok) (ha:i.At w) :
  Calls Tryz.prog 9 #[.agg i.cells.toArray] w fun e w'=>∃ x:Wv,e=.returned (.tuple #[.pointer (some ⟨x.g,0,none⟩),.int .i64 0])∧x.Ok i.r∧x.count=0∧(∀ m∈x.ms,m.abs=iniA i)∧(∀ l∈x.ls,l.q=[])∧Mem w' (x.ps++[.bel w.heap.size w]):=by
 have CI:Hid (∀ W,Below w.heap.size w W→Calls Tryz.prog 28 #[.agg i.cells.toArray] W fun e w'=>e=.returned (.int .i64 0)∧Below W.heap.size W w'):=K1 (fun W hb=>by
  have h0:=ha.below hb
  have hl:=hi.l.1
  have h2:=input_good i.A i.DA i.SA i.RA i.cap i.dcap i.r.p i.scap i.r.ds.length i.rcap (castL i.r.ns) i.l i.r.c.sh i.r.c.ra i.r.c.mo i.r.c.k i.r.c.ba i.r.c.mi i.r.c.st i.r.c.bu i.r.c.s i.r.c.wi i.r.c.ca W h0.ns (by simpa using hi.cap) (by have:=hi.ns.len;simp;omega) h0.l (by have:=hi.n.1;omega) hi.conf
  rw [show confCode (castL i.r.ns) ⟨i.r.c.sh,0,0,i.r.c.k,i.r.c.ba,i.r.c.mi,i.r.c.st,i.r.c.bu,i.r.c.s,i.r.c.wi,i.r.c.ca⟩=0 from hi.conf,hi.input] at h2
  simp only [List.length_map] at h2
  rw [hl] at h2
  exact h2)
 have CM:=K1 (fun W (hb:Below w.heap.size w W) u hu=>mnew_any W i hi (ha.below hb) u hu)
 have CL:=K1 (fun W=>linkNew_any W i.r.c.ca hi.c.ca)
 have HI:=K1 hi
 have HM:=K1 ((Mem.start w).alloc (.cells i.cells.toArray 29))
 have hk8:=hi.c.k
 dsimp only [Inp.cells] at *
 clear ha hi
 go_enter Tryz.func9,Tryz.ntmps9
 have c1:=HM.out.cells 1 rfl
 go_wp2_with fail
 refine (CI.out _ (HM.out.bel 0 rfl)).mono ?_
 rintro e w1 ⟨rfl,hb⟩
 replace HM:=K1 ((HM.out.below hb).alloc (.cells #[.slice none 0 0,.slice none 0 0,.int .i64 0] 94))
 clear hb CI c1
 have c1:=HM.out.cells 1 rfl
 generalize hgx:w1.heap.size=gx at *
 go_wp2_with fail
 have HM0:=K1 (show Mem _ (swP w gx i none 0 0 none 0 0 [] []++(([]:List Mc).flatMap Mc.ps++([]:List Ln).flatMap Ln.ps)) from (HM.out.add (c:=.own w.heap.size 127 1 (.slice none 0 0) 0 []) ⟨own_nil _ _ _ _,(HM.out.bel 0 rfl).size⟩ (fun _ _ _ _ g hg=>by cases hg)).add (c:=.own w.heap.size 98 1 (.slice none 0 0) 0 []) ⟨own_nil _ _ _ _,(HM.out.bel 0 rfl).size⟩ (fun _ _ _ _ g hg=>by cases hg))
 clear HM c1 hgx
 go_loopw [19] (fun s19 wr=>∃ (k:Nat) (Aw:Option Addr) (cw:Nat) (Al:Option Addr) (cl:Nat) (ms:List Mc) (ls:List Ln),k≤i.r.c.k∧s19=.int .i64 k∧Hid (SwOk i k ms ls)∧Hid (Mem wr (swP w gx i Aw k cw Al k cl ms ls++(ms.flatMap Mc.ps++ls.flatMap Ln.ps)))) (fun s19 _=>i.r.c.k-(intOf s19).toNat)
 case atStart=>exact ⟨0,none,0,none,0,[],[],Nat.zero_le _,rfl,K1 ⟨rfl,rfl,fun u m h=>by simp at h,fun l h=>by cases h⟩,HM0⟩
 case round =>
  clear HM0
  obtain ⟨k,Aw,cw,Al,cl,ms,ls,hk,rfl,HS,HM⟩:=hrel
  by_cases hlt:k<i.r.c.k
  · have c1:=HM.out.cells 1 rfl
    go_wp2_with fail
    refine (CM.out _ (HM.out.bel 0 rfl) k hlt).mono ?_
    rintro e w2 ⟨m,rfl,hm1,hm2,hm3,hm4,hm5,hm6⟩
    have hj:=HM.out.join hm6 (fun c hc hm g hg=>hm5 c hc hm g hg)
    rw [List.append_assoc] at hj
    have HMM:=K1 (And.intro hm1 (And.intro hm2 (And.intro hm3 hm4)))
    have c2:=(blk_cells (hj.obj 2 rfl) 0).trans (show _=some (.slice Aw k cw) from rfl)
    have f2:=fun j=>hj.frozen 2 j rfl
    have HM3:=K1 (hj.alloc (.cells #[ifV m.f.g] 127)).fA
    dsimp only [ifV] at HM3
    clear hm1 hm2 hm3 hm4 hm5 hm6 hj HM c1
    go_wp2_with (at_builtin;refine wpList_append_mem (n:=k) rfl _ _ 91 rfl HM3.out 3 rowIf rfl rfl _ 1 _ [.iface 95 (.pointer (some ⟨m.f.g,0,none⟩))] rfl (HM3.out.box 5 rfl) rfl (by intro u hu;simp at hu;subst hu;rfl) (by omega) ?_;intro A' c' W4 hM4;have c2:=(blk_cells (hM4.obj 2 rfl) 0).trans (show _=some (.slice Aw k cw) from rfl);have f2:=fun j=>hM4.frozen 2 j rfl;have HM5:=K1 (((hM4.fS rfl).set (i:=2) (j:=0) rfl (.slice A' (k+1) c')).fS rfl))
    clear HM3
    refine name_wp fun W5 hW=>?_
    replace HM5:=K1 (show Mem W5 ([.bel w.heap.size w,.obj w.heap.size (.cells #[.slice i.A i.r.ns.length i.cap,.int .i64 i.r.c.sh,.int .i64 i.r.c.ra,.int .i64 i.r.c.mo,.int .i64 i.r.c.k,.int .i64 i.r.c.ba,.int .i64 i.r.c.mi,.int .i64 i.r.c.st,.int .i64 i.r.c.bu,.int .i64 i.r.c.s,.int .i64 i.r.c.wi,.int .i64 i.r.c.ca,.slice i.DA i.r.n i.dcap,.slice i.SA i.r.p i.scap,.slice i.RA i.r.ds.length i.rcap] 29 (0,0)),.obj gx (.cells #[.slice A' (k+1) c',.slice Al k cl,.int .i64 0] 94 (0,0)),.own w.heap.size 127 1 (.slice A' (k+1) c') (k+1) (ms.map (fun m=>ifV m.f.g)++[ifV m.f.g]),.own w.heap.size 98 1 (.slice Al k cl) k (ls.map fun l=>ptV l.g),.obj w2.heap.size (.cells #[ifV m.f.g] 127 (0,0))]++((ms.flatMap Mc.ps++ls.flatMap Ln.ps)++m.ps)) from HM5.out.inW hW.out)
    clear hW
    refine wp_region_stage (.reads [0,1,2,3,4,5,6,7] (.eff 8 (.eff 9 (.eff 10 (.eff 11 (.reads [12] (.eff 13 .fin))))))) 13 (fun W'=>(∀ j,W'.cell? ⟨w.heap.size,j,none⟩=([.slice i.A i.r.ns.length i.cap,.int .i64 i.r.c.sh,.int .i64 i.r.c.ra,.int .i64 i.r.c.mo,.int .i64 i.r.c.k,.int .i64 i.r.c.ba,.int .i64 i.r.c.mi,.int .i64 i.r.c.st,.int .i64 i.r.c.bu,.int .i64 i.r.c.s,.int .i64 i.r.c.wi,.int .i64 i.r.c.ca,.slice i.DA i.r.n i.dcap,.slice i.SA i.r.p i.scap,.slice i.RA i.r.ds.length i.rcap]:List Value)[j]?)∧W'.cell? ⟨gx,1,none⟩=some (.slice Al k cl))
     (by kernel_rfl) (by kernel_rfl) (by intro d v c a w h;cases d <;> exact h) ?_
    replace HM5:=K1 HM5.out.drew
    generalize W5.drew=V5 at *
    refine PlS.reads_ ⟨HM5.out.cells 1 rfl,HM5.out.cells 2 rfl 1⟩ (by kernel_rfl) ?_
    simp only [pickO,p1,p2,p3,p4]
    apply Exists.intro
    apply And.intro
    · intro W' hS
      obtain ⟨s1,s2⟩:=hS
      repeat still_step
      exact wpStill_nil rfl
    refine PlS.eff_ ?_
    simp only [pickO,p1,p2,p3,p4]
    go_wp2_with fail
    refine (CL.out _).mono ?_
    rintro e w6 ⟨rfl,hw6⟩
    replace HM5:=K1 ((((((HM5.out.alloc_ hw6).fA).add (c:=.own 0 78 6 (.slice none 0 0) 0 (mcells [])) ⟨own_nil _ _ _ _,Nat.zero_le _⟩ (fun _ _ _ _ g hg=>by cases hg)).fA).add (c:=famCh (lfam [])) (fam_local (fun a ha=>by cases ha)) (fun _ _ _ _ g hg=>by obtain ⟨a,ha,_⟩:=hg;cases ha)).fA)
    clear hw6
    generalize V5.heap.size=gl at *
    go_wp2_with fail
    refine After.go ⟨HM5.out.cells 1 rfl,HM5.out.cells 2 rfl 1⟩ ?_
    refine PlS.eff_ ?_
    simp only [pickO,p1,p2,p3,p4]
    go_wp2_with fail
    refine name_after fun W7 hW=>?_
    replace HM5:=K1 ((HM5.out.alloc_ hW.out).fA)
    clear hW
    refine After.go ⟨HM5.out.cells 1 rfl,HM5.out.cells 2 rfl 1⟩ ?_
    refine PlS.eff_ ?_
    simp only [pickO,p1,p2,p3,p4]
    refine wpList_append_mem (n:=k) rfl _ _ 92 rfl HM5.out 4 rowPL rfl rfl _ 1 _ [.pointer (some ⟨gl,0,none⟩)] rfl (HM5.out.box 9 rfl) rfl (by intro u hu;simp at hu;subst hu;rfl) (by omega) ?_
    intro A2 c2' W8 hM8
    replace HM5:=K1 (hM8.fS rfl)
    clear hM8
    go_wp2_with fail
    refine After.go ⟨HM5.out.cells 1 rfl,HM5.out.cells 2 rfl 1⟩ ?_
    refine PlS.eff_ ?_
    simp only [pickO,p1,p2,p3,p4]
    go_wp2_with fail
    refine After.go ⟨HM5.out.cells 1 rfl,HM5.out.cells 2 rfl 1⟩ ?_
    refine PlS.reads_ ⟨HM5.out.cells 1 rfl,HM5.out.cells 2 rfl 1⟩ (by kernel_rfl) ?_
    simp only [pickO,p1,p2,p3,p4]
    apply Exists.intro
    apply And.intro
    · intro W' hS
      obtain ⟨s1,s2⟩:=hS
      repeat still_step
      exact wpStill_nil rfl
    refine PlS.eff_ ?_
    simp only [pickO,p1,p2,p3,p4]
    have d2:=HM5.out.cells 2 rfl
    have g2:=fun j=>HM5.out.frozen 2 j rfl
    replace HM5:=K1 ((HM5.out.set (i:=2) (j:=1) rfl (.slice A2 (k+1) c2')).fS rfl)
    go_wp2_with fail
    refine After.last (by decide) (PlS.fin_ ?_)
    clear d2 g2
    go_wp2_with fail
    go_roundw
    case rel =>
     refine ⟨k+1,A',c',A2,c2',ms++[m],ls++[newLn gl 0 i.r.c.ca],by omega,by go_num,K1 (HS.out.snoc HMM.out ⟨(newLn_ok HI.out.c.ca).1,rfl,rfl,(newLn_ok HI.out.c.ca).2⟩),K1 ?_⟩
     have h8:Mem _ ((([.bel w.heap.size w,.obj w.heap.size (.cells #[.slice i.A i.r.ns.length i.cap,.int .i64 i.r.c.sh,.int .i64 i.r.c.ra,.int .i64 i.r.c.mo,.int .i64 i.r.c.k,.int .i64 i.r.c.ba,.int .i64 i.r.c.mi,.int .i64 i.r.c.st,.int .i64 i.r.c.bu,.int .i64 i.r.c.s,.int .i64 i.r.c.wi,.int .i64 i.r.c.ca,.slice i.DA i.r.n i.dcap,.slice i.SA i.r.p i.scap,.slice i.RA i.r.ds.length i.rcap] 29 (0,0)),.obj gx (.cells #[.slice A' (k+1) c',.slice A2 (k+1) c2',.int .i64 0] 94 (0,0)),.own w.heap.size 127 1 (.slice A' (k+1) c') (k+1) (ms.map (fun m=>ifV m.f.g)++[ifV m.f.g]),.own w.heap.size 98 1 (.slice A2 (k+1) c2') (k+1) (ls.map (fun l=>ptV l.g)++[ptV gl])]++[_])++((newLn gl 0 i.r.c.ca).ps++[_]))++((ms.flatMap Mc.ps++ls.flatMap Ln.ps)++m.ps)):=HM5.out
     have h9:=h8.sub_ (L':=[.bel w.heap.size w,.obj w.heap.size (.cells #[.slice i.A i.r.ns.length i.cap,.int .i64 i.r.c.sh,.int .i64 i.r.c.ra,.int .i64 i.r.c.mo,.int .i64 i.r.c.k,.int .i64 i.r.c.ba,.int .i64 i.r.c.mi,.int .i64 i.r.c.st,.int .i64 i.r.c.bu,.int .i64 i.r.c.s,.int .i64 i.r.c.wi,.int .i64 i.r.c.ca,.slice i.DA i.r.n i.dcap,.slice i.SA i.r.p i.scap,.slice i.RA i.r.ds.length i.rcap] 29 (0,0)),.obj gx (.cells #[.slice A' (k+1) c',.slice A2 (k+1) c2',.int .i64 0] 94 (0,0)),.own w.heap.size 127 1 (.slice A' (k+1) c') (k+1) (ms.map (fun m=>ifV m.f.g)++[ifV m.f.g]),.own w.heap.size 98 1 (.slice A2 (k+1) c2') (k+1) (ls.map (fun l=>ptV l.g)++[ptV gl])]++((newLn gl 0 i.r.c.ca).ps++((ms.flatMap Mc.ps++ls.flatMap Ln.ps)++m.ps))) (by
      simp only [List.append_assoc]
      refine List.Sublist.append_left ((List.Sublist.append_left (List.sublist_append_right _ _) _).trans (List.sublist_append_right _ _)) _)
     have h10:=h9.perm (sw_perm _ _ _ _ _)
     refine Mem.cast h10 ?_
     simp only [swP,List.flatMap_append,List.flatMap_cons,List.flatMap_nil,List.append_nil,List.map_append,List.map_cons,List.map_nil]
     rfl
    case measure=>simp [intOf];omega
  · have hkn:k=i.r.c.k:=by omega
    have HF:=K1 HM.out
    clear HM
    go_wp2_with fail
    go_ret2
    obtain ⟨h1,h2,h3,h4⟩:=HS.out
    refine ⟨⟨gx,Aw,cw,Al,cl,ms,ls,0⟩,rfl,⟨HI.out.c,h1.trans hkn,h2.trans hkn,fun u m hm=>?_,fun u l hl=>?_⟩,rfl,fun m hm=>?_,fun l hl=>(h4 l hl).2.2.2,?_⟩
    · obtain ⟨k1,k2,k3,k4⟩:=h3 u m hm
      exact ⟨k1,k2,k3,Nat.le_of_eq (congrArg Am.cnt k4)⟩
    · obtain ⟨k1,k2,k3,k4⟩:=h4 l (List.mem_of_getElem? hl)
      exact ⟨k1,k2,Nat.le_of_eq k3,fun t v htv=>by rw [k4] at htv;cases htv⟩
    · obtain ⟨u,hu⟩:=List.getElem?_of_mem hm
      exact (h3 u m hu).2.2.2
    · have h5:=((HF.out.freeze (i:=3) rfl).fS rfl).freeze (i:=4) rfl |>.fS rfl
      have h6:Mem _ ([.bel w.heap.size w]++(_::((⟨gx,Aw,cw,Al,cl,ms,ls,0⟩:Wv).hd++(ms.flatMap Mc.ps++ls.flatMap Ln.ps)))):=Mem.cast h5 (show _=[.bel w.heap.size w]++(.obj w.heap.size (.cells #[.slice i.A i.r.ns.length i.cap,.int .i64 i.r.c.sh,.int .i64 i.r.c.ra,.int .i64 i.r.c.mo,.int .i64 i.r.c.k,.int .i64 i.r.c.ba,.int .i64 i.r.c.mi,.int .i64 i.r.c.st,.int .i64 i.r.c.bu,.int .i64 i.r.c.s,.int .i64 i.r.c.wi,.int .i64 i.r.c.ca,.slice i.DA i.r.n i.dcap,.slice i.SA i.r.p i.scap,.slice i.RA i.r.ds.length i.rcap] 29 (0,0))::((⟨gx,Aw,cw,Al,cl,ms,ls,0⟩:Wv).hd++(ms.flatMap Mc.ps++ls.flatMap Ln.ps))) by simp only [Wv.hd,Wv.cells,h1,h2];rfl)
      have h7:=h6.sub_ (L':=[.bel w.heap.size w]++(⟨gx,Aw,cw,Al,cl,ms,ls,0⟩:Wv).ps) (List.Sublist.append_left (List.Sublist.cons _ (List.Sublist.refl _)) _)
      exact h7.perm List.perm_append_comm
end Go.Proofs.YtdpojpcoghcieaaGreat
namespace Go.Proofs.YtdpojpcoghcieaaGreat
open Go.RowKit Go.Shelf
attribute [local go_sem] Oper.semAt_some
end Go.Proofs.YtdpojpcoghcieaaGreat
namespace Go.Proofs.YtdpojpcoghcieaaGreat
open Go.RowKit
theorem sumR_upd {f g:Nat→Nat} {u:Nat} (h:∀ v,v≠u→g v=f v) (hu:g u=f u+1):∀ k,u<k→sumR g k=sumR f k+1
 | 0,hk=>absurd hk (Nat.not_lt_zero _)
 | k+1,hk=>by
   simp only [sumR]
   by_cases e:u=k
   · subst e
     rw [sumR_congr (f:=g) (g:=f) (fun i hi=>h i (by omega)),hu];omega
   · rw [sumR_upd h hu k (by omega),h k (by omega)];omega
theorem sumR_le {f g:Nat→Nat}:∀ k,(∀ u,u<k→f u≤g u)→sumR f k≤sumR g k
 | 0,_=>Nat.le_refl _
 | k+1,h=>Nat.add_le_add (sumR_le k fun u hu=>h u (by omega)) (h k (by omega))
theorem sumR_eq {f g:Nat→Nat}:∀ k,(∀ u,u<k→f u≤g u)→sumR f k=sumR g k→∀ u,u<k→f u=g u
 | 0,_,_,u,hu=>absurd hu (Nat.not_lt_zero _)
 | k+1,h,e,u,hu=>by
   simp only [sumR] at e
   have h1:=sumR_le k fun u hu=>h u (by omega)
   have h2:=h k (by omega)
   by_cases hk:u=k
   · subst hk;omega
   · exact sumR_eq k (fun u hu=>h u (by omega)) (by omega) u (by omega)
def lenU (r:Rn) (u:Nat):Nat:=(plIts r.c r.p 0 u).length
def totR (r:Rn):Nat:=r.c.st*sumR (lenU r) r.c.k
def cntU (x:Wv) (u:Nat):Nat:=((x.ms[u]?).map Mc.cnt).getD 0
structure CntOk (r:Rn) (x:Wv):Prop where
 one:∀ (u:Nat) (m:Mc),x.ms[u]?=some m→m.cnt=m.t*lenU r u+m.next
 all:sumR (cntU x) r.c.k=x.count
theorem its_lenU {r:Rn} {m:Mc} {u:Nat} (hc:r.c.Ok) (hu:m.f.u=u) (hf:m.f.Of r) (ht:m.t<r.c.st):m.its.length=lenU r u:=by
 unfold Mc.its itsAt lenU
 rw [if_pos (by rw [hf.c];exact ht),hf.c,hf.p,hu]
 exact plIts_len hc _ _ _ _
theorem stepA_inv {f:Mf} {a:Am} {L:Nat} (h:a.cnt=a.t*L+a.next) (hl:(itsAt f a.t).length=L):(stepA f a).cnt=(stepA f a).t*L+(stepA f a).next:=by
 unfold stepA
 split
 · rename_i hn
   dsimp only
   rw [Nat.succ_mul];omega
 · dsimp only
   omega
theorem Moved.cnt {r:Rn} {x x':Wv} {u:Nat} (ho:x.Ok r) (h:CntOk r x) (hu:u<r.c.k) (hm:Moved r x u x'):CntOk r x':=by
 obtain ⟨m,m',it,h1,h2,h3,h4,h5,h6⟩:=hm
 obtain ⟨k1,k2,k3,_⟩:=ho.m u m h1
 have ht:m.t<r.c.st:=by
  rcases Nat.lt_or_ge m.t m.f.c.st with h7 | h7
  · rw [← k3.c];exact h7
  · obtain ⟨e1,e2⟩:=k1.none_ (Nat.not_lt.2 h7)
    rw [e1] at h2;cases h2
 have hl:(itsAt m.f m.t).length=lenU r u:=its_lenU ho.c k2 k3 ht
 have hone:=h.one u m h1
 have key:m'.cnt=m'.t*lenU r u+m'.next∧m'.cnt=m.cnt+1:=by
  have fin:∀ a:Am,a.t=m.t→a.next=m.next→a.cnt=m.cnt→m'.abs=stepA m.f a→m'.cnt=m'.t*lenU r u+m'.next∧m'.cnt=m.cnt+1:=fun a e1 e2 e3 ea=>by
   have h8:=stepA_inv (f:=m.f) (a:=a) (L:=lenU r u) (by rw [e1,e2,e3];exact hone) (by rw [e1];exact hl)
   rw [← ea] at h8
   exact ⟨h8,(congrArg Am.cnt ea).trans ((stepA_cnt _ _).trans (by rw [e3]))⟩
  rcases h6 with ⟨_,_,_,ea⟩ | ⟨_,l,l',_,_,_,_,_,ea⟩ | ⟨_,l,l',v,q,_,_,_,_,_,ea⟩
  · refine fin _ ?_ ?_ (ownA_cnt _ _ _) ea
    · unfold ownA
      split
      · rfl
      · split
        · rfl
        · split <;> rfl
    · unfold ownA
      split
      · rfl
      · split
        · rfl
        · split <;> rfl
  · exact fin _ rfl rfl rfl ea
  · exact fin _ rfl rfl rfl ea
 have hlt:=(List.getElem?_eq_some_iff.1 h1).1
 refine ⟨fun v n hn=>?_,?_⟩
 · rw [h4] at hn
   by_cases hv:u=v
   · subst hv
     rw [List.getElem?_set_self hlt] at hn
     injection hn with hn
     subst hn
     exact key.1
   · rw [List.getElem?_set_ne hv] at hn
     exact h.one v n hn
 · rw [h5,← h.all]
   refine sumR_upd (u:=u) (fun v hv=>?_) ?_ _ hu
   · unfold cntU
     rw [h4,List.getElem?_set_ne (Ne.symm hv)]
   · unfold cntU
     rw [h4,List.getElem?_set_self hlt,h1]
     exact key.2
theorem PickR.cnt {r:Rn} {x x':Wv} {z:Int} {b:Bool} (ho:x.Ok r) (h:CntOk r x) (hp:PickR r x z b x'):CntOk r x':=by
 rcases hp with ⟨_,rfl,_⟩ | ⟨_,_,u,_,hm⟩
 · exact h
 · refine Moved.cnt ho h ?_ hm
   obtain ⟨m,m',it,h1,_⟩:=hm
   have:=(List.getElem?_eq_some_iff.1 h1).1
   rwa [ho.lm] at this
theorem cnt_bound {r:Rn} {x:Wv} (ho:x.Ok r) (h:CntOk r x):x.count≤totR r∧(x.count=totR r↔∀ m∈x.ms,r.c.st≤m.t):=by
 have one:∀ u,u<r.c.k→cntU x u≤r.c.st*lenU r u∧(cntU x u=r.c.st*lenU r u↔∀ m,x.ms[u]?=some m→r.c.st≤m.t):=fun u hu=>by
  obtain ⟨m,hm⟩:=get_some x.ms u (by rw [ho.lm];exact hu)
  obtain ⟨k1,k2,k3,_⟩:=ho.m u m hm
  have hc:cntU x u=m.t*lenU r u+m.next:=by
   unfold cntU
   rw [hm]
   exact h.one u m hm
  rw [hc]
  have htle:m.t≤r.c.st:=by rw [← k3.c];exact k1.t
  rcases Nat.lt_or_ge m.t r.c.st with ht | ht
  · have hn:m.next<lenU r u:=by
     rw [← its_lenU ho.c k2 k3 ht]
     exact k1.next (by rw [k3.c];exact ht)
    have hmul:=Nat.mul_le_mul_right (lenU r u) ht
    rw [Nat.succ_mul] at hmul
    refine ⟨by omega,fun e=>by omega,fun e=>?_⟩
    have:=e m hm
    omega
  · have hn:m.next=0:=k1.end_ (by rw [k3.c];exact ht)
    have e:m.t=r.c.st:=by omega
    rw [hn,e]
    refine ⟨Nat.le_refl _,fun _ m' hm'=>?_,fun _=>rfl⟩
    rw [hm] at hm'
    injection hm' with hm'
    rw [← hm',e]
    exact Nat.le_refl _
 have htot:totR r=sumR (fun u=>r.c.st*lenU r u) r.c.k:=(sumR_mul _ _ _).symm
 rw [htot,← h.all]
 refine ⟨sumR_le _ fun u hu=>(one u hu).1,fun e m hm=>?_,fun e=>?_⟩
 · obtain ⟨u,hu⟩:=List.getElem?_of_mem hm
   have huk:u<r.c.k:=by have:=(List.getElem?_eq_some_iff.1 hu).1;rwa [ho.lm] at this
   exact (one u huk).2.1 (sumR_eq _ (fun u hu=>(one u hu).1) e u huk) m hu
 · exact sumR_congr fun u hu=>(one u hu).2.2 fun m hm=>e m (List.mem_of_getElem? hm)
end Go.Proofs.YtdpojpcoghcieaaGreat
