/- A part of the proof of TopTags: SchedNew, Progress, BoundP, Free, Hole, TagLaw. Conditions: none. -/
import Derived.Test.YtdpojpcoghcieaaGreatSxBJ
set_option maxHeartbeats 8000000
set_option linter.all false
namespace Go.Proofs.YtdpojpcoghcieaaGreat
open Lib renaming hid → K1
open Go.RowKit
open Value renaming int → U, slice → Us
open IntKind renaming i64 → O
open Nat renaming le_refl → Agx, zero_le → Ag6, lt_or_ge → Ag9, add_zero → Aha, mod_lt → Ahb, succ_mul → Ahh, sub_self → Ahj, mul_le_mul_right → Ahq
open List renaming length → Agy, length_drop → Agz, length_append → Ag0, getElem?_set_self → Ag1, length_map → Ag2, append_nil → Ag4, getElem?_set_ne → Ag5, map_cons → Ag8, take_append_drop → Ahc, append_assoc → Ahd, map_append → Ahf, getElem?_of_mem → Ahg, drop_eq_getElem?_toList_append → Ahi, drop_append_of_le_length → Ahk, length_cons → Ahl, getElem?_append_left → Ahm, getElem?_eq_none → Ahn, sublist_append_right → Aho, mem_of_getElem? → Ahp, getElem?_cons_zero → Ahr, getElem?_drop → Ahs, set_append_right → Ahu
open PlS renaming ef_ → Ag3
open After renaming go → Ag7
open And renaming intro → Ahe
open Region renaming wanted → Aht
section
theorem T6:(Tryz.prog.info? 127).map (fun i=>(i.zero,i.size,i.bytes))=some (some .nilIface,1,16):=by kernel_rfl
theorem T7:RowT Tryz.prog 91 127 1 16:=by
 obtain ⟨i0,hi,hz0,hz1,hz2⟩:=info_parts T6;exact ⟨i0,_,Tryz.underlying91,hi,hz0,hz1,hz2,rfl,by decide,by decide⟩
theorem T8:(Tryz.prog.info? 98).map (fun i=>(i.zero,i.size,i.bytes))=some (some (.pointer none),1,8):=by kernel_rfl
theorem T9:RowT Tryz.prog 92 98 1 8:=by
 obtain ⟨i0,hi,hz0,hz1,hz2⟩:=info_parts T8;exact ⟨i0,_,Tryz.underlying92,hi,hz0,hz1,hz2,rfl,by decide,by decide⟩
def swP (w:World) (gx:Nat) (i:Inp) (Aw:Option Addr) (k cw:Nat) (Al:Option Addr) (q cl:Nat) (ms:List Mc) (ls:List Ln):List Ch :=
 [.bel w.heap.size w,.obj w.heap.size (.cells #[Us i.A i.r.ns.length i.cap,U O i.r.c.sh,U O i.r.c.ra,U O i.r.c.mo,U O i.r.c.k,U O i.r.c.ba,U O i.r.c.mi,U O i.r.c.st,U O i.r.c.bu,U O i.r.c.s,U O i.r.c.wi,U O i.r.c.ca,Us i.DA i.r.n i.dcap,Us i.SA i.r.p i.scap,Us i.RA i.r.ds.length i.rcap] 29 (0,0)),.obj gx (.cells #[Us Aw k cw,Us Al q cl,U O 0] 94 (0,0)),.own w.heap.size 127 1 (Us Aw k cw) k (ms.map fun m=>ifV m.f.g),.own w.heap.size 98 1 (Us Al q cl) q (ls.map fun l=>ptV l.g)]
def SwOk (i:Inp) (k:Nat) (ms:List Mc) (ls:List Ln):Prop:=ms.length=k/\ls.length=k/\(∀ (u:Nat) (m:Mc),ms[u]?=some m->m.Ok/\m.f.u=u/\m.f.Of i.r/\m.abs=iniA i)/\∀ l∈ls,l.Ok/\l.cap=i.r.c.ca/\l.se=0/\l.q=[]
theorem SwOk.snoc {i:Inp} {k:Nat} {ms:List Mc} {ls:List Ln} (h:SwOk i k ms ls) {m:Mc} {l:Ln} (hm:m.Ok/\m.f.u=k/\m.f.Of i.r/\m.abs=iniA i) (hl:l.Ok/\l.cap=i.r.c.ca/\l.se=0/\l.q=[]):SwOk i (k+1) (ms++[m]) (ls++[l]):=by
 obtain ⟨h1,h2,h3,h4⟩:=h;refine ⟨by rw [Ag0,h1];rfl,by rw [Ag0,h2];rfl,fun u n hn=>?_,fun x hx=>?_⟩
 . rcases Nat.lt_trichotomy u k with h5 | h5 | h5
   . rw [Ahm (by omega)] at hn;exact h3 u n hn
   . subst h5;rw [<- h1,List.getElem?_concat_length] at hn;injection hn with hn
     subst hn;exact hm
   . rw [Ahn (by rw [Ag0,h1];simp;omega)] at hn
     cases hn
 . rcases List.mem_append.1 hx with hx | hx
   . exact h4 x hx
   . rw [List.mem_singleton.1 hx];exact hl
theorem TA (X A B M L:List Ch):(X++(L++((A++B)++M))).Perm (X++((A++M)++(B++L))) :=
 List.Perm.append_left X (List.perm_append_comm.trans (by
  simp only [Ahd]
  exact List.Perm.append_left A (Gs B M L)))
def G2 (g base cap:Nat):Ln:=⟨g,base,cap,none,0,0,0,0,0,[]⟩
theorem Na {g base cap:Nat} (h:1<=cap/\cap<=1048576):(G2 g base cap).Ok/\(G2 g base cap).q=[] :=
 ⟨⟨⟨rfl,by show 0=min 0 cap;omega,Agx _,Ag6 _,h,fun m hm=>by cases hm⟩,Ag6 _⟩,LZ _ _ _⟩
set_option maxRecDepth 100000 in
theorem Nb (w:World) (i:Inp) (hi:i.Ok) (ha:i.At w) :
  Calls Tryz.prog 9 #[.agg i.cells.toArray] w fun e w'=>∃ x:Wv,e=.returned (.tuple #[.pointer (some ⟨x.g,0,none⟩),U O 0])/\x.Ok i.r/\x.count=0/\(∀ m∈x.ms,m.abs=iniA i)/\(∀ l∈x.ls,l.q=[])/\Mem w' (x.ps++[.bel w.heap.size w]):=by
 have CI:Hid (∀ W,Below w.heap.size w W->Calls Tryz.prog 28 #[.agg i.cells.toArray] W fun e w'=>e=.returned (U O 0)/\Below W.heap.size W w'):=K1 (fun W hb=>by
  have h0:=ha.below hb;have hl:=hi.l.1;have h2:=Lo i.A i.DA i.SA i.RA i.cap i.dcap i.r.p i.scap i.r.ds.length i.rcap (AX i.r.ns) i.l i.r.c.sh i.r.c.ra i.r.c.mo i.r.c.k i.r.c.ba i.r.c.mi i.r.c.st i.r.c.bu i.r.c.s i.r.c.wi i.r.c.ca W h0.ns (by simpa using hi.cap) (by have:=hi.ns.len;simp;omega) h0.l (by have:=hi.n.1;omega) hi.conf;rw [show AT (AX i.r.ns) ⟨i.r.c.sh,0,0,i.r.c.k,i.r.c.ba,i.r.c.mi,i.r.c.st,i.r.c.bu,i.r.c.s,i.r.c.wi,i.r.c.ca⟩=0 from hi.conf,hi.input] at h2;simp only [Ag2] at h2;rw [hl] at h2
  exact h2)
 have CM:=K1 (fun W (hb:Below w.heap.size w W) u hu=>Tw W i hi (ha.below hb) u hu);have CL:=K1 (fun W=>Rc W i.r.c.ca hi.c.ca);have HI:=K1 hi;have HM:=K1 ((Mem.start w).alloc (.cells i.cells.toArray 29));have hk8:=hi.c.k;dsimp only [Inp.cells] at *;clear ha hi;go_enter Tryz.func9,Tryz.ntmps9;have c1:=HM.out.cells 1 rfl;go_wp2_with fail;refine (CI.out _ (HM.out.bel 0 rfl)).mono ?_;rintro e w1 ⟨rfl,hb⟩;replace HM:=K1 ((HM.out.below hb).alloc (.cells #[Us none 0 0,Us none 0 0,U O 0] 94));clear hb CI c1;have c1:=HM.out.cells 1 rfl;generalize hgx:w1.heap.size=gx at *;go_wp2_with fail
 have HM0:=K1 (show Mem _ (swP w gx i none 0 0 none 0 0 [] []++(([]:List Mc).flatMap Mc.ps++([]:List Ln).flatMap Ln.ps)) from (HM.out.add (c:=.own w.heap.size 127 1 (Us none 0 0) 0 []) ⟨Bh _ _ _ _,(HM.out.bel 0 rfl).size⟩ (fun _ _ _ _ g hg=>by cases hg)).add (c:=.own w.heap.size 98 1 (Us none 0 0) 0 []) ⟨Bh _ _ _ _,(HM.out.bel 0 rfl).size⟩ (fun _ _ _ _ g hg=>by cases hg));clear HM c1 hgx
 go_loopw [19] (fun s19 wr=>∃ (k:Nat) (Aw:Option Addr) (cw:Nat) (Al:Option Addr) (cl:Nat) (ms:List Mc) (ls:List Ln),k<=i.r.c.k/\s19=U O k/\Hid (SwOk i k ms ls)/\Hid (Mem wr (swP w gx i Aw k cw Al k cl ms ls++(ms.flatMap Mc.ps++ls.flatMap Ln.ps)))) (fun s19 _=>i.r.c.k-(intOf s19).toNat)
 case atStart=>exact ⟨0,none,0,none,0,[],[],Ag6 _,rfl,K1 ⟨rfl,rfl,fun u m h=>by simp at h,fun l h=>by cases h⟩,HM0⟩
 case round =>
  clear HM0;obtain ⟨k,Aw,cw,Al,cl,ms,ls,hk,rfl,HS,HM⟩:=hrel
  by_cases hlt:k<i.r.c.k
  . have c1:=HM.out.cells 1 rfl;go_wp2_with fail;refine (CM.out _ (HM.out.bel 0 rfl) k hlt).mono ?_;rintro e w2 ⟨m,rfl,hm1,hm2,hm3,hm4,hm5,hm6⟩;have hj:=HM.out.join hm6 (fun c hc hm g hg=>hm5 c hc hm g hg);rw [Ahd] at hj;have HMM:=K1 (Ahe hm1 (Ahe hm2 (Ahe hm3 hm4)));have c2:=(Af (hj.obj 2 rfl) 0).trans (show _=some (Us Aw k cw) from rfl);have f2:=fun j=>hj.frozen 2 j rfl
    have HM3:=K1 (hj.alloc (.cells #[ifV m.f.g] 127)).fA;dsimp only [ifV] at HM3;clear hm1 hm2 hm3 hm4 hm5 hm6 hj HM c1
    go_wp2_with (at_builtin;refine AQ (n:=k) rfl _ _ 91 rfl HM3.out 3 T7 rfl rfl _ 1 _ [.iface 95 (.pointer (some ⟨m.f.g,0,none⟩))] rfl (HM3.out.box 5 rfl) rfl (by intro u hu;simp at hu;subst hu;rfl) (by omega) ?_;intro A' c' W4 hM4;have c2:=(Af (hM4.obj 2 rfl) 0).trans (show _=some (Us Aw k cw) from rfl);have f2:=fun j=>hM4.frozen 2 j rfl;have HM5:=K1 (((hM4.fS rfl).set (i:=2) (j:=0) rfl (Us A' (k+1) c')).fS rfl))
    clear HM3;refine A9 fun W5 hW=>?_
    replace HM5:=K1 (show Mem W5 ([.bel w.heap.size w,.obj w.heap.size (.cells #[Us i.A i.r.ns.length i.cap,U O i.r.c.sh,U O i.r.c.ra,U O i.r.c.mo,U O i.r.c.k,U O i.r.c.ba,U O i.r.c.mi,U O i.r.c.st,U O i.r.c.bu,U O i.r.c.s,U O i.r.c.wi,U O i.r.c.ca,Us i.DA i.r.n i.dcap,Us i.SA i.r.p i.scap,Us i.RA i.r.ds.length i.rcap] 29 (0,0)),.obj gx (.cells #[Us A' (k+1) c',Us Al k cl,U O 0] 94 (0,0)),.own w.heap.size 127 1 (Us A' (k+1) c') (k+1) (ms.map (fun m=>ifV m.f.g)++[ifV m.f.g]),.own w.heap.size 98 1 (Us Al k cl) k (ls.map fun l=>ptV l.g),.obj w2.heap.size (.cells #[ifV m.f.g] 127 (0,0))]++((ms.flatMap Mc.ps++ls.flatMap Ln.ps)++m.ps)) from HM5.out.inW hW.out)
    clear hW;refine AC (.reads [0,1,2,3,4,5,6,7] (.eff 8 (.eff 9 (.eff 10 (.eff 11 (.reads [12] (.eff 13 .fin))))))) 13 (fun W'=>(∀ j,W'.cell? ⟨w.heap.size,j,none⟩=([Us i.A i.r.ns.length i.cap,U O i.r.c.sh,U O i.r.c.ra,U O i.r.c.mo,U O i.r.c.k,U O i.r.c.ba,U O i.r.c.mi,U O i.r.c.st,U O i.r.c.bu,U O i.r.c.s,U O i.r.c.wi,U O i.r.c.ca,Us i.DA i.r.n i.dcap,Us i.SA i.r.p i.scap,Us i.RA i.r.ds.length i.rcap]:List Value)[j]?)/\W'.cell? ⟨gx,1,none⟩=some (Us Al k cl)) ?_;replace HM5:=K1 HM5.out.drew;generalize W5.drew=V5 at *;refine PlS.rd_ ⟨HM5.out.cells 1 rfl,HM5.out.cells 2 rfl 1⟩ ?_;refine Ag3 ?_
    go_wp2_with fail;refine (CL.out _).mono ?_;rintro e w6 ⟨rfl,hw6⟩;replace HM5:=K1 ((((((HM5.out.alloc_ hw6).fA).add (c:=.own 0 78 6 (Us none 0 0) 0 (mcells [])) ⟨Bh _ _ _ _,Ag6 _⟩ (fun _ _ _ _ g hg=>by cases hg)).fA).add (c:=AD (lfam [])) (Da (fun a ha=>by cases ha)) (fun _ _ _ _ g hg=>by obtain ⟨a,ha,_⟩:=hg;cases ha)).fA);clear hw6;generalize V5.heap.size=gl at *;go_wp2_with fail;refine Ag7 ⟨HM5.out.cells 1 rfl,HM5.out.cells 2 rfl 1⟩ ?_;refine Ag3 ?_;go_wp2_with fail;refine AH fun W7 hW=>?_;replace HM5:=K1 ((HM5.out.alloc_ hW.out).fA);clear hW
    refine Ag7 ⟨HM5.out.cells 1 rfl,HM5.out.cells 2 rfl 1⟩ ?_;refine Ag3 ?_;refine AQ (n:=k) rfl _ _ 92 rfl HM5.out 4 T9 rfl rfl _ 1 _ [.pointer (some ⟨gl,0,none⟩)] rfl (HM5.out.box 9 rfl) rfl (by intro u hu;simp at hu;subst hu;rfl) (by omega) ?_;intro A2 c2' W8 hM8;replace HM5:=K1 (hM8.fS rfl);clear hM8;go_wp2_with fail;refine Ag7 ⟨HM5.out.cells 1 rfl,HM5.out.cells 2 rfl 1⟩ ?_;refine Ag3 ?_;go_wp2_with fail;refine Ag7 ⟨HM5.out.cells 1 rfl,HM5.out.cells 2 rfl 1⟩ ?_;refine PlS.rd_ ⟨HM5.out.cells 1 rfl,HM5.out.cells 2 rfl 1⟩ ?_;refine Ag3 ?_;have d2:=HM5.out.cells 2 rfl
    have g2:=fun j=>HM5.out.frozen 2 j rfl
    replace HM5:=K1 ((HM5.out.set (i:=2) (j:=1) rfl (Us A2 (k+1) c2')).fS rfl);go_wp2_with fail;refine After.last (by decide) (PlS.fin_ ?_);clear d2 g2;go_wp2_with fail;go_roundw
    case rel =>
     refine ⟨k+1,A',c',A2,c2',ms++[m],ls++[G2 gl 0 i.r.c.ca],by omega,by go_num,K1 (HS.out.snoc HMM.out ⟨(Na HI.out.c.ca).1,rfl,rfl,(Na HI.out.c.ca).2⟩),K1 ?_⟩
     have h8:Mem _ ((([.bel w.heap.size w,.obj w.heap.size (.cells #[Us i.A i.r.ns.length i.cap,U O i.r.c.sh,U O i.r.c.ra,U O i.r.c.mo,U O i.r.c.k,U O i.r.c.ba,U O i.r.c.mi,U O i.r.c.st,U O i.r.c.bu,U O i.r.c.s,U O i.r.c.wi,U O i.r.c.ca,Us i.DA i.r.n i.dcap,Us i.SA i.r.p i.scap,Us i.RA i.r.ds.length i.rcap] 29 (0,0)),.obj gx (.cells #[Us A' (k+1) c',Us A2 (k+1) c2',U O 0] 94 (0,0)),.own w.heap.size 127 1 (Us A' (k+1) c') (k+1) (ms.map (fun m=>ifV m.f.g)++[ifV m.f.g]),.own w.heap.size 98 1 (Us A2 (k+1) c2') (k+1) (ls.map (fun l=>ptV l.g)++[ptV gl])]++[_])++((G2 gl 0 i.r.c.ca).ps++[_]))++((ms.flatMap Mc.ps++ls.flatMap Ln.ps)++m.ps)):=HM5.out
     have h9:=h8.sub_ (L':=[.bel w.heap.size w,.obj w.heap.size (.cells #[Us i.A i.r.ns.length i.cap,U O i.r.c.sh,U O i.r.c.ra,U O i.r.c.mo,U O i.r.c.k,U O i.r.c.ba,U O i.r.c.mi,U O i.r.c.st,U O i.r.c.bu,U O i.r.c.s,U O i.r.c.wi,U O i.r.c.ca,Us i.DA i.r.n i.dcap,Us i.SA i.r.p i.scap,Us i.RA i.r.ds.length i.rcap] 29 (0,0)),.obj gx (.cells #[Us A' (k+1) c',Us A2 (k+1) c2',U O 0] 94 (0,0)),.own w.heap.size 127 1 (Us A' (k+1) c') (k+1) (ms.map (fun m=>ifV m.f.g)++[ifV m.f.g]),.own w.heap.size 98 1 (Us A2 (k+1) c2') (k+1) (ls.map (fun l=>ptV l.g)++[ptV gl])]++((G2 gl 0 i.r.c.ca).ps++((ms.flatMap Mc.ps++ls.flatMap Ln.ps)++m.ps))) (by
      simp only [Ahd]
      refine List.Sublist.append_left ((List.Sublist.append_left (Aho _ _) _).trans (Aho _ _)) _)
     have h10:=h9.perm (TA _ _ _ _ _);refine Mem.cast h10 ?_;simp only [swP,List.flatMap_append,List.flatMap_cons,List.flatMap_nil,Ag4,Ahf,Ag8,List.map_nil];rfl
    case measure=>simp [intOf];omega
  . have hkn:k=i.r.c.k:=by omega
    have HF:=K1 HM.out;clear HM;go_wp2_with fail
    go_ret2
    obtain ⟨h1,h2,h3,h4⟩:=HS.out;refine ⟨⟨gx,Aw,cw,Al,cl,ms,ls,0⟩,rfl,⟨HI.out.c,h1.trans hkn,h2.trans hkn,fun u m hm=>?_,fun u l hl=>?_⟩,rfl,fun m hm=>?_,fun l hl=>(h4 l hl).2.2.2,?_⟩
    . obtain ⟨k1,k2,k3,k4⟩:=h3 u m hm;exact ⟨k1,k2,k3,Nat.le_of_eq (congrArg Am.cnt k4)⟩
    . obtain ⟨k1,k2,k3,k4⟩:=h4 l (Ahp hl);exact ⟨k1,k2,Nat.le_of_eq k3,fun t v htv=>by rw [k4] at htv;cases htv⟩
    . obtain ⟨u,hu⟩:=Ahg hm;exact (h3 u m hu).2.2.2
    . have h5:=((HF.out.freeze (i:=3) rfl).fS rfl).freeze (i:=4) rfl |>.fS rfl
      have h6:Mem _ ([.bel w.heap.size w]++(_::((⟨gx,Aw,cw,Al,cl,ms,ls,0⟩:Wv).hd++(ms.flatMap Mc.ps++ls.flatMap Ln.ps)))):=Mem.cast h5 (show _=[.bel w.heap.size w]++(.obj w.heap.size (.cells #[Us i.A i.r.ns.length i.cap,U O i.r.c.sh,U O i.r.c.ra,U O i.r.c.mo,U O i.r.c.k,U O i.r.c.ba,U O i.r.c.mi,U O i.r.c.st,U O i.r.c.bu,U O i.r.c.s,U O i.r.c.wi,U O i.r.c.ca,Us i.DA i.r.n i.dcap,Us i.SA i.r.p i.scap,Us i.RA i.r.ds.length i.rcap] 29 (0,0))::((⟨gx,Aw,cw,Al,cl,ms,ls,0⟩:Wv).hd++(ms.flatMap Mc.ps++ls.flatMap Ln.ps))) by simp only [Wv.hd,Wv.cells,h1,h2];rfl)
      have h7:=h6.sub_ (L':=[.bel w.heap.size w]++(⟨gx,Aw,cw,Al,cl,ms,ls,0⟩:Wv).ps) (List.Sublist.append_left (List.Sublist.cons _ (List.Sublist.refl _)) _);exact h7.perm List.perm_append_comm
theorem Nc {f g:Nat->Nat} {u:Nat} (h:∀ v,v≠u->g v=f v) (hu:g u=f u+1):∀ k,u<k->sumR g k=sumR f k+1
 | 0,hk=>absurd hk (Nat.not_lt_zero _)
 | k+1,hk=>by
   simp only [sumR]
   by_cases e:u=k
   . subst e;rw [DW (f:=g) (g:=f) (fun i hi=>h i (by omega)),hu];omega
   . rw [Nc h hu k (by omega),h k (by omega)];omega
theorem JC {f g:Nat->Nat}:∀ k,(∀ u,u<k->f u<=g u)->sumR f k<=sumR g k
 | 0,_=>Agx _
 | k+1,h=>Nat.add_le_add (JC k fun u hu=>h u (by omega)) (h k (by omega))
theorem Nd {f g:Nat->Nat}:∀ k,(∀ u,u<k->f u<=g u)->sumR f k=sumR g k->∀ u,u<k->f u=g u
 | 0,_,_,u,hu=>absurd hu (Nat.not_lt_zero _)
 | k+1,h,e,u,hu=>by
   simp only [sumR] at e;have h1:=JC k fun u hu=>h u (by omega)
   have h2:=h k (by omega)
   by_cases hk:u=k
   . subst hk;omega
   . exact Nd k (fun u hu=>h u (by omega)) (by omega) u (by omega)
def lenU (r:Rn) (u:Nat):Nat:=(AS r.c r.p 0 u).length
def totR (r:Rn):Nat:=r.c.st*sumR (lenU r) r.c.k
def cntU (x:Wv) (u:Nat):Nat:=((x.ms[u]?).map Mc.cnt).getD 0
structure Dt (r:Rn) (x:Wv):Prop where
 one:∀ (u:Nat) (m:Mc),x.ms[u]?=some m->m.cnt=m.t*lenU r u+m.next
 all:sumR (cntU x) r.c.k=x.count
theorem JD {r:Rn} {m:Mc} {u:Nat} (hc:r.c.Ok) (hu:m.f.u=u) (hf:m.f.Of r) (ht:m.t<r.c.st):m.its.length=lenU r u:=by
 unfold Mc.its Bo lenU;rw [if_pos (by rw [hf.c];exact ht),hf.c,hf.p,hu];exact Je hc _ _ _ _
theorem TB {f:Mf} {a:Am} {L:Nat} (h:a.cnt=a.t*L+a.next) (hl:(Bo f a.t).length=L):(BZ f a).cnt=(BZ f a).t*L+(BZ f a).next:=by
 unfold BZ
 split
 . rename_i hn
   dsimp only;rw [Ahh];omega
 . dsimp only;omega
theorem Moved.cnt {r:Rn} {x x':Wv} {u:Nat} (ho:x.Ok r) (h:Dt r x) (hu:u<r.c.k) (hm:Moved r x u x'):Dt r x':=by
 obtain ⟨m,m',it,h1,h2,h3,h4,h5,h6⟩:=hm;obtain ⟨k1,k2,k3,_⟩:=ho.m u m h1
 have ht:m.t<r.c.st:=by
  rcases Ag9 m.t m.f.c.st with h7 | h7
  . rw [<- k3.c];exact h7
  . obtain ⟨e1,e2⟩:=k1.none_ (Nat.not_lt.2 h7);rw [e1] at h2;cases h2
 have hl:(Bo m.f m.t).length=lenU r u:=JD ho.c k2 k3 ht;have hone:=h.one u m h1
 have key:m'.cnt=m'.t*lenU r u+m'.next/\m'.cnt=m.cnt+1:=by
  have fin:∀ a:Am,a.t=m.t->a.next=m.next->a.cnt=m.cnt->m'.abs=BZ m.f a->m'.cnt=m'.t*lenU r u+m'.next/\m'.cnt=m.cnt+1:=fun a e1 e2 e3 ea=>by
   have h8:=TB (f:=m.f) (a:=a) (L:=lenU r u) (by rw [e1,e2,e3];exact hone) (by rw [e1];exact hl);rw [<- ea] at h8;exact ⟨h8,(congrArg Am.cnt ea).trans ((ES _ _).trans (by rw [e3]))⟩
  rcases h6 with ⟨_,_,_,ea⟩ | ⟨_,l,l',_,_,_,_,_,ea⟩ | ⟨_,l,l',v,q,_,_,_,_,_,ea⟩
  . refine fin _ ?_ ?_ (JB _ _ _) ea
    . unfold ownA
      split
      . rfl
      . split
        . rfl
        . split <;> rfl
    . unfold ownA
      split
      . rfl
      . split
        . rfl
        . split <;> rfl
  . exact fin _ rfl rfl rfl ea
  . exact fin _ rfl rfl rfl ea
 have hlt:=(List.getElem?_eq_some_iff.1 h1).1;refine ⟨fun v n hn=>?_,?_⟩
 . rw [h4] at hn
   by_cases hv:u=v
   . subst hv;rw [Ag1 hlt] at hn;injection hn with hn
     subst hn;exact key.1
   . rw [Ag5 hv] at hn;exact h.one v n hn
 . rw [h5,<- h.all];refine Nc (u:=u) (fun v hv=>?_) ?_ _ hu
   . unfold cntU;rw [h4,Ag5 (Ne.symm hv)]
   . unfold cntU;rw [h4,Ag1 hlt,h1];exact key.2
theorem Cj.cnt {r:Rn} {x x':Wv} {z:Int} {b:Bool} (ho:x.Ok r) (h:Dt r x) (hp:Cj r x z b x'):Dt r x':=by
 rcases hp with ⟨_,rfl,_⟩ | ⟨_,_,u,_,hm⟩
 . exact h
 . refine Moved.cnt ho h ?_ hm;obtain ⟨m,m',it,h1,_⟩:=hm;have:=(List.getElem?_eq_some_iff.1 h1).1
   rwa [ho.lm] at this
theorem Ir {r:Rn} {x:Wv} (ho:x.Ok r) (h:Dt r x):x.count<=totR r/\(x.count=totR r↔∀ m∈x.ms,r.c.st<=m.t):=by
 have one:∀ u,u<r.c.k->cntU x u<=r.c.st*lenU r u/\(cntU x u=r.c.st*lenU r u↔∀ m,x.ms[u]?=some m->r.c.st<=m.t):=fun u hu=>by
  obtain ⟨m,hm⟩:=Au x.ms u (by rw [ho.lm];exact hu);obtain ⟨k1,k2,k3,_⟩:=ho.m u m hm
  have hc:cntU x u=m.t*lenU r u+m.next:=by
   unfold cntU;rw [hm];exact h.one u m hm
  rw [hc];have htle:m.t<=r.c.st:=by rw [<- k3.c];exact k1.t
  rcases Ag9 m.t r.c.st with ht | ht
  . have hn:m.next<lenU r u:=by
     rw [<- JD ho.c k2 k3 ht];exact k1.next (by rw [k3.c];exact ht)
    have hmul:=Ahq (lenU r u) ht;rw [Ahh] at hmul;refine ⟨by omega,fun e=>by omega,fun e=>?_⟩;have:=e m hm;omega
  . have hn:m.next=0:=k1.end_ (by rw [k3.c];exact ht);have e:m.t=r.c.st:=by omega
    rw [hn,e];refine ⟨Agx _,fun _ m' hm'=>?_,fun _=>rfl⟩;rw [hm] at hm';injection hm' with hm'
    rw [<- hm',e];exact Agx _
 have htot:totR r=sumR (fun u=>r.c.st*lenU r u) r.c.k:=(La _ _ _).symm;rw [htot,<- h.all];refine ⟨JC _ fun u hu=>(one u hu).1,fun e m hm=>?_,fun e=>?_⟩
 . obtain ⟨u,hu⟩:=Ahg hm;have huk:u<r.c.k:=by have:=(List.getElem?_eq_some_iff.1 hu).1;rwa [ho.lm] at this
   exact (one u huk).2.1 (Nd _ (fun u hu=>(one u hu).1) e u huk) m hu
 . exact DW fun u hu=>(one u hu).2.2 fun m hm=>e m (Ahp hm)
structure Em (r:Rn) (x:Wv):Prop where
 q:∀ (u:Nat) (l:Ln),x.ls[u]?=some l->l.q.map Prod.fst=(sndT ((Ak r.c r.p u).take (cntU x u))).drop (rcvN (Ak r.c r.p) (cntU x) ((u+1) % r.c.k))
 le:∀ u,u<r.c.k->rcvN (Ak r.c r.p) (cntU x) ((u+1) % r.c.k)<=sndN (Ak r.c r.p) (cntU x) u
theorem TC {r:Rn} {x:Wv} (ho:x.Ok r) {u:Nat} {m:Mc} (hm:x.ms[u]?=some m) (ht:m.t<r.c.st) (i:Nat) (hi:i<lenU r u):(Ak r.c r.p u)[m.t*lenU r u+i]?=m.its[i]?:=by
 obtain ⟨_,k2,k3,_⟩:=ho.m u m hm;unfold Ak;rw [My (L:=lenU r u) (fun t=>Je ho.c _ _ _ _) hi _ ht];unfold Mc.its Bo;rw [if_pos (by rw [k3.c];exact ht),k3.c,k3.p,k2]
theorem TD {x:Wv} {u:Nat} {m:Mc} (hm:x.ms[u]?=some m):cntU x u=m.cnt:=by unfold cntU;rw [hm];rfl
theorem EU {r:Rn} {x:Wv} (ho:x.Ok r) (hc:Dt r x) {u:Nat} {m:Mc} (hm:x.ms[u]?=some m):(Ak r.c r.p u)[cntU x u]?=m.its[m.next]?:=by
 obtain ⟨k1,k2,k3,_⟩:=ho.m u m hm;rw [TD hm,hc.one u m hm]
 rcases Ag9 m.t r.c.st with ht | ht
 . have hn:m.next<lenU r u:=by rw [<- JD ho.c k2 k3 ht];exact k1.next (by rw [k3.c];exact ht)
   exact TC ho hm ht _ hn
 . obtain ⟨e1,e2⟩:=k1.none_ (by rw [k3.c];omega);rw [e1,List.getElem?_nil];refine Ahn ?_;unfold Ak;rw [Fk,DW (g:=fun _=>lenU r u) (fun i _=>Je ho.c _ _ _ _),Fj,e2,Aha];exact Ahq _ ht
theorem Nf {l:List It} {d:Nat} {x:It} (h:l[d]?=some x):l.take (d+1)=l.take d++[x]:=by rw [List.take_add_one,h];rfl
theorem JE {r:Rn} {d:Nat->Nat} {u v:Nat} (hu:u<r.c.k) (hv:v=(u+r.c.k-1) % r.c.k) {x:It} (hx:(Ak r.c r.p u)[d u]?=some x) (hk:x.kind=4) (hlt:rcvN (Ak r.c r.p) d u<sndN (Ak r.c r.p) d v) :
  (sndT ((Ak r.c r.p v).take (d v)))[rcvN (Ak r.c r.p) d u]?=some (tgOf x.a):=by
 subst hv;have hv1:(u+r.c.k-1) % r.c.k<r.c.k:=Ahb _ (by omega);have ht:=(Sync.all r.c r.p).tags _ hv1;rw [(around hu).1] at ht
 have e1:rcvT (Ak r.c r.p u)=rcvT ((Ak r.c r.p u).take (d u))++([tgOf x.a]++rcvT ((Ak r.c r.p u).drop (d u+1))):=by
  rw [<- F3 hk,<- D8,<- D8]
  congr 1
  have:=Ahc (d u) (Ak r.c r.p u);rw [Ahi,hx] at this;exact this.symm
 have e2:sndT (Ak r.c r.p ((u+r.c.k-1) % r.c.k))=sndT ((Ak r.c r.p ((u+r.c.k-1) % r.c.k)).take (d ((u+r.c.k-1) % r.c.k)))++sndT ((Ak r.c r.p ((u+r.c.k-1) % r.c.k)).drop (d ((u+r.c.k-1) % r.c.k))):=by
  rw [<- D7,Ahc]
 have e3:(sndT (Ak r.c r.p ((u+r.c.k-1) % r.c.k)))[rcvN (Ak r.c r.p) d u]?=some (tgOf x.a):=by
  rw [ht,e1];unfold rcvN;rw [List.getElem?_append_right (Agx _),Ahj];rfl
 rw [e2,Ahm hlt] at e3;exact e3
theorem TE {r:Rn} {x:Wv} (ho:x.Ok r) (hc:Dt r x) (ht:Em r x) {u:Nat} (hu:u<r.c.k) (hf:Jz r.c.k (Ak r.c r.p) (cntU x) u):¬ Stuck r x u:=by
 rintro ⟨m,hm,hs⟩;obtain ⟨y,hy,h3,h4⟩:=hf;rw [EU ho hc hm] at hy;have hca:1<=r.c.ca:=ho.c.ca.1
 rcases hs with h0 | ⟨it,hit,hs⟩
 . rw [h0] at hy;cases hy
 . rw [hit] at hy;injection hy with hy
   subst hy
   rcases hs with ⟨e,l,hl,hfull⟩ | ⟨e,l,hl,hno⟩
   . have hq:=congrArg Agy (ht.q u l hl);rw [Ag2,Agz] at hq;have h:=h3 e;have hcap:=(ho.l u l hl).2.1;unfold sndN at h;omega
   . have h:=h4 e;have hq:=ht.q _ l hl;rw [(around hu).1] at hq;have hn:=JE (d:=cntU x) hu rfl (by rw [EU ho hc hm];exact hit) e h
     cases hlq:l.q with
     | nil =>
       rw [hlq] at hq;have:=congrArg Agy hq;rw [Agz] at this;unfold sndN at h;simp at this;omega
     | cons a q =>
       rw [hlq] at hq;have:=congrArg (fun l=>l[0]?) hq;simp only [Ag8,Ahr,Ahs,Aha] at this;rw [hn] at this;injection this with this
       obtain ⟨t,v⟩:=a;dsimp only at this;subst this;exact hno v q hlq
theorem Nh {x x':Wv} {u:Nat} {m m':Mc} (hm:x.ms[u]?=some m) (hms:x'.ms=x.ms.set u m') (hc:m'.cnt=m.cnt+1):cntU x' u=cntU x u+1/\∀ v,v≠u->cntU x' v=cntU x v:=by
 have hlt:=(List.getElem?_eq_some_iff.1 hm).1;constructor
 . unfold cntU;rw [hms,Ag1 hlt,hm];exact hc
 . intro v hv;unfold cntU;rw [hms,Ag5 (Ne.symm hv)]
theorem Moved.cnt1 {r:Rn} {x x':Wv} {u:Nat} (h:Moved r x u x'):∃ (m m':Mc) (it:It),x.ms[u]?=some m/\m.its[m.next]?=some it/\x'.ms=x.ms.set u m'/\m'.cnt=m.cnt+1:=by
 obtain ⟨m,m',it,h1,h2,h3,h4,h5,h6⟩:=h;refine ⟨m,m',it,h1,h2,h4,?_⟩
 rcases h6 with ⟨_,_,_,ea⟩ | ⟨_,l,l',_,_,_,_,_,ea⟩ | ⟨_,l,l',v,q,_,_,_,_,_,ea⟩
 . exact (congrArg Am.cnt ea).trans ((ES _ _).trans (congrArg (·+1) (JB _ _ _)))
 . exact (congrArg Am.cnt ea).trans (ES _ _)
 . exact (congrArg Am.cnt ea).trans (ES _ _)
theorem Moved.tags {r:Rn} {x x':Wv} {u:Nat} (ho:x.Ok r) (hc:Dt r x) (ht:Em r x) (hu:u<r.c.k) (h:Moved r x u x'):Em r x':=by
 have hcn:=h.cnt1;obtain ⟨m,m',it,h1,h2,h3,h4,h5,h6⟩:=h;obtain ⟨m0,m1,it0,g1,g2,g3,g4⟩:=hcn;rw [h1] at g1;injection g1 with g1
 subst g1;rw [h4] at g3;have hlt:=(List.getElem?_eq_some_iff.1 h1).1
 have g5:m'=m1:=by
  have:=congrArg (fun l=>l[u]?) g3;simp only [Ag1 hlt] at this;injection this
 subst g5;obtain ⟨cu,cv⟩:=Nh h1 h4 g4;have hit:(Ak r.c r.p u)[cntU x u]?=some it:=by rw [EU ho hc h1];exact h2
 have tk:(Ak r.c r.p u).take (cntU x' u)=(Ak r.c r.p u).take (cntU x u)++[it]:=by rw [cu];exact Nf hit
 have tv:∀ v,v≠u->(Ak r.c r.p v).take (cntU x' v)=(Ak r.c r.p v).take (cntU x v):=fun v hv=>by rw [cv v hv]
 have rN:∀ v,v≠u->rcvN (Ak r.c r.p) (cntU x') v=rcvN (Ak r.c r.p) (cntU x) v:=fun v hv=>by unfold rcvN;rw [tv v hv]
 have sN:∀ v,v≠u->sndT ((Ak r.c r.p v).take (cntU x' v))=sndT ((Ak r.c r.p v).take (cntU x v)):=fun v hv=>by rw [tv v hv]
 have inj:∀ v,v<r.c.k->(v+1) % r.c.k=u->v=(u+r.c.k-1) % r.c.k:=fun v hv e=>by rw [<- e];exact ((around hv).2).symm
 rcases h6 with ⟨n3,n4,e1,_⟩ | ⟨k3,l,l',e1,e2,e3,_,e4,_⟩ | ⟨k4,l,l',v,q,e1,e2,e3,_,e4,_⟩
 . have sU:sndT ((Ak r.c r.p u).take (cntU x' u))=sndT ((Ak r.c r.p u).take (cntU x u)):=by rw [tk,D7,ER n3,Ag4]
   have rU:rcvN (Ak r.c r.p) (cntU x') u=rcvN (Ak r.c r.p) (cntU x) u:=by unfold rcvN;rw [tk,D8,El n4,Ag4]
   have sA:∀ v,sndT ((Ak r.c r.p v).take (cntU x' v))=sndT ((Ak r.c r.p v).take (cntU x v)):=fun v=>by
    by_cases e:v=u
    . rw [e];exact sU
    . exact sN v e
   have rA:∀ v,rcvN (Ak r.c r.p) (cntU x') v=rcvN (Ak r.c r.p) (cntU x) v:=fun v=>by
    by_cases e:v=u
    . rw [e];exact rU
    . exact rN v e
   refine ⟨fun v l hl=>?_,fun v hv=>?_⟩
   . rw [e1] at hl;rw [sA,rA];exact ht.q v l hl
   . unfold sndN;rw [sA,rA];exact ht.le v hv
 . have n4:it.kind≠4:=by omega
   have sU:sndT ((Ak r.c r.p u).take (cntU x' u))=sndT ((Ak r.c r.p u).take (cntU x u))++[tgOf it.a]:=by rw [tk,D7,Gy k3]
   have rU:rcvN (Ak r.c r.p) (cntU x') u=rcvN (Ak r.c r.p) (cntU x) u:=by unfold rcvN;rw [tk,D8,El n4,Ag4]
   have rA:∀ v,rcvN (Ak r.c r.p) (cntU x') v=rcvN (Ak r.c r.p) (cntU x) v:=fun v=>by
    by_cases e:v=u
    . rw [e];exact rU
    . exact rN v e
   refine ⟨fun v n hn=>?_,fun v hv=>?_⟩
   . rw [e2] at hn;rw [rA]
     by_cases e:u=v
     . subst e;rw [Ag1 (List.getElem?_eq_some_iff.1 e1).1] at hn;injection hn with hn
       subst hn;rw [e4,Ahf,ht.q u l e1,sU,Ahk (ht.le u hu)];rfl
     . rw [Ag5 e] at hn;rw [sN v (Ne.symm e)];exact ht.q v n hn
   . have:=ht.le v hv;unfold sndN at *;rw [rA]
     by_cases e:v=u
     . rw [e] at this ⊢;rw [sU,Ag0];omega
     . rw [sN v e];exact this
 . have n3:it.kind≠3:=by omega
   have sU:sndT ((Ak r.c r.p u).take (cntU x' u))=sndT ((Ak r.c r.p u).take (cntU x u)):=by rw [tk,D7,ER n3,Ag4]
   have rU:rcvN (Ak r.c r.p) (cntU x') u=rcvN (Ak r.c r.p) (cntU x) u+1:=by unfold rcvN;rw [tk,D8,F3 k4,Ag0];rfl
   have sA:∀ v,sndT ((Ak r.c r.p v).take (cntU x' v))=sndT ((Ak r.c r.p v).take (cntU x v)):=fun v=>by
    by_cases e:v=u
    . rw [e];exact sU
    . exact sN v e
   have hp:(u+r.c.k-1) % r.c.k<r.c.k:=Ahb _ (by omega);have hq:=ht.q _ l e1;rw [(around hu).1,e2] at hq;refine ⟨fun w n hn=>?_,fun w hw=>?_⟩
   . rw [e3] at hn;rw [sA]
     by_cases e:(u+r.c.k-1) % r.c.k=w
     . subst e;rw [Ag1 (List.getElem?_eq_some_iff.1 e1).1] at hn;injection hn with hn
       subst hn;rw [(around hu).1,rU,e4,<- List.drop_drop,List.drop_one,<- hq];rfl
     . rw [Ag5 e] at hn;have hw:w<r.c.k:=by rw [<- ho.ll];exact (List.getElem?_eq_some_iff.1 hn).1
       rw [rN _ (fun e5=>e (inj w hw e5).symm)];exact ht.q w n hn
   . have:=ht.le w hw;unfold sndN at *;rw [sA]
     by_cases e:(w+1) % r.c.k=u
     . rw [e,rU];have hw2:=inj w hw e;have:=congrArg Agy hq;rw [Agz,Ag8,Ahl] at this;rw [hw2];omega
     . rw [rN _ e];exact this
theorem Cj.tags {r:Rn} {x x':Wv} {z:Int} {b:Bool} (ho:x.Ok r) (h:Dt r x) (ht:Em r x) (hp:Cj r x z b x'):Em r x':=by
 rcases hp with ⟨_,rfl,_⟩ | ⟨_,_,u,_,hm⟩
 . exact ht
 . refine Moved.tags ho h ht ?_ hm;obtain ⟨m,m',it,h1,_⟩:=hm;have:=(List.getElem?_eq_some_iff.1 h1).1
   rwa [ho.lm] at this
theorem TF {r:Rn} {x:Wv} (ho:x.Ok r) (hc:Dt r x) (ht:Em r x) (hn:x.count≠totR r):∃ u,u<r.c.k/\¬ Stuck r x u:=by
 have hb:=Ir ho hc;have hne:¬ ∀ m∈x.ms,r.c.st<=m.t:=fun h=>hn (hb.2.2 h)
 obtain ⟨u,hu,hd⟩:∃ u,u<r.c.k/\cntU x u<(Ak r.c r.p u).length:=by
  refine Classical.byContradiction fun hno=>hne fun m hm=>?_;obtain ⟨u,hu⟩:=Ahg hm;have huk:u<r.c.k:=by rw [<- ho.lm];exact (List.getElem?_eq_some_iff.1 hu).1
  rcases Ag9 m.t r.c.st with h1 | h1
  . obtain ⟨k1,k2,k3,_⟩:=ho.m u m hu;obtain ⟨it,hit,_⟩:=k1.at_ (by rw [k3.c];exact h1);have:=EU ho hc hu;rw [hit] at this;exact absurd ⟨u,huk,(List.getElem?_eq_some_iff.1 this).1⟩ hno
  . exact h1
 obtain ⟨v,hv,hf⟩:=(Sync.all r.c r.p).free (cntU x) ⟨u,hu,hd⟩;exact ⟨v,hv,TE ho hc ht hv hf⟩
structure C7 (r:Rn) (x:Wv):Prop where
 ok:x.Ok r
 cnt:Dt r x
 tags:Em r x
theorem C7.pick {r:Rn} {x x':Wv} {z:Int} {b:Bool} (h:C7 r x) (hp:Cj r x z b x'):C7 r x':=⟨hp.ok h.ok,Cj.cnt h.ok h.cnt hp,Cj.tags h.ok h.cnt h.tags hp⟩
theorem C7.run {r:Rn}:∀ (zs:List Int) {x x':Wv} {n:Nat},C7 r x->RunR r x zs n x'->C7 r x'
 | [],x,x',n,h,hr=>by
   obtain ⟨_,rfl⟩:=hr;exact h
 | z::zs,x,x',n,h,⟨b,y,n',h1,h2,_⟩=>C7.run zs (h.pick h1) h2
theorem Ni {r:Rn} {u:Nat}:∀ (zs:List Int) {x x':Wv} {n:Nat},u<r.c.k->¬ Stuck r x u->(u:Int)∈zs->RunR r x zs n x'->1<=n
 | [],_,_,_,_,_,h,_=>by cases h
 | z::zs,x,x',n,hu,hs,hz,⟨b,y,n',h1,h2,h3⟩=>by
   cases b with
   | true=>rw [h3];simp
   | false =>
     rcases h1 with ⟨_,rfl,hno⟩ | ⟨hb,_⟩
     . rcases List.mem_cons.1 hz with hz | hz
       . rcases hno with h | h | ⟨v,hv,hst⟩
         . omega
         . omega
         . rw [hv] at hz;rw [show v=u by omega] at hst;exact absurd hst hs
       . have:=Ni zs hu hs hz h2;rw [h3];omega
     . cases hb
def turns (k n:Nat):List Int:=(List.range n).map fun i=>((i % k:Nat):Int)
theorem RunR.split {r:Rn}:∀ (ds bs:List Int) {x x':Wv} {n:Nat},RunR r x (ds++bs) n x'->∃ y n1 n2,RunR r x ds n1 y/\RunR r y bs n2 x'/\n=n1+n2
 | [],bs,x,x',n,h=>⟨x,0,n,⟨rfl,rfl⟩,h,by omega⟩
 | a::ds,bs,x,x',n,⟨b,y,n',h1,h2,h3⟩=>by
   obtain ⟨y2,n1,n2,h4,h5,h6⟩:=RunR.split ds bs h2;exact ⟨y2,n1+b.toNat,n2,⟨b,y,n1,h1,h4,rfl⟩,h5,by omega⟩
theorem TG (k c:Nat):turns k ((c+1)*k)=turns k (c*k)++turns k k:=by
 unfold turns;rw [Ahh,List.range_add,Ahf,List.map_map]
 congr 1
 refine List.map_congr_left fun i hi=>?_;have hi:=List.mem_range.1 hi;show (((c*k+i) % k:Nat):Int)=_;rw [Nat.mul_comm,Nat.mul_add_mod]
theorem Nj {r:Rn}:∀ (c:Nat) {x x':Wv} {n:Nat},C7 r x->RunR r x (turns r.c.k (c*r.c.k)) n x'->min c (totR r)<=x'.count
 | 0,x,x',n,_,_=>by omega
 | c+1,x,x',n,h,hr=>by
   have hk:=h.ok.c.k.1;rw [TG] at hr;obtain ⟨y,n1,n2,h1,h2,_⟩:=RunR.split _ _ hr;have ih:=Nj c h h1;have hy:=C7.run _ h h1;have hc2:=(RunR.count _ h2).1;have hb:=Ir hy.ok hy.cnt
   by_cases e:y.count=totR r
   . omega
   . obtain ⟨u,hu,hs⟩:=TF hy.ok hy.cnt hy.tags e;have:=Ni _ hu hs (List.mem_map.2 ⟨u,List.mem_range.2 hu,by rw [Nat.mod_eq_of_lt hu]⟩) h2;omega
theorem Mem.setPart {g i base e size n cap:Nat}:∀ (vs:List Value) {W:World} {L:List Ch} {o:Nat} {xs:List Value},Mem W L->L[i]?=some (.own base e size (Us (some ⟨g,0,none⟩) n cap) n xs) ->
  Mem (W.setCells g o vs) (L.set i (.own base e size (Us (some ⟨g,0,none⟩) n cap) n (setL xs o vs)))
 | [],W,L,o,xs,h,hi=>by rw [setL,Dv hi];exact h
 | v::l,W,L,o,xs,h,hi=>by
   have h1:=Mem.setPart l (o:=o+1) (h.setOwn (j:=o) hi v) (AU hi);rw [List.set_set] at h1;exact h1
section
variable {P:Program}
theorem TH (w:World) (b o:Nat) (ty:TypeId) (cs:List Value) (d:TypeDesc) (hc:∀ j v,cs[j]?=some v->w.cell? ⟨b,o+j,none⟩=some v)
  (hu:P.underlying ty=some d) (hd:(match d with | .struct _ | .array _ _=>true | _=>false)=true) (hi:(P.info? ty).map (·.size)=some cs.length) :
  (loadVar ty ⟨b,o,none⟩).run P w=.ok (.agg cs.toArray) w:=by
 have hl:=run_loadCells_list (P:=P) w ⟨b,o,none⟩ cs (fun j v hv=>by rw [Cg];exact hc j v hv)
 cases hq:P.info? ty with
 | none=>simp [hq] at hi
 | some i =>
   have hs:i.size=cs.length:=by simpa [hq] using hi
   have hagg:(isAgg ty).run P w=.ok true w:=by
    unfold isAgg;rw [Sem.run_bind,run_underlying hu w]
    cases d <;> simp_all
   simp [loadVar,Sem.run_bind,hagg,sizeOf,typeInfo,hq,hs,hl]
variable {ops:Array Oper} {rest:List Oper} {o:Oper} {a:Act} {w:World}
theorem Ea {Q:Act->Prop} (hgd:o.guard=none) (ty:TypeId) (x:Operand) (ho:o.op=.load ty x) (b off:Nat) (hx:a.eval x=.pointer (some ⟨b,off,none⟩)) (cs:List Value) (d:TypeDesc)
  (hu:P.underlying ty=some d) (hd:(match d with | .struct _ | .array _ _=>true | _=>false)=true) (hi:(P.info? ty).map (·.size)=some cs.length) (hc:∀ j v,cs[j]?=some v->w.cell? ⟨b,off+j,none⟩=some v)
  (h:wpStill P ops w Q rest (a.put o.dst (.agg cs.toArray))):wpStill P ops w Q (o::rest) a:=by
 refine wpStill_step fun K hK=>?_;have hw:Aht o (yielded ops a.tmps)=true:=by unfold Aht;rw [hgd]
 rw [if_pos hw];unfold Oper.still execOp;simp only [ho,hx,Instr.loadAt,Instr.sureAddr,Sem.run_bind,Sem.run_pure,Result.andThen_ok,TH w b off ty cs d hc hu hd hi,Oper.stillUpon,true_and];exact hK _ h
theorem Nk {g off:Nat} {base e size n cap:Nat}:∀ (vs:List Value) (i:Nat) (w:World) (xs:List Value),w.ownsRow base e size (Us (some ⟨g,0,none⟩) n cap) n xs->off+i+vs.length<=n*size->(∀ v∈vs,v.oneCell'=true) ->
  (storeCells ⟨g,off,none⟩ vs i).run P w=.ok () (w.setCells g (off+i) vs)
 | [],_,_,_,_,_,_=>rfl
 | v::rest,i,w,xs,hown,hfit,h1=>by
   have hlen:xs.length=n*size:=hown.1;have hi:off+i<xs.length:=by simp at hfit;omega
   have hcell:=(hown.cellAt (off+i) (by simp at hfit;omega)).trans (List.getElem?_eq_getElem hi)
   have hst:(store ((⟨g,off,none⟩:Addr).add i) v).run P w=.ok () (w.setCell ⟨g,off+i,none⟩ v):=by
    rw [Cg,run_store P w _ v _ (h1 v (by simp)),hcell];simp [hown.frozenAt (off+i)]
   have hf2:off+(i+1)+rest.length<=n*size:=by rw [Ahl] at hfit;omega
   have ih:=Nk (off:=off) rest (i+1) _ _ (hown.stored (off+i) v).1 hf2 (fun x hx=>h1 x (by simp [hx]));simp only [storeCells,Sem.run_bind,hst,Result.andThen_ok,World.setCells];exact ih
theorem JF {Q:Exit->Act->World->Prop} (hgd:o.guard=none) (ty:TypeId) (x y:Operand) (ho:o.op=.store ty x y) {L:List Ch} (HM:Mem w L) (k:Nat) {g base e size n cap:Nat} {xs:List Value}
  (hk:L[k]?=some (.own base e size (Us (some ⟨g,0,none⟩) n cap) n xs)) (off:Nat) (cells:Array Value) (hx:a.eval x=.pointer (some ⟨g,off,none⟩)) (hy:a.eval y=.agg cells) (hi:(P.info? ty).map (·.size)=some cells.size) (hfit:off+cells.toList.length<=n*size) (h1:cells.toList.all (·.oneCell')=true)
  (h:∀ W',Mem W' (L.set k (.own base e size (Us (some ⟨g,0,none⟩) n cap) n (setL xs off cells.toList)))->wpList P ops Q rest (a.put o.dst undef) W'):wpList P ops Q (o::rest) a w:=by
 have hrun:=Nk (P:=P) cells.toList 0 w xs (HM.own k hk) (by omega) (List.all_eq_true.1 h1)
 have hst:(storeVar ty ⟨g,off,none⟩ (.agg cells)).run P w=.ok () (w.setCells g off cells.toList):=by
  cases hq:P.info? ty with
  | none=>simp [hq] at hi
  | some i =>
    have hs:cells.size=i.size:=by simp [hq] at hi;omega
    rw [Aha] at hrun;simp [storeVar,sizeOf,typeInfo,hq,Value.cells,hs,hrun]
 refine wpList_plain hgd fun _ hK=>?_;unfold Oper.wp execOp;simp only [ho,hx,hy,Instr.storeAt,Instr.sureAddr,Sem.run_bind,Sem.run_pure,Result.andThen_ok,hst];exact hK _ _ (h _ (Mem.setPart _ HM hk))
end
theorem Mem.zeroFit {W:World} {L:List Ch} (h:Mem W L) {B:Nat} {w0:World} (h0:L[0]?=some (.bel B w0)) (n:Nat) (hn:n<=1048576) (i:Nat) {d:Ch} (hi:L[i]?=some d):∃ g,g=W.heap.size/\B<=g/\Mem (W.alloc (Ew n)) (L.set i (.rd (some ⟨g,0,none⟩) (zC (AE n)))):=by
 refine ⟨_,rfl,Nat.le_trans (h.holds 0 _ h0).2 (h.holds 0 _ h0).1.size,Mem.fit ?_ i hi⟩;have:=(h.zero n hn).freeze (i:=L.length) Bc
 rwa [Ahu _ _ (Agx _),Ahj] at this
theorem Mem.rowFit {W:World} {L:List Ch} (h:Mem W L) {B:Nat} {w0:World} (h0:L[0]?=some (.bel B w0)) (cs:Array Value) (t:TypeId) (i:Nat) {d:Ch} (hi:L[i]?=some d):∃ g,g=W.heap.size/\B<=g/\Mem (W.alloc (.cells cs t)) (L.set i (.rd (some ⟨g,0,none⟩) cs.toList)):=by
 refine ⟨_,rfl,Nat.le_trans (h.holds 0 _ h0).2 (h.holds 0 _ h0).1.size,Mem.fit ?_ i hi⟩;have h1:=h.alloc (.cells cs t);have:=h1.turn (c':=.rd (some ⟨W.heap.size,0,none⟩) cs.toList) Bc (h1.box L.length Bc) (fun k hk=>by obtain ⟨_,p,e,rfl⟩:=hk;cases e;rfl) trivial
 rwa [Ahu _ _ (Agx _),Ahj] at this
section
variable {P:Program} {fn:Func} {w:World}
theorem EV {p s:Tmp} {ty:TypeId} (h:fn.results=#[.cell p ty,.tmp s]) (tmps:Array Value) (g:Nat) (t:TypeId) (cs:Array Value) (d:TypeDesc) (v:Value) (hp:tmps.getD p undef=.pointer (some ⟨g,0,none⟩)) (hs:tmps.getD s undef=v)
  (hg:w.heap[g]?=some (.cells cs t (0,0))) (hu:P.underlying ty=some d) (hd:(match d with | .struct _ | .array _ _=>true | _=>false)=true) (hi:(P.info? ty).map (·.size)=some cs.size) :
  (results fn tmps).run P w=.ok (.tuple #[.agg cs,v]) w:=by
 have hp':tmps[p]?.getD undef=.pointer (some ⟨g,0,none⟩):=by simpa using hp
 have hs':tmps[s]?.getD undef=v:=by simpa using hs
 simp [results,h,hp',hs',asAddr,run_loadVar_row w g t ty cs (0,0) d hg hu hd hi]
theorem G3 {p1 p2 p3 s:Tmp} {ty1 ty2 ty3:TypeId} (h:fn.results=#[.cell p1 ty1,.cell p2 ty2,.cell p3 ty3,.tmp s]) (tmps:Array Value) (g1 g2 g3:Nat) (t1 t2 t3:TypeId) (c1 c2 c3:Array Value) (d1 d2 d3:TypeDesc) (v:Value)
  (hp1:tmps.getD p1 undef=.pointer (some ⟨g1,0,none⟩)) (hp2:tmps.getD p2 undef=.pointer (some ⟨g2,0,none⟩)) (hp3:tmps.getD p3 undef=.pointer (some ⟨g3,0,none⟩)) (hs:tmps.getD s undef=v)
  (hg1:w.heap[g1]?=some (.cells c1 t1 (0,0))) (hu1:P.underlying ty1=some d1) (hd1:(match d1 with | .struct _ | .array _ _=>true | _=>false)=true) (hi1:(P.info? ty1).map (·.size)=some c1.size)
  (hg2:w.heap[g2]?=some (.cells c2 t2 (0,0))) (hu2:P.underlying ty2=some d2) (hd2:(match d2 with | .struct _ | .array _ _=>true | _=>false)=true) (hi2:(P.info? ty2).map (·.size)=some c2.size)
  (hg3:w.heap[g3]?=some (.cells c3 t3 (0,0))) (hu3:P.underlying ty3=some d3) (hd3:(match d3 with | .struct _ | .array _ _=>true | _=>false)=true) (hi3:(P.info? ty3).map (·.size)=some c3.size) :
  (results fn tmps).run P w=.ok (.tuple #[.agg c1,.agg c2,.agg c3,v]) w:=by
 have hp1':tmps[p1]?.getD undef=.pointer (some ⟨g1,0,none⟩):=by simpa using hp1
 have hp2':tmps[p2]?.getD undef=.pointer (some ⟨g2,0,none⟩):=by simpa using hp2
 have hp3':tmps[p3]?.getD undef=.pointer (some ⟨g3,0,none⟩):=by simpa using hp3
 have hs':tmps[s]?.getD undef=v:=by simpa using hs
 simp [results,h,hp1',hp2',hp3',hs',asAddr,run_loadVar_row w g1 t1 ty1 c1 (0,0) d1 hg1 hu1 hd1 hi1,run_loadVar_row w g2 t2 ty2 c2 (0,0) d2 hg2 hu2 hd2 hi2,run_loadVar_row w g3 t3 ty3 c3 (0,0) d3 hg3 hu3 hd3 hi3]
end
end
section
def DM (r:Rn) (d:Nat->Nat) (u:Nat):Prop:=∃ x,(Ak r.c r.p u)[d u]?=some x/\(x.kind=3->sndN (Ak r.c r.p) d u<rcvN (Ak r.c r.p) d ((u+1) % r.c.k)+r.c.ca)/\(x.kind=4->rcvN (Ak r.c r.p) d u<sndN (Ak r.c r.p) d ((u+r.c.k-1) % r.c.k))
theorem DM.same {r:Rn} {d d':Nat->Nat} {u:Nat} (hu:u<r.c.k) (h:∀ v,v<r.c.k->d v=d' v) (hf:DM r d u):DM r d' u:=by
 obtain ⟨x,h1,h3,h4⟩:=hf;have e1:=h _ (Ahb (u+1) (show 0<r.c.k by omega));have e2:=h _ (Ahb (u+r.c.k-1) (show 0<r.c.k by omega));have e0:=h u hu;unfold sndN rcvN at h3 h4;rw [e0] at h1 h3 h4;rw [e1] at h3;rw [e2] at h4;exact ⟨x,h1,h3,h4⟩
theorem TI {r:Rn} {x:Wv} (ho:x.Ok r) (hc:Dt r x) (ht:Em r x) {u:Nat} (hu:u<r.c.k) (hst:Stuck r x u):¬ DM r (cntU x) u:=by
 rintro ⟨y,hy,h3,h4⟩;obtain ⟨m,hm,hs⟩:=hst;rw [EU ho hc hm] at hy
 rcases hs with h0 | ⟨it,hit,hs⟩
 . rw [h0] at hy;cases hy
 . rw [hit] at hy;injection hy with hy
   subst hy
   rcases hs with ⟨e,l,hl,hfull⟩ | ⟨e,l,hl,hno⟩
   . have hq:=congrArg Agy (ht.q u l hl);rw [Ag2,Agz] at hq;have h:=h3 e;have hcap:=(ho.l u l hl).2.1;have hle:=ht.le u hu;unfold sndN at h hle;omega
   . have h:=h4 e;have hq:=ht.q _ l hl;rw [(around hu).1] at hq;have hn:=JE (d:=cntU x) hu rfl (by rw [EU ho hc hm];exact hit) e h
     cases hlq:l.q with
     | nil =>
       rw [hlq] at hq;have:=congrArg Agy hq;rw [Agz] at this;unfold sndN at h;simp at this;omega
     | cons a q =>
       rw [hlq] at hq;have:=congrArg (fun l=>l[0]?) hq;simp only [Ag8,Ahr,Ahs,Aha] at this;rw [hn] at this;injection this with this
       obtain ⟨t,v⟩:=a;dsimp only at this;subst this;exact hno v q hlq
theorem TJ {r:Rn} {x x':Wv} (ho:x.Ok r) (hc:Dt r x) (ht:Em r x) {u:Nat} (hu:u<r.c.k) (h:Moved r x u x'):DM r (cntU x) u:=by
 obtain ⟨m,m',it,h1,h2,_,_,_,h6⟩:=h;refine ⟨it,(EU ho hc h1).trans h2,fun e=>?_,fun e=>?_⟩
 . rcases h6 with ⟨n3,_⟩ | ⟨_,l,l',hl,_,hlt,_⟩ | ⟨k4,_⟩
   . exact absurd e n3
   . have hq:=congrArg Agy (ht.q u l hl);rw [Ag2,Agz] at hq;have hcap:=(ho.l u l hl).2.1;have hle:=ht.le u hu;unfold sndN at *;omega
   . omega
 . rcases h6 with ⟨_,n4,_⟩ | ⟨k3,_⟩ | ⟨_,l,l',v,q,hl,hlq,_⟩
   . exact absurd e n4
   . omega
   . have hq:=congrArg Agy (ht.q _ l hl);rw [(around hu).1,hlq,Ag2,Agz,Ahl] at hq;unfold sndN;omega
def JG (r:Rn) (d:Nat->Nat) (z:Int) (d':Nat->Nat):Prop :=
 (d'=d/\(z<0\/(r.c.k:Int)<=z\/∃ u:Nat,z=u/\¬ DM r d u))\/∃ u:Nat,z=u/\u<r.c.k/\DM r d u/\d' u=d u+1/\∀ v,v≠u->d' v=d v
theorem TK {r:Rn} {x x':Wv} {z:Int} {b:Bool} {d d':Nat->Nat} (h:C7 r x) (hd:∀ v,v<r.c.k->d v=cntU x v) (hp:Cj r x z b x') (hq:JG r d z d'):∀ v,v<r.c.k->d' v=cntU x' v:=by
 rcases hp with ⟨_,rfl,hno⟩ | ⟨_,_,u,rfl,hm⟩
 . rcases hq with ⟨rfl,_⟩ | ⟨u,rfl,hu,hf,_⟩
   . exact hd
   . exfalso
     rcases hno with h1 | h1 | ⟨v,hv,hs⟩
     . omega
     . omega
     . have:v=u:=by omega
       subst this;exact TI h.ok h.cnt h.tags hu hs (hf.same hu hd)
 . have hu:u<r.c.k:=by
    obtain ⟨m,m',it,h1,_⟩:=hm;have:=(List.getElem?_eq_some_iff.1 h1).1
    rwa [h.ok.lm] at this
   have hfree:=TJ h.ok h.cnt h.tags hu hm
   rcases hq with ⟨rfl,hno⟩ | ⟨u',hz,hu',hf,e1,e2⟩
   . exfalso
     rcases hno with h1 | h1 | ⟨v,hv,hs⟩
     . omega
     . omega
     . have:v=u:=by omega
       subst this;exact hs (hfree.same hu fun v hv=>(hd v hv).symm)
   . have:u'=u:=by omega
     subst this;obtain ⟨m,m',it,h1,h2,h3,h4⟩:=hm.cnt1;obtain ⟨c1,c2⟩:=Nh h1 h3 h4;intro v hv
     by_cases e:v=u'
     . subst e;rw [e1,c1,hd v hv]
     . rw [e2 v e,c2 v e,hd v hv]
theorem TL {r:Rn} {x:Wv} (h:C7 r x) {w:Nat} {l:Ln} (hl:x.ls[w]?=some l):∃ rest,rcvT ((Ak r.c r.p ((w+1) % r.c.k)).drop (cntU x ((w+1) % r.c.k)))=l.q.map Prod.fst++rest:=by
 have hw:w<r.c.k:=by rw [<- h.ok.ll];exact (List.getElem?_eq_some_iff.1 hl).1
 have ht:=(Sync.all r.c r.p).tags _ hw;have hle:=h.tags.le w hw;rw [h.tags.q w l hl];refine ⟨sndT ((Ak r.c r.p w).drop (cntU x w)),?_⟩;rw [<- Ahk hle,<- D7,Ahc,ht];have e:rcvT (Ak r.c r.p ((w+1) % r.c.k))=rcvT ((Ak r.c r.p ((w+1) % r.c.k)).take (cntU x ((w+1) % r.c.k)))++rcvT ((Ak r.c r.p ((w+1) % r.c.k)).drop (cntU x ((w+1) % r.c.k))):=by rw [<- D8,Ahc]
 rw [e];unfold rcvN;rw [Ahk (Agx _),List.drop_length,List.nil_append]
def Ahead (I:List It) (T:List Tg) (i k:Nat):Prop:=k<=T.length/\∃ rest,rcvT (I.drop i)=T.drop k++rest
theorem Nl {I:List It} {i:Nat} {x:It} (h:I[i]?=some x):I.drop i=x::I.drop (i+1):=by
 rw [Ahi,h];rfl
theorem Ahead.pass {I:List It} {T:List Tg} {i k:Nat} {x:It} (h:Ahead I T i k) (hx:I[i]?=some x) (hk:x.kind≠4):Ahead I T (i+1) k:=by
 obtain ⟨h0,rest,h⟩:=h;refine ⟨h0,rest,?_⟩;rw [Nl hx,show x::I.drop (i+1)=[x]++I.drop (i+1) from rfl,D8,El hk] at h;exact h
theorem Ahead.hit {I:List It} {T:List Tg} {i k:Nat} {x:It} {t:Tg} (h:Ahead I T i k) (hx:I[i]?=some x) (hk:x.kind=4) (ht:T[k]?=some t):t=tgOf x.a/\Ahead I T (i+1) (k+1):=by
 obtain ⟨h0,rest,h⟩:=h;have hlt:=(List.getElem?_eq_some_iff.1 ht).1;rw [Nl hx,show x::I.drop (i+1)=[x]++I.drop (i+1) from rfl,D8,F3 hk,show T.drop k=t::T.drop (k+1) by rw [Ahi,ht];rfl] at h;injection h with h1 h2
 exact ⟨h1.symm,hlt,rest,h2⟩
theorem Ahead.full {I:List It} {T:List Tg} {i k:Nat} (h:Ahead I T i k) (hi:I.length<=i):k=T.length:=by
 obtain ⟨h0,rest,h⟩:=h;rw [List.drop_of_length_le hi] at h;have:=congrArg Agy h;rw [Ag0,Agz] at this;have h9:(rcvT ([]:List It)).length=0:=rfl;omega
end
end Go.Proofs.YtdpojpcoghcieaaGreat
