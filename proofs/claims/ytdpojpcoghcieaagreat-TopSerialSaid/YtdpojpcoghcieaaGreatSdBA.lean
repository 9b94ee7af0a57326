/- A part of the proof of TopSerial: RefSgd, RefSum, RefWts. Conditions: none. -/
import Derived.Test.YtdpojpcoghcieaaGreatSdAZ
set_option maxHeartbeats 8000000
namespace Go.Proofs.YtdpojpcoghcieaaGreat
open Lib renaming hid → K1
open List renaming filterMap_cons → p1, filterMap_nil → p2, getElem?_cons_zero → p3, getElem?_cons_succ → p4
open Go.RowKit
theorem run_make_i64 (n:Nat) (hn:n≤1048576) (W:World):(Instr.makeSlice 26 (.int .i64 (n:Int)) (.int .i64 (n:Int))).run Tryz.prog W=.ok (.slice (some ⟨W.heap.size,0,none⟩) n n) (W.alloc (zeroO n)):=by
 obtain ⟨i0,hi,hz0,hz1,hz2⟩:=info_parts infoCV
 have hr:=run_make (P:=Tryz.prog) W 26 2 i0 (.int .i64 0) Tryz.underlying26 hi hz0 .i64 .i64 n n (by omega) (by omega) (by rw [hz2];omega) (by omega)
 have e:zeroO n=.cells (madeCells #[.int .i64 0] n) 2 (0,0):=by rw [made_zero];rfl
 rw [e]
 simpa [hz1,Value.cells] using hr
set_option maxRecDepth 100000 in
theorem rstart_any (w:World) (A:Option Addr) (n cap:Nat) (zs:List Int) (hr:Rd w w.heap.size A (zC zs)) (hn:n≤1000) :
  Calls Tryz.prog 31 #[.slice A n cap] w fun e w'=>∃ g,e=.returned (.agg #[.slice A n cap,.slice (some ⟨g,0,none⟩) n n])∧w.heap.size≤g∧Rd w' w'.heap.size A (zC zs)∧Rd w' w'.heap.size (some ⟨g,0,none⟩) (zC (zeroL n))∧Below w.heap.size w w':=by
 have hmk:=run_make_i64 n (by omega)
 have hm:=(((Mem.start w).add_rd (i:=0) rfl hr).alloc (.cells #[.slice A n cap,.slice (some ⟨w.heap.size+1,0,none⟩) n n] 66)).zero n (by omega)
 simp only [World.size_alloc] at hm
 have HM:=K1 hm
 clear hr hm
 go_enter Tryz.func31,Tryz.ntmps31
 go_wp2_with fail
 have c2:=HM.out.cells 2 rfl
 have hz:=rd_of_own (HM.out.own 3 rfl)
 refine bodyPost_ret (v:=.agg #[.slice A n cap,.slice (some ⟨w.heap.size+1,0,none⟩) n n]) ?_ rfl ⟨w.heap.size+1,rfl,Nat.le_succ _,HM.out.rd 1 rfl,hz,HM.out.bel 0 rfl⟩
 simp [results,Tryz.results31,go_sem,c2]
def nxM (mo:Int) (q:Nat) (ms gs:List Int) (k:Nat):List Int:=(List.range k).map fun i=>wrap64 (mulF mo (ms[i]?.getD 0) q+gs[i]?.getD 0)
def nxP (ra mo:Int) (q:Nat) (ps ms gs:List Int) (k:Nat):List Int:=(List.range k).map fun i=>wrap64 (ps[i]?.getD 0-mulF ra (wrap64 (mulF mo (ms[i]?.getD 0) q+gs[i]?.getD 0)) q)
theorem nxM_succ {mo:Int} {q:Nat} {ms gs:List Int} {k:Nat} {x y:Int} (hx:ms[k]?=some x) (hy:gs[k]?=some y):nxM mo q ms gs (k+1)=nxM mo q ms gs k++[wrap64 (mulF mo x q+y)]:=by simp [nxM,List.range_succ,hx,hy]
theorem nxP_succ {ra mo:Int} {q:Nat} {ps ms gs:List Int} {k:Nat} {x y z:Int} (hx:ms[k]?=some x) (hy:gs[k]?=some y) (hz:ps[k]?=some z):nxP ra mo q ps ms gs (k+1)=nxP ra mo q ps ms gs k++[wrap64 (z-mulF ra (wrap64 (mulF mo x q+y)) q)]:=by simp [nxP,List.range_succ,hx,hy,hz]
theorem wrap64_b (x:Int):-9223372036854775808≤wrap64 x∧wrap64 x≤9223372036854775807:=by unfold wrap64;omega
set_option maxRecDepth 100000 in
theorem rnext13_any (w:World) (ra mo:Int) (q n cp cm cg:Nat) (Ap Am Ag:Option Addr) (ps ms gs:List Int) (hp:Rd w w.heap.size Ap (zC ps)) (hm:Rd w w.heap.size Am (zC ms)) (hg:Rd w w.heap.size Ag (zC gs)) (hl:ps.length=n∧ms.length=n∧gs.length=n) (hi:In64 ps∧In64 ms∧In64 gs) (hn:n≤1000)
  (hq:q≤62) (hra:-9223372036854775808≤ra∧ra≤9223372036854775807) (hmo:-9223372036854775808≤mo∧mo≤9223372036854775807) :
  Calls Tryz.prog 35 #[.agg #[.int .i64 ra,.int .i64 mo,.int .i64 q],.agg #[.slice Ap n cp,.slice Am n cm],.slice Ag n cg] w fun e w'=>∃ AP cP AM cM,e=.returned (.tuple #[.agg #[.slice AP n cP,.slice AM n cM],.bool true])∧n≤cP∧n≤cM ∧
   Mem w' [.bel w.heap.size w,vOwn w.heap.size n cP AP (nxP ra mo q ps ms gs n),vOwn w.heap.size n cM AM (nxM mo q ms gs n)]:=by
 have C1:=K1 (fun W x (hx:-9223372036854775808≤x∧x≤9223372036854775807)=>rmul_any W mo x q hq hmo hx)
 have C2:=K1 (fun W x (hx:-9223372036854775808≤x∧x≤9223372036854775807)=>rmul_any W ra x q hq hra hx)
 have hm0:=(((((((Mem.start w).add_rd (i:=0) rfl hp).add_rd (i:=0) rfl hm).add_rd (i:=0) rfl hg).alloc (.cells #[.int .i64 ra,.int .i64 mo,.int .i64 q] 111)).alloc (.cells #[.slice Ap n cp,.slice Am n cm] 66)).alloc (.cells #[.slice none 0 0,.slice none 0 0] 66)).alloc (.cells #[.slice none 0 0,.slice none 0 0] 66)
 simp only [World.size_alloc] at hm0
 have hm1:=(hm0.add (c:=.own w.heap.size 2 1 (.slice none 0 0) 0 (zC [])) ⟨own_nil _ _ _ _,(hm0.bel 0 rfl).size⟩ (fun _ _ _ _ g hg=>by cases hg)).add (c:=.own w.heap.size 2 1 (.slice none 0 0) 0 (zC [])) ⟨own_nil _ _ _ _,(hm0.bel 0 rfl).size⟩ (fun _ _ _ _ g hg=>by cases hg)
 have HM:=K1 hm1
 have HI:=K1 hi
 have HLN:=K1 hl
 obtain ⟨nMs,hnM⟩:∃ f:Nat→List Int,f=nxM mo q ms gs:=⟨_,rfl⟩
 obtain ⟨nPs,hnP⟩:∃ f:Nat→List Int,f=nxP ra mo q ps ms gs:=⟨_,rfl⟩
 have HM1:=K1 (show ∀ k x y,ms[k]?=some x→gs[k]?=some y→nMs (k+1)=nMs k++[wrap64 (mulF mo x q+y)] by intro k x y hx hy;rw [hnM];exact nxM_succ hx hy)
 have HP1:=K1 (show ∀ k x y z,ms[k]?=some x→gs[k]?=some y→ps[k]?=some z→nPs (k+1)=nPs k++[wrap64 (z-mulF ra (wrap64 (mulF mo x q+y)) q)] by intro k x y z hx hy hz;rw [hnP];exact nxP_succ hx hy hz)
 have H0:=K1 (show nMs 0=[]∧nPs 0=[] by rw [hnM,hnP];exact ⟨rfl,rfl⟩)
 rw [← hnM,← hnP]
 clear hm0 hm1 hp hm hg hl hi hnM hnP
 go_enter Tryz.func35,Tryz.ntmps35
 have c5:=HM.out.cells 5 rfl
 go_wp2_with fail
 clear c5
 generalize hg0:w.heap.size=g0 at *
 have HG0:=K1 hg0
 clear hg0
 go_loopw [9] (fun s9 wr=>∃ (k:Nat) (AP:Option Addr) (cP:Nat) (AM:Option Addr) (cM:Nat),k≤n∧s9=.int .i64 k∧Hid (Mem wr [.bel g0 w,.rd Ap (zC ps),.rd Am (zC ms),.rd Ag (zC gs),.obj g0 (.cells #[.int .i64 ra,.int .i64 mo,.int .i64 q] 111 (0,0)),.obj (g0+1) (.cells #[.slice Ap n cp,.slice Am n cm] 66 (0,0)),.obj (g0+1+1) (.cells #[.slice none 0 0,.slice none 0 0] 66 (0,0)),.obj (g0+1+1+1) (.cells #[.slice AP k cP,.slice AM k cM] 66 (0,0)),.own g0 2 1 (.slice AP k cP) k (zC (nPs k)),.own g0 2 1 (.slice AM k cM) k (zC (nMs k))])) (fun s9 _=>n-(intOf s9).toNat)
 case atStart=>exact ⟨0,none,0,none,0,Nat.zero_le _,rfl,K1 (by rw [H0.out.1,H0.out.2];exact HM.out)⟩
 case round =>
  clear HM
  obtain ⟨k,AP,cP,AM,cM,hk,rfl,HM⟩:=hrel
  by_cases hlt:k<n
  · obtain ⟨x,hx⟩:=get_some ms k (by have:=HLN.out;omega)
    obtain ⟨y,hy⟩:=get_some gs k (by have:=HLN.out;omega)
    obtain ⟨z,hz⟩:=get_some ps k (by have:=HLN.out;omega)
    have hxb:=HI.out.2.1 x (List.mem_of_getElem? hx)
    obtain ⟨m,hm⟩:∃ m,m=mulF mo x q:=⟨_,rfl⟩
    obtain ⟨mm,hmm⟩:∃ mm,mm=wrap64 (m+y):=⟨_,rfl⟩
    obtain ⟨rr,hrr⟩:∃ rr,rr=mulF ra mm q:=⟨_,rfl⟩
    obtain ⟨pp,hpp⟩:∃ pp,pp=wrap64 (z-rr):=⟨_,rfl⟩
    have hmb:-9223372036854775808≤mm∧mm≤9223372036854775807:=by rw [hmm];exact wrap64_b _
    have D1:=K1 (fun W=>C1.out W x hxb)
    have D2:=K1 (fun W=>C2.out W mm hmb)
    rw [← hm] at D1
    rw [← hrr] at D2
    have E1:=K1 (show nMs (k+1)=nMs k++[mm] by rw [HM1.out k x y hx hy,← hm,← hmm])
    have E2:=K1 (show nPs (k+1)=nPs k++[pp] by rw [HP1.out k x y z hx hy hz,← hm,← hmm,← hrr,← hpp])
    have hw1:wrap64 (m+y)=mm:=hmm.symm
    have hw2:wrap64 (z-rr)=pp:=hpp.symm
    have hw3:IntKind.i64.wrap (m+y)=mm:=by rw [hmm,IntKind.wrap_i64];unfold wrap64;omega
    have hw4:IntKind.i64.wrap (z-rr)=pp:=by rw [hpp,IntKind.wrap_i64];unfold wrap64;omega
    obtain ⟨bm,om,rfl⟩:=HM.out.rdA 2 rfl (by have:=HLN.out;simp;omega)
    obtain ⟨bg,og,rfl⟩:=HM.out.rdA 3 rfl (by have:=HLN.out;simp;omega)
    obtain ⟨bp,op,rfl⟩:=HM.out.rdA 1 rfl (by have:=HLN.out;simp;omega)
    have GM:=K1 (show (zC ms)[k]?=some (.int .i64 x) by simp [hx])
    have GG:=K1 (show (zC gs)[k]?=some (.int .i64 y) by simp [hy])
    have GP:=K1 (show (zC ps)[k]?=some (.int .i64 z) by simp [hz])
    clear hx hy hz hm hmm hrr hpp hxb
    go_wp2_with fail
    refine name_wp fun W0 hW=>?_
    replace HM:=K1 (hW.out.symm ▸ HM.out)
    clear hW
    refine wp_region_stage (.reads [0,1,2,3,4,5,6,7,8,10,11,12,13] (.eff 9 (.reads [14,15] (.fin)))) 16 (fun W'=>(∀ j,W'.cell? ⟨g0,j,none⟩=([.int .i64 ra,.int .i64 mo,.int .i64 q]:List Value)[j]?)∧(∀ j,W'.cell? ⟨g0+1,j,none⟩=([.slice (some ⟨bp,op,none⟩) n cp,.slice (some ⟨bm,om,none⟩) n cm]:List Value)[j]?)∧W'.cell? ⟨bm,om+k,none⟩=some (.int .i64 x)∧W'.cell? ⟨bg,og+k,none⟩=some (.int .i64 y))
     (by kernel_rfl) (by kernel_rfl) (by intro d v c a w h;cases d <;> exact h) ?_
    replace HM:=K1 HM.out.drew
    generalize W0.drew=V at *
    refine PlS.reads_ ⟨HM.out.cells 4 rfl,HM.out.cells 5 rfl,HM.out.rdAt 2 rfl GM.out,HM.out.rdAt 3 rfl GG.out⟩ (by kernel_rfl) ?_
    simp only [pickO,p1,p2,p3,p4]
    apply Exists.intro
    apply And.intro
    · intro W' hS
      obtain ⟨s0,s1,s2,s3⟩:=hS
      repeat still_step
      exact wpStill_nil rfl
    refine PlS.eff_ ?_
    simp only [pickO,p1,p2,p3,p4]
    go_wp2_with fail
    refine (D1.out _).mono ?_
    rintro e w2 ⟨rfl,rfl⟩
    clear D1
    go_wp2_with fail
    refine After.go ⟨HM.out.cells 4 rfl,HM.out.cells 5 rfl,HM.out.rdAt 2 rfl GM.out,HM.out.rdAt 3 rfl GG.out⟩ ?_
    refine PlS.reads_ ⟨HM.out.cells 4 rfl,HM.out.cells 5 rfl,HM.out.rdAt 2 rfl GM.out,HM.out.rdAt 3 rfl GG.out⟩ (by kernel_rfl) ?_
    simp only [pickO,p1,p2,p3,p4]
    apply Exists.intro
    apply And.intro
    · intro W' hS
      clear hS
      repeat still_step
      exact wpStill_nil rfl
    refine PlS.fin_ ?_
    have c7:=HM.out.cells 7 rfl
    have HM3:=K1 (HM.out.alloc (.cells #[.int .i64 mm] 2))
    go_wp2_with (at_builtin;refine wpList_append_mem (n:=k) rfl _ _ 26 rfl HM3.out 9 rowCL rfl rfl _ 1 _ [.int .i64 mm] rfl (HM3.out.box 10 rfl) rfl (by intro u hu;simp at hu;subst hu;rfl) (by omega) ?_;intro AM' cM' W4 hM4;clear c7;have HM5:=K1 (show Mem W4 [.bel g0 w,.rd (some ⟨bp,op,none⟩) (zC ps),.rd (some ⟨bm,om,none⟩) (zC ms),.rd (some ⟨bg,og,none⟩) (zC gs),.obj g0 (.cells #[.int .i64 ra,.int .i64 mo,.int .i64 q] 111 (0,0)),.obj (g0+1) (.cells #[.slice (some ⟨bp,op,none⟩) n cp,.slice (some ⟨bm,om,none⟩) n cm] 66 (0,0)),.obj (g0+1+1) (.cells #[.slice none 0 0,.slice none 0 0] 66 (0,0)),.obj (g0+1+1+1) (.cells #[.slice AP k cP,.slice AM k cM] 66 (0,0)),.own g0 2 1 (.slice AP k cP) k (zC (nPs k)),.own g0 2 1 (.slice AM' (k+1) cM') (k+1) (zC (nMs k)++[.int .i64 mm])] from hM4.front 10);clear hM4;have c7:=HM5.out.cells 7 rfl;have f7:=fun j=>HM5.out.frozen 7 j rfl)
    have HM6:=K1 (HM5.out.set (i:=7) (j:=1) rfl (.slice AM' (k+1) cM'))
    clear HM3 HM c7 f7 HM5
    have HM:=K1 HM6.out
    clear HM6
    refine name_wp fun W0 hW=>?_
    replace HM:=K1 (hW.out.symm ▸ HM.out)
    clear hW
    refine wp_region_stage (.reads [0,1,2,3,4,5,6,7,8,9,10,11] (.eff 12 (.reads [13] (.eff 14 (.eff 15 (.reads [16] (.eff 17 (.fin)))))))) 17 (fun W'=>(∀ j,W'.cell? ⟨g0+1+1+1,j,none⟩=([.slice AP k cP,.slice AM' (k+1) cM']:List Value)[j]?)∧(∀ j,W'.cell? ⟨g0,j,none⟩=([.int .i64 ra,.int .i64 mo,.int .i64 q]:List Value)[j]?)∧(∀ j,W'.cell? ⟨g0+1,j,none⟩=([.slice (some ⟨bp,op,none⟩) n cp,.slice (some ⟨bm,om,none⟩) n cm]:List Value)[j]?)∧W'.cell? ⟨bp,op+k,none⟩=some (.int .i64 z))
     (by kernel_rfl) (by kernel_rfl) (by intro d v c a w h;cases d <;> exact h) ?_
    replace HM:=K1 HM.out.drew
    generalize W0.drew=V at *
    refine PlS.reads_ ⟨HM.out.cells 7 rfl,HM.out.cells 4 rfl,HM.out.cells 5 rfl,HM.out.rdAt 1 rfl GP.out⟩ (by kernel_rfl) ?_
    simp only [pickO,p1,p2,p3,p4]
    apply Exists.intro
    apply And.intro
    · intro W' hS
      obtain ⟨s0,s1,s2,s3⟩:=hS
      repeat still_step
      exact wpStill_nil rfl
    refine PlS.eff_ ?_
    simp only [pickO,p1,p2,p3,p4]
    go_wp2_with fail
    refine (D2.out _).mono ?_
    rintro e w5 ⟨rfl,rfl⟩
    clear D2
    go_wp2_with fail
    refine After.go ⟨HM.out.cells 7 rfl,HM.out.cells 4 rfl,HM.out.cells 5 rfl,HM.out.rdAt 1 rfl GP.out⟩ ?_
    refine PlS.reads_ ⟨HM.out.cells 7 rfl,HM.out.cells 4 rfl,HM.out.cells 5 rfl,HM.out.rdAt 1 rfl GP.out⟩ (by kernel_rfl) ?_
    simp only [pickO,p1,p2,p3,p4]
    apply Exists.intro
    apply And.intro
    · intro W' hS
      clear hS
      repeat still_step
      exact wpStill_nil rfl
    refine PlS.eff_ ?_
    simp only [pickO,p1,p2,p3,p4]
    go_wp2_with fail
    refine name_after fun W7 hW=>?_
    replace HM:=K1 (HM.out.alloc_ hW.out)
    clear hW
    refine After.go ⟨HM.out.cells 7 rfl,HM.out.cells 4 rfl,HM.out.cells 5 rfl,HM.out.rdAt 1 rfl GP.out⟩ ?_
    refine PlS.eff_ ?_
    simp only [pickO,p1,p2,p3,p4]
    refine wpList_append_mem (n:=k) rfl _ _ 26 rfl HM.out 8 rowCL rfl rfl _ 1 _ [.int .i64 pp] rfl (HM.out.box 10 rfl) rfl (by intro u hu;simp at hu;subst hu;rfl) (by omega) ?_
    intro AP' cP' W8 hM8
    replace HM:=K1 (hM8.front 10)
    clear hM8
    go_wp2_with fail
    refine After.go ⟨HM.out.cells 7 rfl,HM.out.cells 4 rfl,HM.out.cells 5 rfl,HM.out.rdAt 1 rfl GP.out⟩ ?_
    refine PlS.reads_ ⟨HM.out.cells 7 rfl,HM.out.cells 4 rfl,HM.out.cells 5 rfl,HM.out.rdAt 1 rfl GP.out⟩ (by kernel_rfl) ?_
    simp only [pickO,p1,p2,p3,p4]
    apply Exists.intro
    apply And.intro
    · intro W' hS
      clear hS
      repeat still_step
      exact wpStill_nil rfl
    refine PlS.eff_ ?_
    simp only [pickO,p1,p2,p3,p4]
    have c7:=HM.out.cells 7 rfl
    have f7:=fun j=>HM.out.frozen 7 j rfl
    have HM6:=K1 (HM.out.set (i:=7) (j:=0) rfl (.slice AP' (k+1) cP'))
    go_wp2_with fail
    refine After.last (by decide) ?_
    refine PlS.fin_ ?_
    go_wp2_with fail
    clear c7 f7
    go_roundw
    case rel =>
     refine ⟨k+1,AP',cP',AM',cM',by omega,by go_num,K1 ?_⟩
     rw [E1.out,E2.out,show zC (nPs k++[pp])=zC (nPs k)++[.int .i64 pp] by simp,show zC (nMs k++[mm])=zC (nMs k)++[.int .i64 mm] by simp]
     exact HM6.out
    case measure=>simp [intOf];omega
  · have hkn:k=n:=by omega
    subst hkn
    have c7:=HM.out.cells 7 rfl
    have c6:=HM.out.cells 6 rfl
    have f6:=fun j=>HM.out.frozen 6 j rfl
    have HF:=K1 (HM.out.set2 (i:=6) rfl (.slice AP k cP) (.slice AM k cM))
    go_wp2_with fail
    clear c7 c6 f6
    have c6:=HF.out.cells 6 rfl
    have hpk:=HF.out.pick [0,8,9] [.bel g0 w,vOwn g0 k cP AP (nPs k),vOwn g0 k cM AM (nMs k)] rfl (by decide)
    rw [HG0.out]
    refine bodyPost_ret (v:=.tuple #[.agg #[.slice AP k cP,.slice AM k cM],.bool true]) ?_ rfl ⟨AP,cP,AM,cM,rfl,own_cap (hpk.own 1 rfl),own_cap (hpk.own 2 rfl),hpk⟩
    simp [results,Tryz.results35,go_sem,c6]
def sumTo (ls:List Ly) (n:Nat):Nat→List Int
 | 0=>zeroL n
 | m+1=>addTo 0 ((ls[m]?.map Ly.v).getD []) (sumTo ls n m) n
theorem sumTo_len (ls:List Ly) (n:Nat):∀ m,(sumTo ls n m).length=n
 | 0=>by simp [sumTo]
 | m+1=>by rw [sumTo,addTo_len,sumTo_len ls n m]
theorem Rd.at_cell {w:World} {B b off j:Nat} {vs:List Value} {u:Value} (h:Rd w B (some ⟨b,off,none⟩) vs) (hu:vs[j]?=some u):w.cell? ⟨b,off+j,none⟩=some u:=by
 obtain ⟨b',off',e,_,hc⟩:=h (by have:=(List.getElem?_eq_some_iff.1 hu).1;omega)
 injection e with e
 injection e with e1 e2
 subst e1
 subst e2
 exact hc j u hu
theorem Mem.fam_add {w:World} {L:List Ch} {l:List (Option Addr × List Value)} (h:Mem w L) (h0:L[0]?=some (.bel w.heap.size w)) (hf:∀ a∈l,Rd w w.heap.size a.1 a.2):Mem w (L++[famCh l]) :=
 h.more h0 (fun h=>h) (fam_local hf) (fun h=>h) (by
  rintro g ⟨a,ha,h0,p,hp,rfl⟩
  obtain ⟨b,off,e,hb,_⟩:=hf a ha h0
  rw [hp] at e
  injection e with e
  subst e
  exact hb)
set_option maxRecDepth 100000 in
theorem rsum_any (w:World) (A:Option Addr) (m cap n:Nat) (ls:List Ly) (hr:Rd w w.heap.size A (lyVals ls)) (hf:∀ a∈lyFam ls,Rd w w.heap.size a.1 a.2) (hm:ls.length=m) (hm1:1≤m∧m≤1000) (hn:∀ l∈ls,l.v.length=n) (hn1:n≤1000) :
  Calls Tryz.prog 71 #[.slice A m cap] w fun e w'=>∃ g,e=.returned (.tuple #[.slice (some ⟨g,0,none⟩) n n,.bool true])∧Mem w' [.bel w.heap.size w,vOwn w.heap.size n n (some ⟨g,0,none⟩) (sumTo ls n m)]:=by
 have hmk:=run_make_i64 n (by omega)
 have h0:=((Mem.start w).add_rd (i:=0) rfl hr).fam_add rfl hf
 have h1:=h0.zero n (by omega)
 have HM0:=K1 h0
 have HM:=K1 h1
 have HL:=K1 hm
 have HN:=K1 hn
 have HAT:=K1 (show ∀ (i:Nat) (l:Ly),ls[i]?=some l→(lyVals ls)[i]?=some (.slice l.A n l.c) by intro i l h;have:=hn l (List.mem_of_getElem? h);simp [lyVals,h,this])
 have HFA:=K1 (show ∀ (i:Nat) (l:Ly),ls[i]?=some l→(lyFam ls)[i]?=some (l.A,zC l.v) by intro i l h;simp [lyFam,h])
 obtain ⟨l0,hl0⟩:=get_some ls 0 (by omega)
 obtain ⟨b,o,rfl⟩:=HM.out.rdA 1 rfl (by simp [lyVals];omega)
 have HS1:=K1 (show ∀ (i:Nat) (l:Ly),ls[i]?=some l→sumTo ls n (i+1)=addTo 0 l.v (sumTo ls n i) n by intro i l h;rw [sumTo,h];rfl)
 have q0:=HM0.out.rdAt 1 rfl (HAT.out 0 l0 hl0)
 rw [Nat.add_zero] at q0
 have gm:((m:Int) == 0)=false:=beq_eq_false_iff_ne.2 (by omega)
 clear h0 h1 hr hf hm hn HM0 hl0
 go_enter Tryz.func71,Tryz.ntmps71
 go_wp2_with fail
 clear q0
 generalize hg0:w.heap.size=g0 at *
 have HG0:=K1 hg0
 clear hg0
 go_loopw [5] (fun s5 wr=>∃ (i:Nat),i≤m∧s5=.int .i64 i∧Hid (Mem wr [.bel g0 w,.rd (some ⟨b,o,none⟩) (lyVals ls),famCh (lyFam ls),.own g0 2 1 (.slice (some ⟨g0,0,none⟩) n n) n (zC (sumTo ls n i))])) (fun s5 _=>m-(intOf s5).toNat)
 case atStart=>exact ⟨0,Nat.zero_le _,rfl,HM⟩
 case round =>
  clear HM
  obtain ⟨i,hi,rfl,HM⟩:=hrel
  by_cases hlt:i<m
  · obtain ⟨l,hl⟩:=get_some ls i (by have:=HL.out;omega)
    have HV:=K1 (HN.out l (List.mem_of_getElem? hl))
    have q1:=HM.out.rdAt 1 rfl (HAT.out i l hl)
    have HA:=K1 (HAT.out i l hl)
    have HF:=K1 (HFA.out i l hl)
    have HS:=K1 (HS1.out i l hl)
    have HSL:=K1 (sumTo_len ls n i)
    clear hl
    obtain ⟨vA,vc,v⟩:=l
    dsimp only at *
    go_wp2_with fail
    clear q1
    generalize sumTo ls n i=s at *
    go_loopw [6] (fun s6 wr=>∃ (k:Nat),k≤n∧s6=.int .i64 k∧Hid (Mem wr [.bel g0 w,.rd (some ⟨b,o,none⟩) (lyVals ls),famCh (lyFam ls),.own g0 2 1 (.slice (some ⟨g0,0,none⟩) n n) n (zC (addTo 0 v s k))])) (fun s6 _=>n-(intOf s6).toNat)
    case atStart=>exact ⟨0,Nat.zero_le _,rfl,HM⟩
    case round =>
     clear HM
     obtain ⟨k,hk,rfl,HM⟩:=hrel
     by_cases hlk:k<n
     · obtain ⟨y,hy⟩:=get_some v k (by have:=HV.out;omega)
       obtain ⟨x,hx⟩:=get_some (addTo 0 v s k) k (by rw [addTo_len];have:=HSL.out;omega)
       obtain ⟨z,hz⟩:∃ z,z=wrap64 (x+y):=⟨_,rfl⟩
       have hw1:wrap64 (x+y)=z:=hz.symm
       have hw2:IntKind.i64.wrap (x+y)=z:=by rw [hz,IntKind.wrap_i64];unfold wrap64;omega
       have HE:=K1 (show zC (addTo 0 v s (k+1))=(zC (addTo 0 v s k)).set k (.int .i64 z) by rw [addTo,zC_set,Nat.zero_add,hx,hy,hz];rfl)
       have QX:=K1 (fun W (h:Mem W [.bel g0 w,.rd (some ⟨b,o,none⟩) (lyVals ls),famCh (lyFam ls),.own g0 2 1 (.slice (some ⟨g0,0,none⟩) n n) n (zC (addTo 0 v s k))])=>((h.own 3 rfl).cellAt k (by omega)).trans (zC_at hx))
       have hrd:=HM.out.st 2 rfl (vA,zC v) (List.mem_of_getElem? HF.out)
       obtain ⟨bv,ov,rfl,_,_⟩:=hrd (by simp;have:=HV.out;omega)
       have QY:=K1 (fun W (h:Mem W [.bel g0 w,.rd (some ⟨b,o,none⟩) (lyVals ls),famCh (lyFam ls),.own g0 2 1 (.slice (some ⟨g0,0,none⟩) n n) n (zC (addTo 0 v s k))])=>(h.st 2 rfl (some ⟨bv,ov,none⟩,zC v) (List.mem_of_getElem? HF.out)).at_cell (zC_at hy))
       clear hx hy hz
       go_wp2_with fail
       refine name_wp fun W0 hW=>?_
       replace HM:=K1 (hW.out.symm ▸ HM.out)
       clear hW
       refine wp_region_stage (.reads [0,1,2,3,4,5,6,7,8,9,10,11,12,13,14] (.eff 15 (.fin))) 15 (fun W'=>W'.cell? ⟨g0,k,none⟩=some (.int .i64 x)∧W'.cell? ⟨b,o+i,none⟩=some (.slice (some ⟨bv,ov,none⟩) n vc)∧W'.cell? ⟨bv,ov+k,none⟩=some (.int .i64 y))
        (by kernel_rfl) (by kernel_rfl) (by intro d v c a w h;cases d <;> exact h) ?_
       replace HM:=K1 HM.out.drew
       generalize W0.drew=V at *
       refine PlS.reads_ ⟨QX.out _ HM.out,HM.out.rdAt 1 rfl HA.out,QY.out _ HM.out⟩ (by kernel_rfl) ?_
       simp only [pickO,p1,p2,p3,p4]
       apply Exists.intro
       apply And.intro
       · intro W' hS
         obtain ⟨s0,s1,s2⟩:=hS
         repeat still_step
         exact wpStill_nil rfl
       refine PlS.eff_ ?_
       simp only [pickO,p1,p2,p3,p4]
       have qx:=QX.out _ HM.out
       have kf:=HM.out.ownF 3 rfl
       have hm2:=HM.out.setOwn (i:=3) (j:=k) rfl (.int .i64 z)
       have HM2:=K1 (show Mem _ [.bel g0 w,.rd (some ⟨b,o,none⟩) (lyVals ls),famCh (lyFam ls),.own g0 2 1 (.slice (some ⟨g0,0,none⟩) n n) n (zC (addTo 0 v s (k+1)))] by rw [HE.out];exact hm2)
       clear hm2
       go_wp2_with fail
       refine After.last (by decide) ?_
       refine PlS.fin_ ?_
       clear qx kf
       go_wp2_with fail
       go_roundw
       case rel=>exact ⟨k+1,by omega,by go_num,HM2⟩
       case measure=>simp [intOf];omega
     · have hkn:n=k:=by omega
       subst hkn
       go_wp2_with fail
       go_roundw
       case rel=>exact ⟨i+1,by omega,by go_num,K1 (by rw [HS.out];exact HM.out)⟩
       case measure=>simp [intOf];omega
  · have hin:m=i:=by omega
    subst hin
    go_wp2_with fail
    go_ret2
    rw [HG0.out]
    exact ⟨g0,rfl,HM.out.pick [0,3] [.bel g0 w,vOwn g0 n n (some ⟨g0,0,none⟩) (sumTo ls n m)] rfl (by decide)⟩
theorem rdI_take {w:World} {B:Nat} {A:Option Addr} {zs:List Int} (h:RdI w B A zs) (n:Nat):RdI w B A (zs.take n):=fun h0=>by
 obtain ⟨b,off,e,hb,hc⟩:=h (by simp at h0 ⊢;omega)
 refine ⟨b,off,e,hb,fun j u hu=>hc j u ?_⟩
 rw [List.getElem?_map,List.getElem?_take] at hu
 split at hu
 · rw [List.getElem?_map];exact hu
 · cases hu
theorem blk_keep {W w':World} {g:Nat} {o:Obj} (h:W.heap[g]?=some o) (hb:Below W.heap.size W w'):w'.heap[g]?=some o:=blk_below h hb (blk_lt h)
theorem NsOk.okSz {ns:List Nat} (h:NsOk ns) (n:Nat):((castL ns).take n).all okSz=true:=by
 refine List.all_eq_true.2 fun z hz=>okSz_iff.2 ?_
 obtain ⟨x,hx,rfl⟩:=List.mem_map.1 (List.mem_of_mem_take hz)
 have h1:=h.pos x hx
 obtain ⟨i,hi,rfl⟩:=List.mem_iff_getElem.1 hx
 by_cases hl:i<ns.length-1
 · obtain ⟨a,b,ha,_,_,_,_,_,h3,_⟩:=h.at_ hl
   rw [List.getElem?_eq_getElem hi] at ha
   injection ha with ha
   omega
 · have h2:=h.len
   obtain ⟨a,b,_,hb,_,_,_,_,_,h3,_⟩:=h.at_ (k:=i-1) (by omega)
   rw [show i-1+1=i by omega,List.getElem?_eq_getElem hi] at hb
   injection hb with hb
   omega
theorem cnt_take {ns:List Nat} {k:Nat} (hk:k<ns.length):cnt ((castL ns).take (k+1))=(offN ns k:Int):=lo_nat ns k hk
theorem take_castL {ns:List Nat} {k:Nat} (hk:k≤ns.length):((castL ns).take k).length=k:=by simp;omega
set_option maxRecDepth 100000 in
theorem rwts_any (w:World) (A:Option Addr) (m cs k:Nat) (ns:List Nat) (hr:Rd w w.heap.size A (zC (castL ns))) (hn:NsOk ns) (hm:ns.length=m) (hcs:m≤cs) (hk:k<m-1) :
  Calls Tryz.prog 161 #[.slice A m cs,.int .i64 k] w fun e w'=>e=.returned (.agg #[.int .i64 (offN ns k),.int .i64 (midN ns k)])∧Below w.heap.size w w':=by
 have HB0:=K1 ((Below.refl w.heap.size w).alloc (Nat.le_refl _) (.cells #[.int .i64 0,.int .i64 0] 72))
 have HF:=K1 (heap_alloc_new w (.cells #[.int .i64 0,.int .i64 0] 72))
 have h16:=hn.len
 obtain ⟨a,a',ha,ha',h1a,h1b,e1,e2,h3a,h3b,h4⟩:=hn.at_ (k:=k) (by omega)
 have h5:=hn.few
 obtain ⟨b,off,rfl,hb,hcs'⟩:=RdI.at_ (zs:=castL ns) hr (by simp;omega)
 have f1:=hcs' k _ (castL_at ha)
 have f2:=hcs' (k+1) _ (castL_at ha')
 have hC:=fun W (hW:Below w.heap.size w W)=>refCount_any (some ⟨b,off,none⟩) cs ((castL ns).take (k+1)) W (rdI_take (RdI.more (RdI.below hr hW) hW.size) _) (by rw [take_castL (by omega)];omega) (hn.okSz _)
 rw [take_castL (by omega),cnt_take (by omega)] at hC
 have hp:a*a'=midN ns k-offN ns k:=by rw [e1,Nat.mul_comm];omega
 have hML:offN ns k≤midN ns k∧midN ns k≤1000:=by omega
 generalize midN ns k=M at *
 generalize offN ns k=L at *
 obtain ⟨p,hp'⟩:∃ p,a*a'=p:=⟨_,rfl⟩
 have m1:IntKind.i64.wrap ((a:Int)*(a':Int))=(p:Int):=by rw [← Int.natCast_mul,hp'];exact IntWalk.i64_in _ (by omega)
 have m2:IntKind.i64.wrap ((L:Int)+(p:Int))=(M:Int):=by rw [show (L:Int)+(p:Int)=(M:Int) by omega];exact IntWalk.i64_in _ (by omega)
 have p1:IntKind.i64.wrap ((k:Int)+1)=(k:Int)+1:=IntWalk.i64_in _ (by omega)
 have p2:((k:Int)+1).toNat=k+1:=by omega
 have HC:=K1 hC
 have hn0:¬ (k:Int)<0:=by omega
 have hn1:(k:Int)<(m:Int)-1:=by omega
 have hn5:(0:Int)≤(k:Int):=by omega
 have hcap2:(k:Int)+1≤(cs:Int):=by omega
 have hlen2:(k:Int)+1<(m:Int):=by omega
 have hlen3:(k:Int)<(m:Int):=by omega
 have hcp:(m:Int)≤(cs:Int):=by omega
 have hm16:(m:Int)≤16:=by omega
 have p3:(0:Int)≤(k:Int)+1:=by omega
 have HCF:=K1 (fun W (hW:Below w.heap.size w W)=>And.intro ((hW.cell (p:=⟨b,off+k,none⟩) hb).trans f1) ((hW.cell (p:=⟨b,off+(k+1),none⟩) hb).trans f2))
 clear hr hcs' f1 f2 hC hk hn hcs e1 e2 h3a h3b h4 h5 ha ha' hp hp' hm hML h16
 go_enter Tryz.func161,Tryz.ntmps161
 go_wp2_with fail
 (with_reducible refine (HC.out _ HB0.out).mono ?_)
 rintro e w1 ⟨rfl,q,rfl⟩
 obtain ⟨w1,hw1⟩:∃ W,(w.alloc (.cells #[.int .i64 0,.int .i64 0] 72)).drewN q=W:=⟨_,rfl⟩
 have HB1:=K1 (show Below w.heap.size w w1 from hw1 ▸ below_drewN HB0.out q)
 have HF1:=K1 (show w1.heap[w.heap.size]?=some (.cells #[.int .i64 0,.int .i64 0] 72 (0,0)) from hw1 ▸ blk_drewN HF.out q)
 rw [hw1]
 have F0:=blk_cell HF1.out 0
 have F1:=blk_cell HF1.out 1
 have Z0:=blk_frozen HF1.out 0
 have Z1:=blk_frozen HF1.out 1
 have hbl:w.heap.size<w1.heap.size:=blk_lt HF1.out
 clear hw1 HC HF HB0
 go_wp2_with fail
 go_region_held3 (fun w'=>w'.cell? ⟨b,off+k,none⟩=some (.int .i64 a)∧w'.cell? ⟨b,off+(k+1),none⟩=some (.int .i64 a'))
  (first
   | exact HCF.out _ ((below_drew HB1.out).setCell (p:=⟨w.heap.size,0,none⟩) (Nat.le_refl _) _ |>.setCell (p:=⟨w.heap.size,1,none⟩) (Nat.le_refl _) _)
   | exact HCF.out _ (below_drew HB1.out)
   | exact HCF.out _ HB1.out)
  (fail)
 have K:=blk_set (blk_set HF1.out 0 (.int .i64 (L:Int))) 1 (.int .i64 (M:Int))
 have K0:=blk_cell K 0
 have Kb:=blk_cell K 1
 have HB3:=K1 (below_drew ((HB1.out.setCell (p:=⟨w.heap.size,0,none⟩) (Nat.le_refl _) (.int .i64 (L:Int))).setCell (p:=⟨w.heap.size,1,none⟩) (Nat.le_refl _) (.int .i64 (M:Int))))
 clear F0 F1 Z0 Z1 K
 go_wp2_with fail
 refine bodyPost_ret (v:=.agg #[.int .i64 L,.int .i64 M]) ?_ rfl ⟨rfl,HB3.out⟩
 simp [results,Tryz.results161,go_sem,K0,Kb]
set_option maxRecDepth 100000 in
theorem rbias_r_any (w:World) (A:Option Addr) (m cs k:Nat) (ns:List Nat) (hr:Rd w w.heap.size A (zC (castL ns))) (hn:NsOk ns) (hm:ns.length=m) (hcs:m≤cs) (hk:k<m-1) :
  Calls Tryz.prog 169 #[.slice A m cs,.int .i64 k] w fun e w'=>e=.returned (.agg #[.int .i64 (midN ns k),.int .i64 (offN ns (k+1))])∧Below w.heap.size w w':=by
 have HB0:=K1 ((Below.refl w.heap.size w).alloc (Nat.le_refl _) (.cells #[.int .i64 0,.int .i64 0] 72))
 have HF:=K1 (heap_alloc_new w (.cells #[.int .i64 0,.int .i64 0] 72))
 have h16:=hn.len
 have hW:=fun W (hW:Below w.heap.size w W)=>rwts_any W A m cs k ns (Rd.more (Rd.below hr hW) hW.size) hn hm hcs hk
 obtain ⟨b,off,rfl,hb,hcs'⟩:=RdI.at_ (zs:=castL ns) hr (by simp;omega)
 have hC:=fun W (hW:Below w.heap.size w W)=>refCount_any (some ⟨b,off,none⟩) cs ((castL ns).take (k+2)) W (rdI_take (RdI.more (RdI.below hr hW) hW.size) _) (by rw [take_castL (by omega)];omega) (hn.okSz _)
 rw [take_castL (by omega),cnt_take (k:=k+1) (by omega)] at hC
 generalize midN ns k=M at *
 generalize offN ns (k+1)=L1 at *
 generalize offN ns k=L at *
 have hfd:∀ w:World,(Instr.field 72 (.agg #[.int .i64 (L:Int),.int .i64 (M:Int)]) 1).run Tryz.prog w=.ok (.int .i64 (M:Int)) w:=fun _=>by kernel_rfl
 have p1:IntKind.i64.wrap ((k:Int)+2)=(k:Int)+2:=IntWalk.i64_in _ (by omega)
 have p2:((k:Int)+2).toNat=k+2:=by omega
 have HC:=K1 hC
 have HW:=K1 hW
 have hn0:¬ (k:Int)<0:=by omega
 have hn1:(k:Int)<(m:Int)-1:=by omega
 have hn5:(0:Int)≤(k:Int):=by omega
 have hcap2:(k:Int)+2≤(cs:Int):=by omega
 have p3:(0:Int)≤(k:Int)+2:=by omega
 have hcp:(m:Int)≤(cs:Int):=by omega
 have hm16:(m:Int)≤16:=by omega
 clear hr hcs' hC hW hk hn hcs hm h16
 go_enter Tryz.func169,Tryz.ntmps169
 go_wp2_with fail
 go_region_held3 (fun _=>True) (trivial)
  (first
   | (go_at_call 161
      (with_reducible refine (HW.out _ (below_drew HB0.out)).mono ?_)
      rintro e w1 ⟨rfl,hb1⟩
      have HB1:=K1 ((below_drew HB0.out).trans (hb1.mono HB0.out.size))
      have HF1:=K1 (blk_keep (blk_drew HF.out) hb1)
      clear hb1 HB0 HF HW)
   | (go_at_call 55
      (with_reducible refine (HC.out _ HB1.out).mono ?_)
      rintro e w2 ⟨rfl,q,rfl⟩
      have F0:=blk_cell HF1.out 0
      have F1:=blk_cell HF1.out 1
      have Z0:=blk_frozen HF1.out 0
      have Z1:=blk_frozen HF1.out 1
      have hbl:w.heap.size<w1.heap.size:=blk_lt HF1.out
      clear HC))
 have K:=blk_set (blk_set (blk_drewN HF1.out q) 0 (.int .i64 (M:Int))) 1 (.int .i64 (L1:Int))
 have K0:=blk_cell K 0
 have Kb:=blk_cell K 1
 have HB3:=K1 (((below_drewN HB1.out q).setCell (p:=⟨w.heap.size,0,none⟩) (Nat.le_refl _) (.int .i64 (M:Int))).setCell (p:=⟨w.heap.size,1,none⟩) (Nat.le_refl _) (.int .i64 (L1:Int)))
 clear F0 F1 Z0 Z1 K
 go_wp2_with fail
 refine bodyPost_ret (v:=.agg #[.int .i64 M,.int .i64 L1]) ?_ rfl ⟨rfl,HB3.out⟩
 simp [results,Tryz.results169,go_sem,K0,Kb]
end Go.Proofs.YtdpojpcoghcieaaGreat
