/- A part of the proof of TopSerial: MachNext, MachSend, MachRecv, Delete. Conditions: none. -/
import Derived.Test.YtdpojpcoghcieaaGreatSdAZ
set_option maxHeartbeats 8000000
namespace Go.Proofs.YtdpojpcoghcieaaGreat
open Lib renaming hid → K1
open List renaming filterMap_cons → p1, filterMap_nil → p2, getElem?_cons_zero → p3, getElem?_cons_succ → p4
open Go.RowKit
def itAt (W:World) (b o:Nat) (x:It):Prop:=W.cell? ⟨b,o,none⟩=some (.int .i64 x.kind)∧W.cell? ⟨b,o+1,none⟩=some (.int .i64 x.step)∧W.cell? ⟨b,o+2,none⟩=some (.int .i64 x.n)∧W.cell? ⟨b,o+3,none⟩=some (.bool x.a.send)∧W.cell? ⟨b,o+4,none⟩=some (.bool x.a.add)∧W.cell? ⟨b,o+5,none⟩=some (.int .i64 x.a.step)∧W.cell? ⟨b,o+6,none⟩=some (.int .i64 x.a.bucket)∧W.cell? ⟨b,o+7,none⟩=some (.int .i64 x.a.phase)∧W.cell? ⟨b,o+8,none⟩=some (.int .i64 x.a.round)∧W.cell? ⟨b,o+9,none⟩=some (.int .i64 x.a.chunk)∧W.cell? ⟨b,o+10,none⟩=some (.int .i64 x.a.lo)∧W.cell? ⟨b,o+11,none⟩=some (.int .i64 x.a.hi)
theorem itAt_of {W:World} {B b o k:Nat} {l:List It} {x:It} (h:Rd W B (some ⟨b,o,none⟩) (icells l)) (hx:l[k]?=some x):itAt W b (o+k*12) x:=by
 have hl:0<(icells l).length:=by
  have:=(List.getElem?_eq_some_iff.1 hx).1
  unfold icells
  rw [flat_len It.cells 12 (fun _=>rfl)];omega
 obtain ⟨b',o',e,_,hc⟩:=h hl
 injection e with e
 injection e with e1 e2
 subst e1;subst e2
 have key:∀ i u,x.cells[i]?=some u→W.cell? ⟨b,o+k*12+i,none⟩=some u:=fun i u hu=>by
  rw [Nat.add_assoc];exact hc _ _ (flat_at It.cells 12 (fun _=>rfl) l k x hx i u hu)
 exact ⟨key 0 _ rfl,key 1 _ rfl,key 2 _ rfl,key 3 _ rfl,key 4 _ rfl,key 5 _ rfl,key 6 _ rfl,key 7 _ rfl,key 8 _ rfl,key 9 _ rfl,key 10 _ rfl,key 11 _ rfl⟩
def itZero:List Value:=[.int .i64 0,.int .i64 0,.int .i64 0,.bool false,.bool false,.int .i64 0,.int .i64 0,.int .i64 0,.int .i64 0,.int .i64 0,.int .i64 0,.int .i64 0]
set_option maxRecDepth 100000 in
theorem mnext_any (w:World) (m:Mc) (R:List Ch) (h:Mem w (m.ps++R)) (x:It) (hx:m.its[m.next]?=some x) (hb:m.its.length≤1000000000) :
  Calls Tryz.prog 196 #[.pointer (some ⟨m.f.g,0,none⟩)] w fun e w'=>e=.returned (.tuple #[.agg x.cells.toArray,.bool true])∧Below w.heap.size w w':=by
 have hn:=(List.getElem?_eq_some_iff.1 hx).1
 have hnl:¬ m.its.length≤m.next:=by omega
 have hnb:m.next≤1000000000:=by omega
 obtain ⟨b,o,hA,_,_⟩:=(h.rd 6 rfl) (by unfold icells;rw [flat_len It.cells 12 (fun _=>rfl)];omega)
 have HS:=K1 (show ∀ (W:World),Below w.heap.size w W→W.cell? ⟨m.f.g,15,none⟩=some (.slice (some ⟨b,o,none⟩) m.its.length m.ci)∧W.cell? ⟨m.f.g,16,none⟩=some (.int .i64 m.next)∧itAt W b (o+m.next*12) x from fun W hb=>by
  have h':=h.below hb
  have hr:=h'.rd 6 rfl
  rw [hA] at hr
  refine ⟨?_,(blk_cells (h'.obj 0 rfl) 16),itAt_of hr hx⟩
  rw [← hA];exact blk_cells (h'.obj 0 rfl) 15)
 dsimp only [itAt] at HS
 have HM:=K1 ((Mem.start w).alloc (.cells itZero.toArray 146))
 obtain ⟨kd,st,n,⟨asn,aa,t1,t2,t3,t4,t5,lo,hi⟩⟩:=x
 dsimp only [It.cells,Ac.cells,itZero] at *
 simp only [List.cons_append,List.nil_append]
 generalize m.its.length=len at *
 generalize m.next=nx at *
 clear h hx hA
 go_enter Tryz.func196,Tryz.ntmps196
 go_wp2_with fail
 refine name_wp fun W0 hW=>?_
 replace HM:=K1 (hW.out.symm ▸ HM.out)
 clear hW
 refine wp_region_stage (.reads [0,1,2,3,4,5,6,7,8,9,10,11,12,13] .fin) 14 (fun W'=>W'.cell? ⟨m.f.g,15,none⟩=some (.slice (some ⟨b,o,none⟩) len m.ci)∧W'.cell? ⟨m.f.g,16,none⟩=some (.int .i64 nx)∧W'.cell? ⟨b,o+nx*12,none⟩=some (.int .i64 kd)∧W'.cell? ⟨b,o+nx*12+1,none⟩=some (.int .i64 st)∧W'.cell? ⟨b,o+nx*12+2,none⟩=some (.int .i64 n)∧W'.cell? ⟨b,o+nx*12+3,none⟩=some (.bool asn)∧W'.cell? ⟨b,o+nx*12+4,none⟩=some (.bool aa)∧W'.cell? ⟨b,o+nx*12+5,none⟩=some (.int .i64 t1)∧W'.cell? ⟨b,o+nx*12+6,none⟩=some (.int .i64 t2)∧W'.cell? ⟨b,o+nx*12+7,none⟩=some (.int .i64 t3)∧W'.cell? ⟨b,o+nx*12+8,none⟩=some (.int .i64 t4)∧W'.cell? ⟨b,o+nx*12+9,none⟩=some (.int .i64 t5)∧W'.cell? ⟨b,o+nx*12+10,none⟩=some (.int .i64 lo)∧W'.cell? ⟨b,o+nx*12+11,none⟩=some (.int .i64 hi))
  (by kernel_rfl) (by kernel_rfl) (by intro d v c a w h;cases d <;> exact h) ?_
 replace HM:=K1 HM.out.drew
 generalize W0.drew=V at *
 refine PlS.reads_ (HS.out _ (HM.out.bel 0 rfl)) (by kernel_rfl) ?_
 simp only [pickO,p1,p2,p3,p4]
 apply Exists.intro
 apply And.intro
 · intro W' hS
   obtain ⟨s1,s2,q0,q1,q2,q3,q4,q5,q6,q7,q8,q9,q10,q11⟩:=hS
   repeat still_step
   exact wpStill_nil rfl
 refine PlS.fin_ ?_
 go_wp2_with fail
 refine name_wp fun W1 hW=>?_
 replace HM:=K1 (hW.out.symm ▸ HM.out)
 clear hW
 refine wp_region_stage (.reads [0,1,2,3,4,5,6,7,8,9] (.eff 10 (.reads [11] .fin))) 12 (fun W'=>W'.cell? ⟨m.f.g,15,none⟩=some (.slice (some ⟨b,o,none⟩) len m.ci)∧W'.cell? ⟨m.f.g,16,none⟩=some (.int .i64 nx)∧W'.cell? ⟨b,o+nx*12,none⟩=some (.int .i64 kd)∧W'.cell? ⟨b,o+nx*12+1,none⟩=some (.int .i64 st)∧W'.cell? ⟨b,o+nx*12+2,none⟩=some (.int .i64 n)∧W'.cell? ⟨b,o+nx*12+3,none⟩=some (.bool asn)∧W'.cell? ⟨b,o+nx*12+4,none⟩=some (.bool aa)∧W'.cell? ⟨b,o+nx*12+5,none⟩=some (.int .i64 t1)∧W'.cell? ⟨b,o+nx*12+6,none⟩=some (.int .i64 t2)∧W'.cell? ⟨b,o+nx*12+7,none⟩=some (.int .i64 t3)∧W'.cell? ⟨b,o+nx*12+8,none⟩=some (.int .i64 t4)∧W'.cell? ⟨b,o+nx*12+9,none⟩=some (.int .i64 t5)∧W'.cell? ⟨b,o+nx*12+10,none⟩=some (.int .i64 lo)∧W'.cell? ⟨b,o+nx*12+11,none⟩=some (.int .i64 hi))
  (by kernel_rfl) (by kernel_rfl) (by intro d v c a w h;cases d <;> exact h) ?_
 replace HM:=K1 HM.out.drew
 generalize W1.drew=V1 at *
 refine PlS.reads_ (HS.out _ (HM.out.bel 0 rfl)) (by kernel_rfl) ?_
 simp only [pickO,p1,p2,p3,p4]
 apply Exists.intro
 apply And.intro
 · intro W' hS
   obtain ⟨s1,s2,q0,q1,q2,q3,q4,q5,q6,q7,q8,q9,q10,q11⟩:=hS
   repeat still_step
   exact wpStill_nil rfl
 refine PlS.eff_ ?_
 simp only [pickO,p1,p2,p3,p4]
 have c1:=HM.out.cells 1 rfl
 have f1:=fun j=>HM.out.frozen 1 j rfl
 have hf:=HM.out.fill (i:=1) rfl [.int .i64 kd,.int .i64 st,.int .i64 n,.bool asn,.bool aa,.int .i64 t1,.int .i64 t2,.int .i64 t3,.int .i64 t4,.int .i64 t5,.int .i64 lo,.int .i64 hi] rfl
 simp only [World.setCells,Nat.reduceAdd,Nat.zero_add] at hf
 have HF:=K1 hf
 clear HM hf
 go_wp2_with fail
 refine After.go (HS.out _ (HF.out.bel 0 rfl)) ?_
 clear c1 f1
 refine PlS.reads_ (HS.out _ (HF.out.bel 0 rfl)) (by kernel_rfl) ?_
 simp only [pickO,p1,p2,p3,p4]
 apply Exists.intro
 apply And.intro
 · intro W' hS
   clear hS
   repeat still_step
   exact wpStill_nil rfl
 refine PlS.fin_ ?_
 have c1:=HF.out.cells 1 rfl
 go_wp2_with fail
 refine bodyPost_ret (v:=.tuple #[.agg #[.int .i64 kd,.int .i64 st,.int .i64 n,.bool asn,.bool aa,.int .i64 t1,.int .i64 t2,.int .i64 t3,.int .i64 t4,.int .i64 t5,.int .i64 lo,.int .i64 hi],.bool true]) ?_ rfl ⟨rfl,HF.out.bel 0 rfl⟩
 simp [results,Tryz.results196,go_sem,c1]
set_option maxRecDepth 100000 in
theorem mnext_none (w:World) (m:Mc) (R:List Ch) (h:Mem w (m.ps++R)) (hx:m.its=[]) (hn:m.next=0) :
  Calls Tryz.prog 196 #[.pointer (some ⟨m.f.g,0,none⟩)] w fun e w'=>e=.returned (.tuple #[.agg itZero.toArray,.bool false])∧Below w.heap.size w w':=by
 have HS:=K1 (show ∀ (W:World),Below w.heap.size w W→W.cell? ⟨m.f.g,15,none⟩=some (.slice m.Ai 0 m.ci)∧W.cell? ⟨m.f.g,16,none⟩=some (.int .i64 0) from fun W hb=>by
  have h':=h.below hb
  refine ⟨?_,?_⟩
  · have:=blk_cells (h'.obj 0 rfl) 15
    rw [show m.cells.toArray.toList[15]?=some (.slice m.Ai m.its.length m.ci) from rfl,hx] at this
    exact this
  · have:=blk_cells (h'.obj 0 rfl) 16
    rw [show m.cells.toArray.toList[16]?=some (.int .i64 m.next) from rfl,hn] at this
    exact this)
 have HM:=K1 ((Mem.start w).alloc (.cells itZero.toArray 146))
 dsimp only [itZero] at *
 clear h hx hn
 go_enter Tryz.func196,Tryz.ntmps196
 go_wp2_with fail
 refine name_wp fun W0 hW=>?_
 replace HM:=K1 (hW.out.symm ▸ HM.out)
 clear hW
 refine wp_region_stage (.reads [0,1,2,3,4,5,6,7,8,9,10,11,12,13] .fin) 14 (fun W'=>W'.cell? ⟨m.f.g,15,none⟩=some (.slice m.Ai 0 m.ci)∧W'.cell? ⟨m.f.g,16,none⟩=some (.int .i64 0))
  (by kernel_rfl) (by kernel_rfl) (by intro d v c a w h;cases d <;> exact h) ?_
 replace HM:=K1 HM.out.drew
 generalize W0.drew=V at *
 refine PlS.reads_ (HS.out _ (HM.out.bel 0 rfl)) (by kernel_rfl) ?_
 simp only [pickO,p1,p2,p3,p4]
 apply Exists.intro
 apply And.intro
 · intro W' hS
   obtain ⟨s1,s2⟩:=hS
   repeat still_step
   exact wpStill_nil rfl
 refine PlS.fin_ ?_
 have c1:=HM.out.cells 1 rfl
 have f1:=fun j=>HM.out.frozen 1 j rfl
 have hf:=HM.out.fill (i:=1) rfl [.int .i64 0,.int .i64 0,.int .i64 0,.bool false,.bool false,.int .i64 0,.int .i64 0,.int .i64 0,.int .i64 0,.int .i64 0,.int .i64 0,.int .i64 0] rfl
 simp only [World.setCells,Nat.reduceAdd,Nat.zero_add] at hf
 have HF:=K1 hf
 clear HM hf
 go_wp2_with fail
 clear c1 f1
 have c1:=HF.out.cells 1 rfl
 refine bodyPost_ret (v:=.tuple #[.agg #[.int .i64 0,.int .i64 0,.int .i64 0,.bool false,.bool false,.int .i64 0,.int .i64 0,.int .i64 0,.int .i64 0,.int .i64 0,.int .i64 0,.int .i64 0],.bool false]) ?_ rfl ⟨rfl,HF.out.bel 0 rfl⟩
 simp [results,Tryz.results196,go_sem,c1]
def tgOf (a:Ac):Tg:=⟨a.step,a.bucket,a.phase,a.round,a.chunk⟩
theorem Mem.subOwn {W:World} {L:List Ch} {B n c g:Nat} {zs:List Int} {i x y:Nat} (h:Mem W L) (hi:L[i]?=some (vOwn B n c (some ⟨g,0,none⟩) zs)) (hxy:x<y) (hy:y≤zs.length):Rd W W.heap.size (some ⟨g,x,none⟩) (zC (subL zs x y)):=by
 have hr:=rd_of_own (h.own i hi)
 have h2:=hr.sub x y (by rw [zC_len];exact hy)
 rw [if_neg (by omega),← zC_sub] at h2
 rw [Option.map_some,add_none,Nat.zero_add] at h2
 exact h2
theorem Mem.famPiece {W:World} {L:List Ch} {l:List (Option Addr × List Value)} {A:Option Addr} {vs:List Value} {i:Nat} (h:Mem W L) (hi:L[i]?=some (famCh l)) (ha:(A,vs)∈l):Mem W (L++[.rd A vs]) :=
 h.more hi (fun h=>h) (h.st i hi _ ha) (fun h=>h) fun g hg=>by
  obtain ⟨h0,p,hp,rfl⟩:=hg
  exact ⟨_,ha,h0,p,hp,rfl⟩
set_option maxRecDepth 100000 in
theorem msend_any (w:World) (m:Mc) (l:Ln) (R:List Ch) (h:Mem w (m.ps++(l.ps++R))) (ho:m.Ok) (x:It) (ha:x.a.lo<x.a.hi∧x.a.hi≤m.f.p) (vi:Value) (code:Int) (K:Ln→Prop)
  (CS:∀ (W:World) (R':List Ch),Mem W (l.ps++R')→Rd W W.heap.size (some ⟨m.gG,x.a.lo,none⟩) (zC (subL m.G x.a.lo x.a.hi))→Calls Tryz.prog 210 #[.pointer (some ⟨l.g,0,none⟩),.agg ((tgOf x.a).cells++[Value.slice (some ⟨m.gG,x.a.lo,none⟩) (x.a.hi-x.a.lo) (m.f.p-x.a.lo)]).toArray] W fun e w'=>e=.returned (.int .i64 code)∧∃ l',K l'∧Mem w' (l'.ps++R')) :
  Calls Tryz.prog 201 #[.pointer (some ⟨m.f.g,0,none⟩),.agg x.cells.toArray,.agg #[vi,.pointer (some ⟨l.g,0,none⟩)]] w fun e w'=>e=.returned (.int .i64 code)∧∃ l',K l'∧Mem w' (m.ps++(l'.ps++R)):=by
 have hG:=ho.G.1
 have hp60:=ho.f.p.2
 obtain ⟨kd,st,n,⟨asn,aa,t1,t2,t3,t4,t5,lo,hi⟩⟩:=x
 dsimp only [It.cells,Ac.cells,tgOf,Tg.cells] at *
 simp only [List.cons_append,List.nil_append] at *
 obtain ⟨h1,h2⟩:=ha
 have hm0:=((h.alloc (.cells #[.int .i64 kd,.int .i64 st,.int .i64 n,.bool asn,.bool aa,.int .i64 t1,.int .i64 t2,.int .i64 t3,.int .i64 t4,.int .i64 t5,.int .i64 lo,.int .i64 hi] 146)).fA.alloc (.cells #[vi,.pointer (some ⟨l.g,0,none⟩)] 313)).fA
 simp only [World.size_alloc] at hm0
 have hm1:=(hm0.alloc (.cells #[.bool asn,.bool aa,.int .i64 t1,.int .i64 t2,.int .i64 t3,.int .i64 t4,.int .i64 t5,.int .i64 lo,.int .i64 hi] 144)).fA
 simp only [World.size_alloc] at hm1
 have HSub:=K1 (fun (W:World) (L:List Ch) (h:Mem W L) hL=>h.subOwn (i:=1) (B:=m.BG) (n:=m.f.p) (c:=m.f.p) (g:=m.gG) hL h1 (by rw [hG];exact h2))
 have c14:=hm0.cells 14 rfl
 have HM:=K1 hm1
 have CS:=K1 CS
 obtain ⟨p,hp⟩:∃ p,p=m.f.p:=⟨_,rfl⟩
 rw [← hp] at CS h2 hp60
 have hlo1:lo≤hi:=by omega
 have hlo2:lo≤60:=by omega
 have hhi2:hi≤60:=by omega
 have hHP:=K1 hp
 clear hm0 hm1 h ho hG hp
 go_enter Tryz.func201,Tryz.ntmps201
 go_wp2_with fail
 refine name_wp fun W0 hW=>?_
 replace HM:=K1 (hW.out.symm ▸ HM.out)
 clear hW c14
 refine wp_region_stage (.reads [0,1,2,3,4,5,6,7,8,9,10,11,12,13,14,15] (.eff 16 (.reads [17] .fin))) 18 (fun W'=>W'.cell? ⟨m.f.g,13,none⟩=some (.slice (some ⟨m.gG,0,none⟩) p p)∧W'.cell? ⟨w.heap.size+1,1,none⟩=some (.pointer (some ⟨l.g,0,none⟩))∧(∀ i,W'.cell? ⟨w.heap.size+1+1,i,none⟩=([.bool asn,.bool aa,.int .i64 t1,.int .i64 t2,.int .i64 t3,.int .i64 t4,.int .i64 t5,.int .i64 lo,.int .i64 hi]:List Value)[i]?))
  (by kernel_rfl) (by kernel_rfl) (by intro d v c a w h;cases d <;> exact h) ?_
 replace HM:=K1 HM.out.drew
 generalize W0.drew=V at *
 refine PlS.reads_ (⟨by rw [hHP.out];exact blk_cells (HM.out.obj 0 rfl) 13,HM.out.cells 15 rfl 1,HM.out.cells 16 rfl⟩) (by kernel_rfl) ?_
 simp only [pickO,p1,p2,p3,p4]
 apply Exists.intro
 apply And.intro
 · intro W' hS
   obtain ⟨s1,s2,s3⟩:=hS
   repeat still_step
   exact wpStill_nil rfl
 refine PlS.eff_ ?_
 simp only [pickO,p1,p2,p3,p4]
 go_wp2_with fail
 refine (CS.out _ _ HM.out.swap (HSub.out _ _ HM.out rfl)).mono ?_
 rintro e w1 ⟨rfl,l',hK,hm1⟩
 replace HM:=K1 hm1.swap
 have HK:=K1 hK
 clear hm1 hK CS
 go_wp2_with fail
 refine After.go (⟨by rw [hHP.out];exact blk_cells (HM.out.obj 0 rfl) 13,HM.out.cells 15 rfl 1,HM.out.cells 16 rfl⟩) ?_
 refine PlS.reads_ (⟨by rw [hHP.out];exact blk_cells (HM.out.obj 0 rfl) 13,HM.out.cells 15 rfl 1,HM.out.cells 16 rfl⟩) (by kernel_rfl) ?_
 simp only [pickO,p1,p2,p3,p4]
 apply Exists.intro
 apply And.intro
 · intro W' hS
   obtain ⟨s1,s2,s3⟩:=hS
   repeat still_step
   exact wpStill_nil rfl
 refine PlS.fin_ ?_
 go_wp2_with fail
 go_ret
 exact ⟨rfl,l',HK.out,HM.out.mid.mid.mid⟩
set_option maxRecDepth 100000 in
theorem mreceive_err (w:World) (m:Mc) (l:Ln) (R:List Ch) (h:Mem w (m.ps++(l.ps++R))) (x:It) (vo:Value) (code:Int) (hcode:(code != 0)=true)
  (CR:∀ (W:World) (R':List Ch),Mem W (l.ps++R')→Calls Tryz.prog 211 #[.pointer (some ⟨l.g,0,none⟩),.agg (tgOf x.a).cells.toArray] W fun e w'=>e=.returned (.tuple #[msZero,.int .i64 code])∧Mem w' (l.ps++R')) :
  Calls Tryz.prog 202 #[.pointer (some ⟨m.f.g,0,none⟩),.agg x.cells.toArray,.agg #[.pointer (some ⟨l.g,0,none⟩),vo]] w fun e w'=>e=.returned (.int .i64 code)∧Mem w' (m.ps++(l.ps++R)):=by
 obtain ⟨kd,st,n,⟨asn,aa,t1,t2,t3,t4,t5,lo,hi⟩⟩:=x
 dsimp only [It.cells,Ac.cells,tgOf,Tg.cells] at *
 simp only [List.cons_append,List.nil_append] at *
 have hm0:=((h.alloc (.cells #[.int .i64 kd,.int .i64 st,.int .i64 n,.bool asn,.bool aa,.int .i64 t1,.int .i64 t2,.int .i64 t3,.int .i64 t4,.int .i64 t5,.int .i64 lo,.int .i64 hi] 146)).fA.alloc (.cells #[.pointer (some ⟨l.g,0,none⟩),vo] 313)).fA
 simp only [World.size_alloc] at hm0
 have hm1:=(hm0.alloc (.cells #[.bool asn,.bool aa,.int .i64 t1,.int .i64 t2,.int .i64 t3,.int .i64 t4,.int .i64 t5,.int .i64 lo,.int .i64 hi] 144)).fA
 simp only [World.size_alloc] at hm1
 have c14:=hm0.cells 14 rfl
 have c15:=hm1.cells 15 rfl
 have c16:=hm1.cells 16 rfl
 have HM:=K1 hm1
 have CR:=K1 CR
 clear hm0 hm1 h
 go_enter Tryz.func202,Tryz.ntmps202
 go_wp2_with fail
 refine name_calls fun W0 hW0=>?_
 replace HM:=K1 (HM.out.inW hW0.out)
 clear hW0 c14 c15 c16
 refine (CR.out _ _ HM.out.swap).mono ?_
 rintro e w1 ⟨rfl,hm1⟩
 replace HM:=K1 hm1.swap
 clear hm1 CR
 have HF:=K1 ((HM.out.alloc (.cells #[.int .i64 0,.int .i64 0,.int .i64 0,.int .i64 0,.int .i64 0,.slice none 0 0] 78)).fA)
 clear HM
 go_wp2_with fail
 go_ret
 exact ⟨rfl,HF.out.mid.mid.mid.mid⟩
set_option maxRecDepth 100000 in
theorem mreceive_any (w:World) (m:Mc) (l l':Ln) (R:List Ch) (h:Mem w (m.ps++(l.ps++R))) (ho:m.Ok) (x:It) (ha:x.a.lo<x.a.hi∧x.a.hi≤m.f.p) (vo:Value) (y:Ms) (hyl:y.v.length=x.a.hi-x.a.lo) (hyc:y.v.length≤y.c) (hy:(y.A,zC y.v)∈lfam l'.ms)
  (CR:∀ (W:World) (R':List Ch),Mem W (l.ps++R')→Calls Tryz.prog 211 #[.pointer (some ⟨l.g,0,none⟩),.agg (tgOf x.a).cells.toArray] W fun e w'=>e=.returned (.tuple #[.agg y.cells.toArray,.int .i64 0])∧Mem w' (l'.ps++R')) :
  Calls Tryz.prog 202 #[.pointer (some ⟨m.f.g,0,none⟩),.agg x.cells.toArray,.agg #[.pointer (some ⟨l.g,0,none⟩),vo]] w fun e w'=>e=.returned (.int .i64 0)∧Mem w' (({ m with G:=if x.a.add then addTo x.a.lo y.v m.G (x.a.hi-x.a.lo) else splice m.G x.a.lo y.v }:Mc).ps++(l'.ps++R)):=by
 obtain ⟨kd,st,n,⟨asn,aa,t1,t2,t3,t4,t5,lo,hi⟩⟩:=x
 dsimp only [It.cells,Ac.cells,tgOf,Tg.cells] at *
 simp only [List.cons_append,List.nil_append] at *
 have hG:=ho.G.1
 have hp60:=ho.f.p.2
 obtain ⟨h1,h2⟩:=ha
 have hm0:=((h.alloc (.cells #[.int .i64 kd,.int .i64 st,.int .i64 n,.bool asn,.bool aa,.int .i64 t1,.int .i64 t2,.int .i64 t3,.int .i64 t4,.int .i64 t5,.int .i64 lo,.int .i64 hi] 146)).fA.alloc (.cells #[.pointer (some ⟨l.g,0,none⟩),vo] 313)).fA
 simp only [World.size_alloc] at hm0
 have hm1:=(hm0.alloc (.cells #[.bool asn,.bool aa,.int .i64 t1,.int .i64 t2,.int .i64 t3,.int .i64 t4,.int .i64 t5,.int .i64 lo,.int .i64 hi] 144)).fA
 simp only [World.size_alloc] at hm1
 have c14:=hm0.cells 14 rfl
 have c15:=hm1.cells 15 rfl
 have c16:=hm1.cells 16 rfl
 have HM:=K1 hm1
 have CR:=K1 CR
 obtain ⟨⟨y1,y2,y3,y4,y5⟩,yA,yc,yv⟩:=y
 dsimp only [Ms.cells,Tg.cells] at *
 simp only [List.cons_append,List.nil_append] at *
 obtain ⟨p,hp⟩:∃ p,p=m.f.p:=⟨_,rfl⟩
 rw [← hp] at h2 hp60 hG
 have hlo1:lo≤hi:=by omega
 have hlo2:lo≤60:=by omega
 have hhi2:hi≤60:=by omega
 have hn0:0<hi-lo:=by omega
 have hloN:lo+(hi-lo)≤p:=by omega
 have hn1b:hi-lo≤60:=by omega
 have hcap:hi-lo≤p-lo:=by omega
 have hHP:=K1 hp
 have CA:=K1 (fun (W:World) (L:List Ch) (hM:Mem W L) (hi1:L[1]?=some (.own m.BG 2 1 (.slice (some ⟨m.gG,0,none⟩) p p) p (zC m.G))) (hj:L[18]?=some (.rd yA (zC yv))) =>
  vadd_any W L hM 1 18 m.BG p p lo (hi-lo) (p-lo) yc (some ⟨m.gG,0,none⟩) (some ⟨m.gG,lo,none⟩) yA m.G yv hi1 hj hyl (by omega) hG (fun _=>by rw [Option.map_some,add_none,Nat.zero_add]) hcap (by omega) (by omega))
 have CY:=K1 (fun (W:World) (L:List Ch) (hM:Mem W L) (hi1:L[1]?=some (.own m.BG 2 1 (.slice (some ⟨m.gG,0,none⟩) p p) p (zC m.G))) (hj:L[18]?=some (.rd yA (zC yv))) =>
  run_copy_mem (P:=Tryz.prog) 87 26 3 2 Tryz.underlying87 size64 hM 1 hi1 yA (hi-lo) (p-lo) yc (hM.rd 18 hj) (by simpa using hyl) hloN hn0 (zC_one _))
 have HY:=K1 hy
 have HYL:=K1 hyl
 clear hyl hm0 hm1 h ho hG hp hy hyc
 go_enter Tryz.func202,Tryz.ntmps202
 go_wp2_with fail
 refine name_calls fun W0 hW0=>?_
 replace HM:=K1 (HM.out.inW hW0.out)
 clear hW0 c14 c15 c16
 refine (CR.out _ _ HM.out.swap).mono ?_
 rintro e w1 ⟨rfl,hm1⟩
 replace HM:=K1 hm1.swap
 clear hm1 CR
 rw [HYL.out]
 have hf:=(HM.out.alloc (.cells #[.int .i64 y1,.int .i64 y2,.int .i64 y3,.int .i64 y4,.int .i64 y5,.slice yA (hi-lo) yc] 78)).fA
 replace HM:=K1 ((hf.famPiece (i:=20) rfl HY.out).fA)
 clear hf HY
 go_wp2_with fail
 refine name_wp fun W0 hW=>?_
 replace HM:=K1 (hW.out.symm ▸ HM.out)
 clear hW
 refine wp_region_stage (.reads [0,1,2,3,4,5,6,7,8,9,10,11] .fin) 12 (fun W'=>W'.cell? ⟨m.f.g,13,none⟩=some (.slice (some ⟨m.gG,0,none⟩) p p)∧(∀ i,W'.cell? ⟨w.heap.size+1+1,i,none⟩=([.bool asn,.bool aa,.int .i64 t1,.int .i64 t2,.int .i64 t3,.int .i64 t4,.int .i64 t5,.int .i64 lo,.int .i64 hi]:List Value)[i]?))
  (by kernel_rfl) (by kernel_rfl) (by intro d v c a w h;cases d <;> exact h) ?_
 replace HM:=K1 HM.out.drew
 generalize W0.drew=V at *
 refine PlS.reads_ (⟨by rw [hHP.out];exact blk_cells (HM.out.obj 0 rfl) 13,HM.out.cells 16 rfl⟩) (by kernel_rfl) ?_
 simp only [pickO,p1,p2,p3,p4]
 apply Exists.intro
 apply And.intro
 · intro W' hS
   obtain ⟨s1,s2⟩:=hS
   repeat still_step
   exact wpStill_nil rfl
 refine PlS.fin_ ?_
 have c16:=HM.out.cells 16 rfl
 have c17:=HM.out.cells 17 rfl
 cases aa
 · obtain ⟨w5,hrun,hm5⟩:=CY.out _ _ HM.out (by rw [hHP.out];rfl) rfl
   rw [← zC_splice] at hm5
   have HF:=K1 hm5
   clear hm5 CA CY
   go_wp2_with fail
   go_ret
   refine ⟨rfl,?_⟩
   have h9:=Mem.cast HF.out (show _=(({ m with G:=splice m.G lo yv }:Mc).ps++[_,_,_,_,_])++(l'.ps++R) by rw [hHP.out];rfl)
   exact h9.mid
 · go_wp2_with fail
   refine (CA.out _ _ HM.out (by rw [hHP.out];rfl) rfl).mono ?_
   rintro e w5 ⟨rfl,hm5⟩
   have HF:=K1 hm5
   clear hm5 CA CY
   go_wp2_with fail
   go_ret
   refine ⟨rfl,?_⟩
   have h9:=Mem.cast HF.out (show _=(({ m with G:=addTo lo yv m.G (hi-lo) }:Mc).ps++[_,_,_,_,_])++(l'.ps++R) by rw [hHP.out];rfl)
   exact h9.mid
theorem Mem.cutOwn {W:World} {L:List Ch} {i base e n k c g:Nat} {xs:List Value} (h:Mem W L) (hi:L[i]?=some (.own base e 1 (.slice (some ⟨g,0,none⟩) n c) n xs)) (hk:k≤n):Mem W (L.set i (.own base e 1 (.slice (some ⟨g,0,none⟩) k c) k (xs.take k))):=by
 have ho:=h.own i hi
 refine h.turn hi ⟨?_,(h.holds i _ hi).2⟩ (fun q hq=>hq) trivial
 obtain ⟨hx,ho2⟩:=ho
 rcases ho2 with ⟨hv,_⟩ | ⟨g',cap,cur,hv,hb,hh,hnc,hml,hcs,ht⟩
 · cases hv
 · injection hv with hA _ hC
   injection hA with hA
   injection hA with hg
   subst hg;subst hC
   refine ⟨by rw [List.length_take,hx];omega,.inr ⟨g,c,cur,rfl,hb,hh,by omega,hml,hcs,?_⟩⟩
   rw [← ht,List.take_take]
   congr 1
   omega
theorem upd1_any (w:World) (j n gi:Nat) (h:w.cell? ⟨gi,2,none⟩=some (.int .i64 n)) :
  Calls Tryz.prog 214 #[.int .i64 j,.pointer (some ⟨gi,0,none⟩)] w fun e w'=>e=.returned (.bool ((j:Int) == (n:Int)))∧w=w':=by
 go_enter Tryz.func214,Tryz.ntmps214
 go_wp2
 go_ret
 exact ⟨rfl,rfl⟩
set_option maxRecDepth 100000 in
theorem indexFunc_any (w:World) (A:Option Addr) (n c gi N:Nat) (l:List Nat) (hr:Rd w w.heap.size A (iCells l)) (hl:l.length=n) (hn:n≤1000000000) (hg:w.cell? ⟨gi,2,none⟩=some (.int .i64 N)) :
  Calls Tryz.prog 136 #[.slice A n c,.func (.func 214) #[] #[.pointer (some ⟨gi,0,none⟩)]] w fun e w'=>w=w'∧((e=.returned (.int .i64 (-1))∧N ∉ l)∨∃ k,e=.returned (.int .i64 (k:Nat))∧k<n∧l[k]?=some N∧∀ q,q<k→l[q]?≠some N):=by
 have CU:=K1 (fun j=>upd1_any w j N gi hg)
 have hA:0<n→∃ b off,A=some ⟨b,off,none⟩∧∀ j u,(iCells l)[j]?=some u→w.cell? ⟨b,off+j,none⟩=some u:=fun h0=>by
  obtain ⟨b,off,e,_,hc⟩:=hr (by rw [iCells_len];omega)
  exact ⟨b,off,e,hc⟩
 have HA:=K1 hA
 have HL:=K1 hl
 clear hr hl hg hA
 go_enter Tryz.func136,Tryz.ntmps136
 go_wp2_with fail
 go_loopw [8] (fun s8 wr=>∃ k:Nat,k≤n∧s8=.int .i64 k∧Hid (w=wr)∧Hid (∀ q,q<k→l[q]?≠some N)) (fun s8 _=>n-(intOf s8).toNat)
 case atStart=>exact ⟨0,Nat.zero_le _,rfl,K1 rfl,K1 (fun q hq=>absurd hq (Nat.not_lt_zero _))⟩
 case round =>
  obtain ⟨k,hk,rfl,HW,HQ⟩:=hrel
  have hw:=HW.out
  subst hw
  clear HW
  by_cases hlt:k<n
  · obtain ⟨b,off,rfl,hc⟩:=HA.out (by omega)
    obtain ⟨v,hv⟩:=get_some l k (by rw [HL.out];exact hlt)
    have e1:=hc k (.int .i64 v) (by simp [iCells,hv])
    have HV:=K1 hv
    clear hc hv
    by_cases hq:v=N
    · subst hq
      have hbq:((v:Int) == (v:Int))=true:=by simp
      have HB:=K1 hbq
      clear hbq
      go_wp2_with fail
      refine (CU.out v).mono ?_
      rintro e w1 ⟨rfl,rfl⟩
      rw [HB.out]
      go_wp2_with fail
      go_ret
      exact ⟨rfl,.inr ⟨k,rfl,hlt,HV.out,HQ.out⟩⟩
    · have hbq:((v:Int) == (N:Int))=false:=by
       apply Bool.eq_false_iff.2
       intro h
       simp only [beq_iff_eq] at h
       exact hq (Int.ofNat.inj h)
      have HB:=K1 hbq
      have HNE:=K1 hq
      clear hbq hq
      go_wp2_with fail
      refine (CU.out v).mono ?_
      rintro e w1 ⟨rfl,rfl⟩
      rw [HB.out]
      go_wp2_with fail
      go_roundw
      case rel =>
       refine ⟨k+1,by omega,by go_num,K1 (by trivial),K1 (fun q hq=>?_)⟩
       rcases Nat.lt_or_ge q k with h1 | h1
       · exact HQ.out q h1
       · rw [show q=k by omega,HV.out]
         intro h
         injection h with h
         exact HNE.out h
      case measure=>simp [intOf];omega
  · have hkn:k=n:=by omega
    subst hkn
    go_wp2_with fail
    go_ret
    refine ⟨rfl,.inl ⟨rfl,fun hm=>?_⟩⟩
    obtain ⟨q,hq⟩:=List.getElem?_of_mem hm
    exact HQ.out q (by have:=(List.getElem?_eq_some_iff.1 hq).1;have:=HL.out;omega) hq
set_option maxRecDepth 100000 in
theorem deleteFunc_any (w:World) (L:List Ch) (h:Mem w L) (i ib BO gi N n c:Nat) (A:Option Addr) (l:List Nat) (x:List Value) (t:TypeId) (hi:L[i]?=some (.own BO 3 1 (.slice A n c) n (iCells l))) (hib:L[ib]?=some (.obj gi (.cells x.toArray t (0,0)))) (hx:x[2]?=some (.int .i64 N)) (hl:l.length=n) (hn:n≤1000000000) :
  Calls Tryz.prog 213 #[.slice A n c,.func (.func 214) #[] #[.pointer (some ⟨gi,0,none⟩)]] w fun e w'=>e=.returned (.slice A (l.filter fun y=>!(y == N)).length c) ∧
   Mem w' (L.set i (.own BO 3 1 (.slice A (l.filter fun y=>!(y == N)).length c) (l.filter fun y=>!(y == N)).length (iCells (l.filter fun y=>!(y == N))))):=by
 have hne:i≠ib:=fun e=>by rw [e,hib] at hi;cases hi
 have CI:=K1 (indexFunc_any w A n c gi N l (rd_of_own (h.own i hi)) hl hn ((blk_cells (h.obj ib hib) 2).trans (by simpa using hx)))
 have CU:=K1 (fun (W:World) (M:List Ch) (hM:Mem W M) (hm:M[ib]?=some (.obj gi (.cells x.toArray t (0,0)))) j=>upd1_any W j N gi ((blk_cells (hM.obj ib hm) 2).trans (by simpa using hx)))
 have HM:=K1 h
 have HI:=K1 hi
 have HIB:=K1 (And.intro hib hne)
 have HL:=K1 hl
 clear h hi hib hl hne hx
 go_enter Tryz.func213,Tryz.ntmps213
 go_wp2_with fail
 refine CI.out.mono ?_
 rintro e w1 ⟨rfl,⟨rfl,hno⟩ | ⟨k,rfl,hk,hkv,hkq⟩⟩
 · have hf:l.filter (fun y=>!(y == N))=l:=List.filter_eq_self.2 fun y hy=>by
    have:y≠N:=fun e=>hno (e ▸ hy)
    simp [this]
   have HFf:=K1 hf
   clear hf hno
   go_wp2_with fail
   go_ret
   rw [HFf.out,HL.out]
   refine ⟨rfl,?_⟩
   rw [set_same HI.out]
   exact HM.out
 · obtain ⟨g,rfl⟩:=HM.out.ownA i HI.out (by omega)
   obtain ⟨k1,hk1⟩:∃ k1,k1=k+1:=⟨_,rfl⟩
   have hk1i:(k:Int)+1=(k1:Int):=by omega
   have hk1b:k1≤n:=by omega
   have wk1:IntKind.i64.wrap (k1:Int)=(k1:Int):=IntWalk.i64_in _ (by omega)
   have hkm:((k:Int) == -1)=false:=beq_eq_false_iff_ne.2 (by omega)
   have htk:(l.take k1).filter (fun y=>!(y == N))=l.take k:=by
    rw [hk1,List.take_add_one,hkv,List.filter_append,List.filter_eq_self.2 fun y hy=>by
     obtain ⟨q,hq⟩:=List.getElem?_of_mem hy
     have hqk:=(List.getElem?_eq_some_iff.1 hq).1
     rw [List.length_take] at hqk
     rw [List.getElem?_take,if_pos (by omega)] at hq
     have:y≠N:=fun e=>hkq q (by omega) (e ▸ hq)
     simp [this]]
    simp
   have HM0:=K1 (show Mem w (L.set i (.own BO 3 1 (.slice (some ⟨g,0,none⟩) n c) n (iCells l))) from (set_same HI.out).symm ▸ HM.out)
   have HT:=K1 (And.intro htk (And.intro hk1 (And.intro hkv hk)))
   clear hk1 htk hkv hkq
   go_wp2_with fail
   go_loopw [5,6] (fun s5 s6 wr=>∃ (i1 j:Nat) (cur:List Nat),i1<j∧j≤n∧s5=.int .i64 i1∧s6=.int .i64 j∧Hid (cur.length=n∧cur.take i1=(l.take j).filter (fun y=>!(y == N))∧∀ q,j≤q→cur[q]?=l[q]?)∧Hid (Mem wr (L.set i (.own BO 3 1 (.slice (some ⟨g,0,none⟩) n c) n (iCells cur))))) (fun _ s6 _=>n-(intOf s6).toNat)
   case atStart=>exact ⟨k,k1,l,by have:=HT.out.2.1;omega,hk1b,rfl,rfl,K1 ⟨HL.out,HT.out.1.symm,fun q _=>rfl⟩,HM0⟩
   case round =>
    clear HM0 hk1i wk1 hkm hk1b
    obtain ⟨i1,j,cur,hij,hjn,rfl,rfl,HC,HM1⟩:=hrel
    have HO:=K1 (at_set (d:=.own BO 3 1 (.slice (some ⟨g,0,none⟩) n c) n (iCells cur)) HI.out)
    by_cases hlt:j<n
    · obtain ⟨v,hv⟩:=get_some l j (by rw [HL.out];exact hlt)
      have hcv:cur[j]?=some v:=by rw [HC.out.2.2 j (Nat.le_refl _),hv]
      have e1:wr.cell? ⟨g,j,none⟩=some (.int .i64 v):=((HM1.out.own i HO.out).cellAt j (by omega)).trans (by simp [iCells,hcv])
      obtain ⟨u,hu⟩:=get_some cur i1 (by rw [HC.out.1];omega)
      have e2:wr.cell? ⟨g,i1,none⟩=some (.int .i64 u):=((HM1.out.own i HO.out).cellAt i1 (by omega)).trans (by simp [iCells,hu])
      have kf:=HM1.out.ownF i HO.out
      obtain ⟨j1,hj1⟩:∃ j1,j1=j+1:=⟨_,rfl⟩
      have hj1i:(j:Int)+1=(j1:Int):=by omega
      have hj1b:j1≤n:=by omega
      have wj1:IntKind.i64.wrap (j1:Int)=(j1:Int):=IntWalk.i64_in _ (by omega)
      obtain ⟨i2,hi2⟩:∃ i2,i2=i1+1:=⟨_,rfl⟩
      have hi2i:(i1:Int)+1=(i2:Int):=by omega
      have wi2:IntKind.i64.wrap (i2:Int)=(i2:Int):=IntWalk.i64_in _ (by omega)
      have CP:=K1 (CU.out wr _ HM1.out (at_ne HIB.out.2 HIB.out.1) v)
      by_cases hq:v=N
      · have hbq:((v:Int) == (N:Int))=true:=by rw [hq];simp
        have HB:=K1 hbq
        have HX:=K1 (show (l.take j1).filter (fun y=>!(y == N))=(l.take j).filter (fun y=>!(y == N)) by
         rw [hj1,List.take_add_one,hv,List.filter_append];simp [hq])
        have HJ:=K1 hj1
        clear hbq hq hj1 hi2 hcv hu hv
        go_wp2_with fail
        refine CP.out.mono ?_
        rintro e w2 ⟨rfl,rfl⟩
        rw [HB.out]
        go_wp2_with fail
        go_roundw
        case rel =>
         refine ⟨i1,j1,cur,by have:=HJ.out;omega,hj1b,rfl,rfl,K1 ⟨HC.out.1,?_,fun q hq=>HC.out.2.2 q (by have:=HJ.out;omega)⟩,HM1⟩
         rw [HX.out];exact HC.out.2.1
        case measure=>simp [intOf];have:=HJ.out;omega
      · have hbq:((v:Int) == (N:Int))=false:=by
         apply Bool.eq_false_iff.2
         intro h
         simp only [beq_iff_eq] at h
         exact hq (Int.ofNat.inj h)
        have HB:=K1 hbq
        have HX:=K1 (show (l.take j1).filter (fun y=>!(y == N))=(l.take j).filter (fun y=>!(y == N))++[v] by
         rw [hj1,List.take_add_one,hv,List.filter_append];simp [hq])
        have hm2:=HM1.out.setOwn (j:=i1) HO.out (.int .i64 v)
        rw [List.set_set,show (iCells cur).set i1 (.int .i64 v)=iCells (cur.set i1 v) by simp [iCells]] at hm2
        have HM2:=K1 hm2
        have HJ:=K1 (And.intro hj1 hi2)
        clear hbq hq hj1 hi2 hcv hu hv hm2 HM1
        go_wp2_with fail
        refine CP.out.mono ?_
        rintro e w2 ⟨rfl,rfl⟩
        rw [HB.out]
        go_wp2_with fail
        go_roundw
        case rel =>
         refine ⟨i2,j1,cur.set i1 v,by have:=HJ.out;omega,hj1b,rfl,rfl,K1 ⟨by rw [List.length_set];exact HC.out.1,?_,fun q hq=>?_⟩,HM2⟩
         · rw [HX.out,HJ.out.2,List.take_add_one,List.getElem?_set_self (by rw [HC.out.1];omega),List.take_set_of_le (Nat.le_refl _),HC.out.2.1]
           rfl
         · rw [List.getElem?_set_ne (by have:=HJ.out;omega)]
           exact HC.out.2.2 q (by have:=HJ.out;omega)
        case measure=>simp [intOf];have:=HJ.out;omega
    · have hjn2:j=n:=by omega
      subst hjn2
      have hF:cur.take i1=l.filter (fun y=>!(y == N)):=by rw [HC.out.2.1,List.take_of_length_le (by rw [HL.out];omega)]
      have hFl:(l.filter fun y=>!(y == N)).length=i1:=by rw [← hF,List.length_take,HC.out.1];omega
      have hd0:0<j-i1:=by omega
      have hcc:j≤c:=own_cap (HM1.out.own i HO.out)
      have hi1c:i1≤c:=by omega
      have hi1j:i1≤j:=by omega
      obtain ⟨w5,hrun,hm5⟩:=run_clear_mem (P:=Tryz.prog) 22 3 0 .i64 Tryz.underlying22 Tryz.zeroValue3 HM1.out i HO.out (lo:=i1) (n:=j-i1) hd0 (by omega) (c-i1)
      have hm6:=hm5.cutOwn (at_set HO.out) hi1j
      rw [List.set_set,List.set_set,setL_take _ _ _ _ (Nat.le_refl _),show (iCells cur).take i1=iCells (cur.take i1) by simp [iCells,List.map_take],hF] at hm6
      have HF:=K1 hm6
      have HFl:=K1 hFl
      clear hm5 hm6 HM1 hF hFl
      go_wp2_with fail
      go_ret
      rw [HFl.out]
      exact ⟨rfl,HF.out⟩
end Go.Proofs.YtdpojpcoghcieaaGreat
