/- A part of the proof of TopSerial: MachLaunch, MachUpd, MachRec, DataPick. Conditions: none. -/
import Derived.Test.YtdpojpcoghcieaaGreatSdBH
set_option maxHeartbeats 8000000
namespace Go.Proofs.YtdpojpcoghcieaaGreat
open Lib renaming hid → K1
open List renaming filterMap_cons → p1, filterMap_nil → p2, getElem?_cons_zero → p3, getElem?_cons_succ → p4
open Go.RowKit
theorem Mc.cell {m:Mc} {W:World} {R:List Ch} (h:Mem W (m.ps++R)) (k:Nat):W.cell? ⟨m.f.g,k,none⟩=m.cells[k]?:=blk_cells (h.obj 0 rfl) k
theorem It.cells_at {W:World} {L:List Ch} {i g:Nat} {t:TypeId} {x:It} (h:Mem W L) (hi:L[i]?=some (.obj g (.cells x.cells.toArray t (0,0)))) (k:Nat):W.cell? ⟨g,k,none⟩=x.cells[k]?:=blk_cells (h.obj i hi) k
theorem iCells_snoc (l:List Nat) (n:Nat):iCells (l++[n])=iCells l++[.int .i64 n]:=by simp [iCells]
def kindF:Nat→Value
 | 1=>.func (.func 199) #[] #[]
 | 2=>.func (.func 200) #[] #[]
 | 3=>.func (.func 201) #[] #[]
 | 4=>.func (.func 202) #[] #[]
 | 5=>.func (.func 203) #[] #[]
 | _=>.func (.func 204) #[] #[]
set_option maxRecDepth 100000 in
theorem launch_any (w:World) (m:Mc) (R:List Ch) (h:Mem w (m.ps++R)) (ho:m.Ok) (hb:m.cnt≤1000000) (x:It) (vi vo:Value) :
  Calls Tryz.prog 200 #[.pointer (some ⟨m.f.g,0,none⟩),.agg x.cells.toArray,.agg #[vi,vo]] w fun e w'=>e=.returned (.int .i64 0)∧∃ A' c',Mem w' (({ m with Ao:=A',co:=c',opn:=m.opn++[x.n] }:Mc).ps++R):=by
 have hm0:=((h.alloc (.cells x.cells.toArray 146)).fA.alloc (.cells #[vi,vo] 313)).fA
 simp only [World.size_alloc] at hm0
 have HM:=K1 hm0
 have hol:=ho.opns
 have HN:=K1 (iCells_snoc m.opn x.n)
 clear hm0 h ho
 go_enter Tryz.func200,Tryz.ntmps200
 go_wp2_with fail
 refine name_wp fun W0 hW=>?_
 replace HM:=K1 (hW.out.symm ▸ HM.out)
 clear hW
 refine wp_region_stage (.reads [0,1,2,3,4,5,6] (.eff 7 (.eff 8 (.eff 9 (.reads [10] (.eff 11 .fin)))))) 11 (fun W'=>W'.cell? ⟨m.f.g,18,none⟩=some (.slice m.Ao m.opn.length m.co)∧W'.cell? ⟨w.heap.size,2,none⟩=some (.int .i64 x.n))
  (by kernel_rfl) (by kernel_rfl) (by intro d v c a w h;cases d <;> exact h) ?_
 replace HM:=K1 HM.out.drew
 generalize W0.drew=V at *
 refine PlS.reads_ (⟨Mc.cell HM.out.mid.mid 18,It.cells_at HM.out (i:=14) rfl 2⟩) (by kernel_rfl) ?_
 simp only [pickO,p1,p2,p3,p4]
 apply Exists.intro
 apply And.intro
 · intro W' hS
   obtain ⟨s1,s2⟩:=hS
   repeat still_step
   exact wpStill_nil rfl
 refine PlS.eff_ ?_
 simp only [pickO,p1,p2,p3,p4]
 replace HM:=K1 ((HM.out.alloc (.cells #[.int .i64 x.n] 3)).fA)
 go_wp2_with fail
 refine After.go (⟨Mc.cell HM.out.mid.mid.mid 18,It.cells_at HM.out (i:=14) rfl 2⟩) ?_
 refine PlS.eff_ ?_
 simp only [pickO,p1,p2,p3,p4]
 refine wpList_append_mem (n:=m.opn.length) rfl _ _ 22 rfl HM.out 7 rowCI rfl rfl _ 1 _ [.int .i64 x.n] rfl (HM.out.box 16 rfl) rfl (by intro u hu;simp at hu;subst hu;rfl) (by omega) ?_
 intro A' c' W5 hm5
 rw [← HN.out] at hm5
 have HM5:=K1 (hm5.fS rfl)
 clear hm5 HM
 go_wp2_with fail
 refine After.go (⟨blk_cells (HM5.out.obj 0 rfl) 18,It.cells_at HM5.out (i:=14) rfl 2⟩) ?_
 refine PlS.eff_ ?_
 simp only [pickO,p1,p2,p3,p4]
 go_wp2_with fail
 refine After.go (⟨blk_cells (HM5.out.obj 0 rfl) 18,It.cells_at HM5.out (i:=14) rfl 2⟩) ?_
 refine PlS.reads_ (⟨blk_cells (HM5.out.obj 0 rfl) 18,It.cells_at HM5.out (i:=14) rfl 2⟩) (by kernel_rfl) ?_
 simp only [pickO,p1,p2,p3,p4]
 apply Exists.intro
 apply And.intro
 · intro W' hS
   obtain ⟨s1,s2⟩:=hS
   repeat still_step
   exact wpStill_nil rfl
 refine PlS.eff_ ?_
 simp only [pickO,p1,p2,p3,p4]
 have c0:=blk_cells (HM5.out.obj 0 rfl) 18
 have f0:=fun j=>HM5.out.frozen 0 j rfl
 have HF:=K1 ((HM5.out.set (i:=0) (j:=18) rfl (.slice A' (m.opn.length+1) c')).fS rfl)
 clear HM5
 go_wp2_with fail
 refine After.last (by decide) (PlS.fin_ ?_)
 go_wp2_with fail
 go_ret
 refine ⟨rfl,A',c',?_⟩
 have h9:=Mem.cast HF.out (show _=(({ m with Ao:=A',co:=c',opn:=m.opn++[x.n] }:Mc).ps++[_,_,_])++R by simp only [Mc.ps,Mc.cells,List.length_append,List.length_singleton];rfl)
 exact h9.mid
theorem plBs_lt {c:Kf} {p:Nat} (h:c.Ok):∀ b∈plBs c p,b.1<b.2∧b.2≤p:=by
 intro b hb
 have hb':=List.mem_reverse.1 hb
 refine ⟨?_,(blocks_le p c.bu h.bu.1 b hb').2⟩
 obtain ⟨i,hi,rfl⟩:=List.mem_map.1 hb'
 have h1:=pcnt_lt h.bu.1 (List.mem_range.1 hi)
 have h2:=h.bu.1
 dsimp only [blk1]
 generalize i*c.bu=e at *
 omega
theorem infoSt:(Tryz.prog.info? 89).map (fun i=>(i.zero,i.size,i.bytes))=some (some (.agg #[.slice none 0 0,.slice none 0 0]),2,48):=by kernel_rfl
theorem rowSt:RowT Tryz.prog 85 89 2 48:=by
 obtain ⟨i0,hi,hz0,hz1,hz2⟩:=info_parts infoSt
 exact ⟨i0,_,Tryz.underlying85,hi,hz0,hz1,hz2,rfl,by decide,by decide⟩
theorem zeros_all (p:Nat) (G:List Int) (h:G.length=p):setL (zC G) 0 (List.replicate p (.int .i64 0))=zC (zeroL p):=by
 rw [setL_all _ _ (by simp [h])]
 simp [zeroL]
set_option maxRecDepth 100000 in
theorem mupdate_any (w:World) (m:Mc) (R:List Ch) (h:Mem w (m.ps++R)) (ho:m.Ok) (x:It) (lo hi:Nat) (hx:(plBs m.f.c m.f.p)[x.n]?=some (lo,hi)) (hb:m.cnt≤1000000) (vi vo:Value) :
  Calls Tryz.prog 203 #[.pointer (some ⟨m.f.g,0,none⟩),.agg x.cells.toArray,.agg #[vi,vo]] w fun e w'=>e=.returned (.int .i64 0)∧Mem w' (({ m with P:=(appPM m.f.ru m.G lo m.P m.M (hi-lo)).1,M:=(appPM m.f.ru m.G lo m.P m.M (hi-lo)).2,opn:=m.opn.filter fun y=>!(y == x.n) }:Mc).ps++R):=by
 have hG:=ho.G.1
 have hp60:=ho.f.p.2
 have hbs:=plBs_lt ho.f.c _ (List.mem_of_getElem? hx)
 have hxl:=(List.getElem?_eq_some_iff.1 hx).1
 have hcb:=ho.f.cb
 have hol:=ho.opns
 have hlen60:=(plBs_ok ho.f.c ho.f.p.2).2.1
 dsimp only at hbs
 have HR:=K1 (show ∀ (W:World) (L:List Ch),Mem W L→L[8]?=some (.rd m.f.Ab (rcells (plBs m.f.c m.f.p)))→∃ b o,m.f.Ab=some ⟨b,o,none⟩∧W.cell? ⟨b,o+x.n*2,none⟩=some (.int .i64 lo)∧W.cell? ⟨b,o+x.n*2+1,none⟩=some (.int .i64 hi) from fun W L h hL=>by
  obtain ⟨b,o,e,hc⟩:=h.ranges 8 hL (by omega)
  exact ⟨b,o,e,hc _ _ hx⟩)
 obtain ⟨bb,bo,hAb,_⟩:=HR.out w _ h rfl
 have CA:=K1 (fun (W:World) (L:List Ch) (hM:Mem W L) hP hMm hGg=>apply_any W L hM m.f.ru ho.f.ru 2 3 1 m.B m.BG m.f.p m.f.p m.cP m.cM m.f.p m.gP m.gM m.gG lo hi (hi-lo) (m.f.p-lo) m.P m.M m.G hP hMm hGg (by decide) (by decide) (by decide) ⟨ho.P.1,ho.M.1⟩ hG hbs.1 hbs.2 hbs.2 rfl (by omega) (by omega) ho.M.2)
 have CD:=K1 (fun (W:World) (L:List Ch) (hM:Mem W L) hi7 hi14=>deleteFunc_any W L hM 7 14 m.BO w.heap.size x.n m.opn.length m.co m.Ao m.opn x.cells 146 hi7 hi14 rfl rfl (by omega))
 have hm0:=((h.alloc (.cells x.cells.toArray 146)).fA.alloc (.cells #[vi,vo] 313)).fA
 simp only [World.size_alloc] at hm0
 have HM:=K1 hm0
 have hlo60:lo≤60:=by omega
 have hhi60:hi≤60:=by omega
 have hlohi:lo≤hi:=by omega
 have hxb:x.n≤60:=by omega
 have hxl2:x.n<(plBs m.f.c m.f.p).length:=hxl
 obtain ⟨p,hp⟩:∃ p,p=m.f.p:=⟨_,rfl⟩
 have hhip:hi≤p:=by omega
 have hlop:¬ p=lo:=by omega
 have hlop2:¬ lo=p:=by omega
 have hlohi2:lo<hi:=hbs.1
 have hpb:p≤60:=by omega
 have HPP:=K1 hp
 have HB2:Hid (∀ (W:World) (L:List Ch),Mem W L→L[8]?=some (.rd m.f.Ab (rcells (plBs m.f.c m.f.p)))→W.cell? ⟨bb,bo+x.n*2,none⟩=some (.int .i64 lo)∧W.cell? ⟨bb,bo+x.n*2+1,none⟩=some (.int .i64 hi)):=K1 (fun W L h1 h2=>by
  obtain ⟨b,o,e,h3⟩:=HR.out W L h1 h2
  rw [hAb] at e
  injection e with e
  injection e with e1 e2
  subst e1;subst e2
  exact h3)
 have HAb:=K1 hAb
 obtain ⟨nb,hnb⟩:∃ nb,nb=(plBs m.f.c m.f.p).length:=⟨_,rfl⟩
 rw [← hnb] at hxl2 hlen60
 have HNB:=K1 hnb
 clear hm0 h ho hG hbs hx hp hAb hnb hcb hxl HR hp60
 go_enter Tryz.func203,Tryz.ntmps203
 go_wp2_with fail
 refine name_wp fun W0 hW=>?_
 replace HM:=K1 (hW.out.symm ▸ HM.out)
 clear hW
 refine wp_region_stage (.reads [0,1,2,3,4,5,6,7,8] (.eff 9 (.eff 10 .fin))) 11 (fun W'=>W'.cell? ⟨m.f.g,7,none⟩=some (.slice (some ⟨bb,bo,none⟩) nb m.f.cb)∧W'.cell? ⟨w.heap.size,2,none⟩=some (.int .i64 x.n)∧W'.cell? ⟨bb,bo+x.n*2,none⟩=some (.int .i64 lo)∧W'.cell? ⟨bb,bo+x.n*2+1,none⟩=some (.int .i64 hi))
  (by kernel_rfl) (by kernel_rfl) (by intro d v c a w h;cases d <;> exact h) ?_
 replace HM:=K1 HM.out.drew
 generalize W0.drew=V at *
 refine PlS.reads_ (⟨by rw [HNB.out,← HAb.out];exact blk_cells (HM.out.obj 0 rfl) 7,It.cells_at HM.out (i:=14) rfl 2,HB2.out _ _ HM.out rfl⟩) (by kernel_rfl) ?_
 simp only [pickO,p1,p2,p3,p4]
 apply Exists.intro
 apply And.intro
 · intro W' hS
   obtain ⟨s1,s2,s3,s4⟩:=hS
   repeat still_step
   exact wpStill_nil rfl
 refine PlS.eff_ ?_
 simp only [pickO,p1,p2,p3,p4]
 go_wp2_with fail
 refine name_after fun W3 hW3=>?_
 replace HM:=K1 ((HM.out.alloc_ hW3.out).fA)
 clear hW3
 refine After.go (⟨by rw [HNB.out,← HAb.out];exact blk_cells (HM.out.obj 0 rfl) 7,It.cells_at HM.out (i:=14) rfl 2,HB2.out _ _ HM.out rfl⟩) ?_
 refine PlS.eff_ ?_
 simp only [pickO,p1,p2,p3,p4]
 have c16:=HM.out.cells 16 rfl
 have f16:=fun j=>HM.out.frozen 16 j rfl
 replace HM:=K1 ((HM.out.set2 (i:=16) rfl (.int .i64 lo) (.int .i64 hi)).fS rfl)
 go_wp2_with fail
 refine After.go (⟨by rw [HNB.out,← HAb.out];exact blk_cells (HM.out.obj 0 rfl) 7,It.cells_at HM.out (i:=14) rfl 2,HB2.out _ _ HM.out rfl⟩) (PlS.fin_ ?_)
 clear c16 f16
 go_wp2_with fail
 generalize hV:V.heap.size=g16 at *
 clear hV
 refine name_wp fun W1 hW=>?_
 replace HM:=K1 (hW.out.symm ▸ HM.out)
 clear hW
 refine wp_region_stage (.reads [0,1,2,3,4,5,6,7,8,9,10,11,12,13,14,15,16,17,18] (.eff 19 .fin)) 20 (fun W'=>W'.cell? ⟨m.f.g,8,none⟩=some (.int .i64 m.f.c.ra)∧W'.cell? ⟨m.f.g,9,none⟩=some (.int .i64 m.f.c.mo)∧W'.cell? ⟨m.f.g,10,none⟩=some (.int .i64 m.f.c.sh)∧W'.cell? ⟨m.f.g,11,none⟩=some (.slice (some ⟨m.gP,0,none⟩) p m.cP)∧W'.cell? ⟨m.f.g,12,none⟩=some (.slice (some ⟨m.gM,0,none⟩) p m.cM)∧W'.cell? ⟨m.f.g,13,none⟩=some (.slice (some ⟨m.gG,0,none⟩) p p)∧(∀ i,W'.cell? ⟨g16,i,none⟩=([.int .i64 lo,.int .i64 hi]:List Value)[i]?))
  (by kernel_rfl) (by kernel_rfl) (by intro d v c a w h;cases d <;> exact h) ?_
 replace HM:=K1 HM.out.drew
 generalize W1.drew=V1 at *
 refine PlS.reads_ (⟨blk_cells (HM.out.obj 0 rfl) 8,blk_cells (HM.out.obj 0 rfl) 9,blk_cells (HM.out.obj 0 rfl) 10,by rw [HPP.out];exact blk_cells (HM.out.obj 0 rfl) 11,by rw [HPP.out];exact blk_cells (HM.out.obj 0 rfl) 12,by rw [HPP.out];exact blk_cells (HM.out.obj 0 rfl) 13,HM.out.cells 16 rfl⟩) (by kernel_rfl) ?_
 simp only [pickO,p1,p2,p3,p4]
 apply Exists.intro
 apply And.intro
 · intro W' hS
   obtain ⟨s1,s2,s3,s4,s5,s6,s7⟩:=hS
   repeat still_step
   exact wpStill_nil rfl
 refine PlS.eff_ ?_
 simp only [pickO,p1,p2,p3,p4]
 go_wp2_with fail
 rw [HPP.out]
 refine (CA.out _ _ HM.out rfl rfl rfl).mono ?_
 rintro e w5 ⟨rfl,hm5⟩
 have HM5:=K1 (Mem.cast (hm5.fS2 rfl rfl) (show _=(({ m with P:=(appPM m.f.ru m.G lo m.P m.M (hi-lo)).1,M:=(appPM m.f.ru m.G lo m.P m.M (hi-lo)).2 }:Mc).ps++[.obj w.heap.size (.cells x.cells.toArray 146 (0,0)),_,_])++R from rfl))
 clear hm5 CA HM
 go_wp2_with fail
 refine After.go (⟨blk_cells (HM5.out.obj 0 rfl) 8,blk_cells (HM5.out.obj 0 rfl) 9,blk_cells (HM5.out.obj 0 rfl) 10,by rw [HPP.out];exact blk_cells (HM5.out.obj 0 rfl) 11,by rw [HPP.out];exact blk_cells (HM5.out.obj 0 rfl) 12,by rw [HPP.out];exact blk_cells (HM5.out.obj 0 rfl) 13,HM5.out.cells 16 rfl⟩) (PlS.fin_ ?_)
 have c0:w5.cell? ⟨m.f.g,18,none⟩=some (.slice m.Ao m.opn.length m.co):=blk_cells (HM5.out.obj 0 rfl) 18
 go_wp2_with fail
 refine (CD.out _ _ HM5.out rfl rfl).mono ?_
 rintro e w6 ⟨rfl,hm6⟩
 have HM6:=K1 hm6
 clear hm6 CD HM5 c0
 have c0:w6.cell? ⟨m.f.g,18,none⟩=some (.slice m.Ao m.opn.length m.co):=blk_cells (HM6.out.obj 0 rfl) 18
 have f0:∀ j,w6.frozen? ⟨m.f.g,j,none⟩=false:=fun j=>HM6.out.frozen 0 j rfl
 have HF:=K1 (HM6.out.set (i:=0) (j:=18) rfl (.slice m.Ao (m.opn.filter fun y=>!(y == x.n)).length m.co))
 clear HM6
 go_wp2_with fail
 go_ret
 refine ⟨rfl,?_⟩
 have h9:=Mem.cast HF.out (show _=(({ m with P:=(appPM m.f.ru m.G lo m.P m.M (hi-lo)).1,M:=(appPM m.f.ru m.G lo m.P m.M (hi-lo)).2,opn:=m.opn.filter fun y=>!(y == x.n) }:Mc).ps++[_,_,_])++R from rfl)
 exact h9.mid
set_option maxRecDepth 100000 in
theorem mrecord_any (w:World) (m:Mc) (R:List Ch) (h:Mem w (m.ps++R)) (ho:m.Ok) (x:It) (hb:m.cnt≤1000000) (vi vo:Value) :
  Calls Tryz.prog 204 #[.pointer (some ⟨m.f.g,0,none⟩),.agg x.cells.toArray,.agg #[vi,vo]] w fun e w'=>e=.returned (.int .i64 0)∧∃ A' c' Ap cp Am cm,Mem w' (({ m with Ar:=A',cr:=c',rcd:=m.rcd++[⟨Ap,m.P,cp,Am,m.M,cm⟩],G:=zeroL m.f.p }:Mc).ps++R):=by
 have hG:=ho.G.1
 have hp60:=ho.f.p
 have hrl:=ho.recs
 have hPl:=ho.P.1
 have hMl:=ho.M.1
 have CS:=K1 (fun (W:World) hA hB=>sclone_any W (some ⟨m.gP,0,none⟩) (some ⟨m.gM,0,none⟩) m.f.p m.cP m.cM m.P m.M hA hB ho.P.1 ho.M.1 (by omega))
 have HE:=K1 (fun (e:Ex)=>And.intro (exFam_snoc m.rcd e) (exCells_snoc m.rcd e))
 have HZ:=K1 (zeros_all m.f.p m.G hG)
 have HPL:=K1 (And.intro hPl hMl)
 have CZ:=K1 (fun (W:World) (L:List Ch) (hM:Mem W L) h1=>run_clear_mem (P:=Tryz.prog) 87 2 0 .i64 Tryz.underlying87 Tryz.zeroValue2 hM 1 (base:=m.BG) (N:=m.f.p) (C:=m.f.p) (g:=m.gG) (lo:=0) (n:=m.f.p) (xs:=zC m.G) h1 (by omega) (by omega) m.f.p)
 have hm0:=((h.alloc (.cells x.cells.toArray 146)).fA.alloc (.cells #[vi,vo] 313)).fA
 simp only [World.size_alloc] at hm0
 have HM:=K1 hm0
 have hrb:m.rcd.length≤1000001:=by omega
 clear hm0 h ho hG hPl hMl hrl
 go_enter Tryz.func204,Tryz.ntmps204
 go_wp2_with fail
 refine name_wp fun W0 hW=>?_
 replace HM:=K1 (hW.out.symm ▸ HM.out)
 clear hW
 refine wp_region_stage (.reads [0,1,2,3,4,5,6,7,8] (.eff 9 (.eff 10 (.eff 11 (.eff 12 (.reads [13] (.eff 14 .fin))))))) 14 (fun W'=>W'.cell? ⟨m.f.g,11,none⟩=some (.slice (some ⟨m.gP,0,none⟩) m.f.p m.cP)∧W'.cell? ⟨m.f.g,12,none⟩=some (.slice (some ⟨m.gM,0,none⟩) m.f.p m.cM)∧W'.cell? ⟨m.f.g,14,none⟩=some (.slice m.Ar m.rcd.length m.cr))
  (by kernel_rfl) (by kernel_rfl) (by intro d v c a w h;cases d <;> exact h) ?_
 replace HM:=K1 HM.out.drew
 generalize W0.drew=V at *
 refine PlS.reads_ (⟨blk_cells (HM.out.obj 0 rfl) 11,blk_cells (HM.out.obj 0 rfl) 12,blk_cells (HM.out.obj 0 rfl) 14⟩) (by kernel_rfl) ?_
 simp only [pickO,p1,p2,p3,p4]
 apply Exists.intro
 apply And.intro
 · intro W' hS
   obtain ⟨s1,s2,s3⟩:=hS
   repeat still_step
   exact wpStill_nil rfl
 refine PlS.eff_ ?_
 simp only [pickO,p1,p2,p3,p4]
 go_wp2_with fail
 refine (CS.out _ (rd_of_own (HM.out.own 2 rfl)) (rd_of_own (HM.out.own 3 rfl))).mono ?_
 rintro e w3 ⟨Ap,cp,Am,cm,rfl,hm3⟩
 replace HM:=K1 ((((HM.out.join hm3 (fun c hc hm=>by
  simp only [List.mem_cons,List.not_mem_nil,or_false] at hc
  rcases hc with rfl | rfl <;> exact absurd trivial hm)).fB.freeze (i:=16) rfl).fS rfl |>.freeze (i:=17) rfl).fS rfl)
 clear hm3 CS
 go_wp2_with fail
 refine After.go (⟨blk_cells (HM.out.obj 0 rfl) 11,blk_cells (HM.out.obj 0 rfl) 12,blk_cells (HM.out.obj 0 rfl) 14⟩) ?_
 refine PlS.eff_ ?_
 simp only [pickO,p1,p2,p3,p4]
 replace HM:=K1 ((HM.out.alloc (.cells #[.slice Ap m.f.p cp,.slice Am m.f.p cm] 89)).fA)
 go_wp2_with fail
 refine After.go (⟨blk_cells (HM.out.obj 0 rfl) 11,blk_cells (HM.out.obj 0 rfl) 12,blk_cells (HM.out.obj 0 rfl) 14⟩) ?_
 refine PlS.eff_ ?_
 simp only [pickO,p1,p2,p3,p4]
 refine wpList_append_mem (n:=m.rcd.length) rfl _ _ 85 rfl HM.out 4 rowSt rfl rfl _ 1 _ [.slice Ap m.f.p cp,.slice Am m.f.p cm] rfl (HM.out.box 18 rfl) rfl (by intro u hu;simp at hu;rcases hu with rfl | rfl <;> rfl) (by omega) ?_
 intro A' c' W5 hm5
 have HM5:=K1 ((((hm5.fS rfl).famSnoc (i:=5) (j:=16) rfl rfl).fS rfl |>.famSnoc (i:=5) (j:=17) rfl rfl).fS rfl)
 clear hm5 HM
 go_wp2_with fail
 refine After.go (⟨blk_cells (HM5.out.obj 0 rfl) 11,blk_cells (HM5.out.obj 0 rfl) 12,blk_cells (HM5.out.obj 0 rfl) 14⟩) ?_
 refine PlS.eff_ ?_
 simp only [pickO,p1,p2,p3,p4]
 go_wp2_with fail
 refine After.go (⟨blk_cells (HM5.out.obj 0 rfl) 11,blk_cells (HM5.out.obj 0 rfl) 12,blk_cells (HM5.out.obj 0 rfl) 14⟩) ?_
 refine PlS.reads_ (⟨blk_cells (HM5.out.obj 0 rfl) 11,blk_cells (HM5.out.obj 0 rfl) 12,blk_cells (HM5.out.obj 0 rfl) 14⟩) (by kernel_rfl) ?_
 simp only [pickO,p1,p2,p3,p4]
 apply Exists.intro
 apply And.intro
 · intro W' hS
   obtain ⟨s1,s2,s3⟩:=hS
   repeat still_step
   exact wpStill_nil rfl
 refine PlS.eff_ ?_
 simp only [pickO,p1,p2,p3,p4]
 have c0:=(blk_cells (HM5.out.obj 0 rfl) 14).trans (show _=some (.slice m.Ar m.rcd.length m.cr) from rfl)
 have f0:=fun j=>HM5.out.frozen 0 j rfl
 have HM6:=K1 ((HM5.out.set (i:=0) (j:=14) rfl (.slice A' (m.rcd.length+1) c')).fS rfl)
 clear HM5
 go_wp2_with fail
 refine After.last (by decide) (PlS.fin_ ?_)
 clear c0 f0
 have c0:=(blk_cells (HM6.out.obj 0 rfl) 13).trans (show _=some (.slice (some ⟨m.gG,0,none⟩) m.f.p m.f.p) from rfl)
 obtain ⟨w7,hrun,hm7⟩:=CZ.out _ _ HM6.out rfl
 rw [HZ.out] at hm7
 have HF:=K1 hm7
 clear hm7 CZ HM6
 go_wp2_with fail
 go_ret
 refine ⟨rfl,A',c',Ap,cp,Am,cm,?_⟩
 have h9:=Mem.cast HF.out (show _=(({ m with Ar:=A',cr:=c',rcd:=m.rcd++[⟨Ap,m.P,cp,Am,m.M,cm⟩],G:=zeroL m.f.p }:Mc).ps++[_,_,_,_,_])++R by simp only [Mc.ps,Mc.cells,List.length_append,List.length_singleton,(HE.out _).1,(HE.out _).2,HPL.out.1,HPL.out.2];rfl)
 exact h9.mid
set_option maxRecDepth 100000 in
theorem dclone_any (w:World) (A:Option Addr) (n cap:Nat) (l:List Ex) (hr:Rd w w.heap.size A (exCells l)) (hf:∀ a∈exFam l,Rd w w.heap.size a.1 a.2) (hl:l.length=n) (hn:n≤1000000) (hx:∀ e∈l,e.xs.length≤1048576∧e.ys.length≤1048576) :
  Calls Tryz.prog 66 #[.slice A n cap] w fun e w'=>∃ Ao co out,e=.returned (.slice Ao n co)∧out.map Ex.nums=l.map Ex.nums ∧
   (∀ a∈exFam out,∀ p:Addr,a.1=some p→w.heap.size≤p.block)∧Mem w' [.bel w.heap.size w,.own w.heap.size 140 2 (.slice Ao n co) n (exCells out),famCh (exFam out)]:=by
 have CM:=K1 (dmapped_any w A n cap l hr hf hl hn hx)
 clear hr hf hx hl
 go_enter Tryz.func66,Tryz.ntmps66
 go_wp2_with fail
 refine CM.out.mono ?_
 rintro e w1 ⟨Ao,co,out,rfl,h1,h2,h3⟩
 have H:=K1 (And.intro h1 (And.intro h2 h3))
 clear h1 h2 h3 CM
 go_wp2_with fail
 go_ret
 exact ⟨Ao,co,out,rfl,H.out.1,H.out.2.1,H.out.2.2⟩
set_option maxRecDepth 100000 in
theorem dpick1_any (w:World) (g n cap i:Nat) (A:Option Addr) (l:List Ex) (e:Ex) (hg:w.heap[g]?=some (.cells #[.slice A n cap] 25 (0,0))) (hr:Rd w w.heap.size A (exCells l)) (hA:Rd w w.heap.size e.ax (zC e.xs)) (hB:Rd w w.heap.size e.ay (zC e.ys)) (hl:l.length=n) (hn:n≤1000000) (he:l[i]?=some e) (hx:e.xs.length≤1048576∧e.ys.length≤1048576) :
  Calls Tryz.prog 221 #[.int .i64 i,.pointer (some ⟨g,0,none⟩)] w fun r w'=>∃ Ap cp Am cm,r=.returned (.tuple #[exV e.xs.length Ap cp e.ys.length Am cm,.bool true])∧Mem w' [.bel w.heap.size w,vOwn w.heap.size e.xs.length cp Ap e.xs,vOwn w.heap.size e.ys.length cm Am e.ys]:=by
 have CC:=K1 (fun W (hb:Below w.heap.size w W)=>dcopied_any W e.ax e.ay e.xs.length e.ys.length e.cx e.cy e.xs e.ys ((hA.below hb).more hb.size) ((hB.below hb).more hb.size) rfl rfl hx.1 hx.2)
 have hi:i<n:=by rw [← hl];exact (List.getElem?_eq_some_iff.1 he).1
 have hni:¬ n≤i:=by omega
 obtain ⟨b,off,rfl,_⟩:=hr (by rw [exCells_len];omega)
 have hm0:=(((Mem.start w).add_rd (i:=0) rfl hr).more (i:=0) (d:=.st (fun x=>x=g) (fun W=>W.heap[g]?=some (.cells #[.slice (some ⟨b,off,none⟩) n cap] 25 (0,0)))) rfl (fun h=>h) ⟨hg,fun x hx=>by cases hx;exact blk_lt hg,fun W1 W2 _ h1 h2=>(h1 g rfl).trans h2⟩ (fun h=>h) (fun x hx=>by cases hx;exact blk_lt hg)).alloc (.cells #[.slice none 0 0,.slice none 0 0] 140)
 have ⟨e1,e2⟩:=hm0.ex2 1 rfl he
 have c2:=blk_cells (hm0.st 2 rfl)
 have HM:=K1 hm0
 obtain ⟨ax,xs,cx,ay,ys,cy⟩:=e
 dsimp only at *
 generalize xs.length=nx at *
 generalize ys.length=ny at *
 clear hm0 hg hr hA hB hl he hx
 go_enter Tryz.func221,Tryz.ntmps221
 go_wp2_with fail
 refine name_calls fun W0 hW0=>?_
 replace HM:=K1 (hW0.out.symm ▸ HM.out)
 clear hW0 e1 e2 c2
 refine (CC.out _ (HM.out.bel 0 rfl)).mono ?_
 rintro e w2 ⟨Ap,cp,Am,cm,rfl,hm2⟩
 have hg:=(HM.out.bel 0 rfl).size
 have HM2:=K1 (((HM.out.join hm2 (fun c hc hm=>by
  simp only [List.mem_cons,List.not_mem_nil,or_false] at hc
  rcases hc with rfl | rfl <;> exact absurd trivial hm)).lower (i:=4) rfl hg).lower (i:=5) rfl hg)
 clear hm2 hg CC HM
 have c3:=HM2.out.cells 3 rfl
 have f3:=fun j=>HM2.out.frozen 3 j rfl
 have HF:=K1 ((HM2.out.set (i:=3) (j:=0) rfl (.slice Ap nx cp)).set (i:=3) (j:=1) rfl (.slice Am ny cm))
 clear HM2
 go_wp2_with fail
 clear c3 f3
 have c3:=HF.out.cells 3 rfl
 refine bodyPost_ret (v:=.tuple #[exV nx Ap cp ny Am cm,.bool true]) ?_ rfl ⟨_,_,_,_,rfl,HF.out.pick [0,4,5] _ rfl (by decide)⟩
 simp [results,Tryz.results221,go_sem,c3]
def exAt (l:List Ex) (js:List Nat):List (List Int × List Int):=js.map fun j=>((l[j]?).map Ex.nums).getD ([],[])
def dpP (w:World) (A:Option Addr) (l:List Ex) (B:Option Addr) (js:List Nat) (g n cap:Nat) (Ao:Option Addr) (k co:Nat) (out:List Ex):List Ch :=
 [.bel w.heap.size w,.rd A (exCells l),famCh (exFam l),.rd B (iCells js),.st (fun x=>x=g) (fun W=>W.heap[g]?=some (.cells #[.slice A n cap] 25 (0,0))),.own w.heap.size 140 2 (.slice Ao k co) k (exCells out),famCh (exFam out)]
set_option maxRecDepth 100000 in
theorem dmapi_any (w:World) (A B:Option Addr) (g n cap m cb:Nat) (l:List Ex) (js:List Nat) (hg:w.heap[g]?=some (.cells #[.slice A n cap] 25 (0,0))) (hr:Rd w w.heap.size A (exCells l)) (hf:∀ a∈exFam l,Rd w w.heap.size a.1 a.2) (hB:Rd w w.heap.size B (iCells js))
  (hl:l.length=n) (hn:n≤1000000) (hx:∀ e∈l,e.xs.length≤1048576∧e.ys.length≤1048576) (hm:js.length=m) (hmb:m≤1000000) (hj:∀ j∈js,j<n) :
  Calls Tryz.prog 220 #[.slice B m cb,.func (.func 221) #[] #[.pointer (some ⟨g,0,none⟩)]] w fun e w'=>∃ Ao co out,e=.returned (.tuple #[.slice Ao m co,.bool true])∧out.map Ex.nums=exAt l js ∧
   (∀ a∈exFam out,∀ p:Addr,a.1=some p→w.heap.size≤p.block)∧Mem w' [.bel w.heap.size w,.own w.heap.size 140 2 (.slice Ao m co) m (exCells out),famCh (exFam out)]:=by
 have HC:=K1 (fun (i:Nat) (e:Ex) (he:l[i]?=some e) (W:World) (h0:W.heap[g]?=some (.cells #[.slice A n cap] 25 (0,0))) (h3:Rd W W.heap.size A (exCells l)) (h1:Rd W W.heap.size e.ax (zC e.xs)) (h2:Rd W W.heap.size e.ay (zC e.ys))=>dpick1_any W g n cap i A l e h0 h3 h1 h2 hl hn he (hx e (List.mem_of_getElem? he)))
 have hA:0<m→∃ b off,B=some ⟨b,off,none⟩:=fun h0=>by
  obtain ⟨b,off,e,_⟩:=hB (by rw [iCells_len];omega)
  exact ⟨b,off,e⟩
 have HJ:=K1 (And.intro hj hl)
 have hm1:=((Mem.start w).add_rd (i:=0) rfl hr).more (i:=0) (d:=famCh (exFam l)) rfl (fun h=>h) (fam_local hf) (fun h=>h) (fun g hg=>by
  obtain ⟨a,ha,h0,p,hp,rfl⟩:=hg
  obtain ⟨b,off,e,hb,_⟩:=hf a ha h0
  rw [hp] at e;injection e with e;subst e;exact hb)
 have hm2:=(hm1.add_rd (i:=0) rfl hB).more (i:=0) (d:=.st (fun x=>x=g) (fun W=>W.heap[g]?=some (.cells #[.slice A n cap] 25 (0,0)))) rfl (fun h=>h) ⟨hg,fun x hx=>by cases hx;exact blk_lt hg,fun W1 W2 _ h1 h2=>(h1 g rfl).trans h2⟩ (fun h=>h) (fun x hx=>by cases hx;exact blk_lt hg)
 have HM0:=K1 ((hm2.add (c:=.own w.heap.size 140 2 (.slice none 0 0) 0 (exCells [])) ⟨own_nil _ _ _ _,Nat.le_refl _⟩ (fun _ _ _ _ g hg=>by cases hg)).add (c:=famCh (exFam [])) (fam_local (fun a ha=>by cases ha)) (fun _ _ _ _ g hg=>by obtain ⟨a,ha,_⟩:=hg;cases ha))
 clear hm1 hm2
 clear hr hf hx hg hB hj hl hn
 go_enter Tryz.func220,Tryz.ntmps220
 go_wp2_with fail
 go_loopw [6,13] (fun s6 i wr=>∃ (k:Nat) (Ao:Option Addr) (co:Nat) (out:List Ex),k≤m∧s6=.slice Ao k co∧i=.int .i64 k∧Hid (out.map Ex.nums=exAt l (js.take k))∧Hid (∀ a∈exFam out,∀ p:Addr,a.1=some p→w.heap.size≤p.block)∧Hid (Mem wr (dpP w A l B js g n cap Ao k co out))) (fun _ i _=>m-(intOf i).toNat)
 case atStart=>exact ⟨0,none,0,[],Nat.zero_le _,rfl,rfl,K1 rfl,K1 (fun a ha=>by cases ha),HM0⟩
 case round =>
  clear HM0
  obtain ⟨k,Ao,co,out,hk,rfl,rfl,HN,HB,HM⟩:=hrel
  by_cases hlt:k<m
  · obtain ⟨b,off,rfl⟩:=hA (by omega)
    obtain ⟨j,hj⟩:=get_some js k (by omega)
    have hjn:=HJ.out.1 j (List.mem_of_getElem? hj)
    obtain ⟨e,he⟩:=get_some l j (by rw [HJ.out.2];exact hjn)
    have hem:=List.mem_of_getElem? he
    have CC:=K1 (fun W=>HC.out j e he W)
    have e0:=HM.out.rdAt 3 rfl (show (iCells js)[k]?=some (.int .i64 j) by simp [iCells,hj])
    have HE:=K1 (And.intro (exFam_x hem) (exFam_y hem))
    have HT:=K1 (show exAt l (js.take (k+1))=exAt l (js.take k)++[(e.xs,e.ys)] by rw [List.take_add_one,hj];simp [exAt,he,Ex.nums])
    obtain ⟨ax,xs,cx,ay,ys,cy⟩:=e
    dsimp only at CC HE HT
    obtain ⟨nx,hnx⟩:∃ nx,nx=xs.length:=⟨_,rfl⟩
    obtain ⟨ny,hny⟩:∃ ny,ny=ys.length:=⟨_,rfl⟩
    rw [← hnx,← hny] at CC
    have HL:=K1 (And.intro hnx hny)
    clear he hem hnx hny hj hjn
    go_wp2_with fail
    refine name_calls fun W0 hW0=>?_
    have HM2:=K1 (hW0.out.symm ▸ HM.out)
    clear hW0 HM e0
    refine (CC.out _ (HM2.out.st 4 rfl) (HM2.out.rd 1 rfl) (HM2.out.st 2 rfl _ HE.out.1) (HM2.out.st 2 rfl _ HE.out.2)).mono ?_
    rintro e w2 ⟨Ap,cp,Am,cm,rfl,hm2⟩
    have hlo:=(HM2.out.bel 0 rfl).size
    have HB1:=K1 (show ∀ p:Addr,Ap=some p→w.heap.size≤p.block from fun p hp=>Nat.le_trans hlo (own_from_base (hm2.own 1 rfl) p hp))
    have HB2:=K1 (show ∀ p:Addr,Am=some p→w.heap.size≤p.block from fun p hp=>Nat.le_trans hlo (own_from_base (hm2.own 2 rfl) p hp))
    have HM3:=K1 (((HM2.out.join hm2 (fun c hc hm=>by
     simp only [List.mem_cons,List.not_mem_nil,or_false] at hc
     rcases hc with rfl | rfl <;> exact absurd trivial hm)).freeze (i:=7) rfl).freeze (i:=8) rfl)
    clear hm2 hlo CC HM2
    have hm5:=(HM3.out.alloc (.cells #[.slice Ap nx cp,.slice Am ny cm] 140)).alloc (.cells #[.slice Ap nx cp,.slice Am ny cm] 140)
    simp only [World.size_alloc] at hm5
    have HM5:=K1 hm5
    clear HM3 hm5
    go_wp2_with (at_builtin;refine wpList_append_mem rfl _ _ 25 rfl HM5.out 5 rowEx rfl rfl _ 1 _ [.slice Ap nx cp,.slice Am ny cm] rfl (HM5.out.box 10 rfl) rfl (by intro u hu;simp at hu;rcases hu with rfl | rfl <;> rfl) (by omega) ?_;intro A' c' W4 hM4)
    have HM6:=K1 (((hM4.famSnoc (i:=6) (j:=7) rfl rfl).famSnoc (i:=6) (j:=8) rfl rfl).front 7)
    clear hM4 HM5
    go_wp2_with fail
    go_roundw
    case rel =>
     refine ⟨k+1,A',c',out++[⟨Ap,xs,cp,Am,ys,cm⟩],by omega,rfl,by go_num,K1 ?_,K1 ?_,K1 ?_⟩
     · rw [HT.out,List.map_append,HN.out];rfl
     · rw [exFam_snoc]
       intro a ha p hp
       rcases List.mem_append.1 ha with ha | ha
       · rcases List.mem_append.1 ha with ha | ha
         · exact HB.out a ha p hp
         · rw [List.mem_singleton.1 ha] at hp;exact HB1.out p hp
       · rw [List.mem_singleton.1 ha] at hp;exact HB2.out p hp
     · unfold dpP
       rw [exFam_snoc,exCells_snoc]
       dsimp only
       rw [← HL.out.1,← HL.out.2]
       exact HM6.out
    case measure=>simp [intOf];omega
  · have hkn:k=m:=by omega
    subst hkn
    have HF:=K1 HM.out
    clear HM
    go_wp2_with fail
    go_ret2
    refine ⟨Ao,co,out,rfl,?_,HB.out,HF.out.pick [0,5,6] _ rfl (by decide)⟩
    rw [HN.out,List.take_of_length_le (by omega)]
set_option maxRecDepth 100000 in
theorem dpick_any (w:World) (A B:Option Addr) (n cap m cb:Nat) (l:List Ex) (js:List Nat) (hr:Rd w w.heap.size A (exCells l)) (hf:∀ a∈exFam l,Rd w w.heap.size a.1 a.2) (hB:Rd w w.heap.size B (iCells js))
  (hl:l.length=n) (hn:n≤1000000) (hx:∀ e∈l,e.xs.length≤1048576∧e.ys.length≤1048576) (hm:js.length=m) (hmb:m≤1000000) (hj:∀ j∈js,j<n) :
  Calls Tryz.prog 206 #[.slice A n cap,.slice B m cb] w fun e w'=>∃ Ao co out,e=.returned (.tuple #[.slice Ao m co,.bool true])∧out.map Ex.nums=exAt l js ∧
   (∀ a∈exFam out,∀ p:Addr,a.1=some p→w.heap.size≤p.block)∧Mem w' [.bel w.heap.size w,.own w.heap.size 140 2 (.slice Ao m co) m (exCells out),famCh (exFam out)]:=by
 have hbx:Below w.heap.size w (w.alloc (.cells #[.slice A n cap] 25)):=(Below.refl _ _).alloc (Nat.le_refl _) _
 have CM:=K1 (dmapi_any (w.alloc (.cells #[.slice A n cap] 25)) A B w.heap.size n cap m cb l js (heap_alloc_new _ _) ((hr.below hbx).more hbx.size) (fun a ha=>((hf a ha).below hbx).more hbx.size) ((hB.below hbx).more hbx.size) hl hn hx hm hmb hj)
 have HB:=K1 hbx
 clear hr hf hx hl hB hm hj hbx
 go_enter Tryz.func206,Tryz.ntmps206
 go_wp2_with fail
 refine CM.out.mono ?_
 rintro e w1 ⟨Ao,co,out,rfl,h1,h2,h3⟩
 have H:=K1 (And.intro h1 (And.intro h2 h3))
 clear h1 h2 h3 CM
 go_wp2_with fail
 go_ret2
 refine ⟨Ao,co,out,rfl,H.out.1,fun a ha p hp=>Nat.le_trans HB.out.size (H.out.2.1 a ha p hp),?_⟩
 have hm3:=H.out.2.2
 have hb3:Below w.heap.size w w1:=HB.out.trans ((hm3.bel 0 rfl).mono HB.out.size)
 refine Mem.cons_iff.2 ⟨⟨hb3,Nat.le_refl _⟩,((hm3.lower (i:=1) rfl HB.out.size).pick [1,2] _ rfl (by decide)),fun d hd hm g hg hg2=>?_⟩
 have hlt:g<(w.alloc (.cells #[.slice A n cap] 25)).heap.size:=Nat.lt_of_lt_of_le hg HB.out.size
 simp only [List.mem_cons,List.not_mem_nil,or_false] at hd
 rcases hd with rfl | rfl
 · have:=((hm3.own 1 rfl).lt g hg2).1
   omega
 · obtain ⟨a,ha,_,p,hp,rfl⟩:=hg2
   have:=H.out.2.1 a ha p hp
   omega
end Go.Proofs.YtdpojpcoghcieaaGreat
