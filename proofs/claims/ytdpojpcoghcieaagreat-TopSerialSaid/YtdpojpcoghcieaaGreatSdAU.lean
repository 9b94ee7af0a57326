/- A part of the proof of TopSerial: Peek, TagEq, Front, LinkQ, PlanStep, CountP. Conditions: none. -/
import Derived.Laws.StructEq
import Derived.Test.YtdpojpcoghcieaaGreatSdAT
set_option maxHeartbeats 8000000
namespace Go.Proofs.YtdpojpcoghcieaaGreat
open Lib renaming hid → K1
open List renaming filterMap_cons → p1, filterMap_nil → p2, getElem?_cons_zero → p3, getElem?_cons_succ → p4
open Go.RowKit
structure Tg where
 step:Nat
 bucket:Nat
 phase:Nat
 round:Nat
 chunk:Nat
def Tg.cells (t:Tg):List Value:=[.int .i64 t.step,.int .i64 t.bucket,.int .i64 t.phase,.int .i64 t.round,.int .i64 t.chunk]
structure Ms where
 t:Tg
 A:Option Addr
 c:Nat
 v:List Int
def Ms.cells (m:Ms):List Value:=m.t.cells++[.slice m.A m.v.length m.c]
def mcells (l:List Ms):List Value:=l.flatMap Ms.cells
theorem mcells_len (l:List Ms):(mcells l).length=l.length*6:=flat_len _ 6 (fun _=>rfl) l
theorem mcells_at {l:List Ms} {k:Nat} {m:Ms} (h:l[k]?=some m) {i:Nat} {u:Value} (hu:m.cells[i]?=some u):(mcells l)[k*6+i]?=some u:=flat_at Ms.cells 6 (fun _=>rfl) l k m h i u hu
set_option maxRecDepth 100000 in
theorem peek_any (w:World) (g n c cap se re pk:Nat) (A:Option Addr) (ms:List Ms) (m:Ms) (hg:w.heap[g]?=some (.cells (linkC A n c cap se re pk).toArray 172 (0,0))) (hr:Rd w w.heap.size A (mcells ms)) (hn:ms.length=n) (h1:re<se) (h2:se≤1000000000) (hc:1≤cap) (hm:ms[re % cap]?=some m) :
  Calls Tryz.prog 228 #[.pointer (some ⟨g,0,none⟩)] w fun e w'=>e=.returned (.tuple #[.agg m.t.cells.toArray,.bool true])∧Below w.heap.size w w':=by
 have HM:=K1 ((((Mem.start w).add_rd (i:=0) rfl hr).more (i:=0) (c:=.bel w.heap.size w) (d:=.st (fun x=>x=g) (fun W=>W.heap[g]?=some (.cells (linkC A n c cap se re pk).toArray 172 (0,0)))) rfl (fun h=>h) ⟨hg,fun x hx=>by cases hx;exact blk_lt hg,fun W1 W2 _ h1 h2=>(h1 g rfl).trans h2⟩ (fun h=>h) (fun x hx=>by cases hx;exact blk_lt hg)).alloc (.cells #[.int .i64 0,.int .i64 0,.int .i64 0,.int .i64 0,.int .i64 0] 71))
 have hk:re % cap<n:=by rw [← hn];exact (List.getElem?_eq_some_iff.1 hm).1
 obtain ⟨b,o,rfl,_,_⟩:=hr (by rw [mcells_len];omega)
 have CL:=K1 (fun (W:World) h=>linkLen_any W g n c cap se re pk (some ⟨b,o,none⟩) h (by omega) h2)
 have CP:=K1 (fun (W:World) h=>linkPlace_any W g n c cap se re pk re (some ⟨b,o,none⟩) h hc (by omega))
 obtain ⟨⟨st,bu,ph,ro,ch⟩,mA,mc,mv⟩:=m
 have HC:=K1 (fun i u (hu:(Ms.cells ⟨⟨st,bu,ph,ro,ch⟩,mA,mc,mv⟩)[i]?=some u)=>mcells_at hm hu)
 have hlen:se-re≠0:=by omega
 have hlb:se-re≤1000000000:=by omega
 generalize se-re=d at *
 generalize re % cap=k at *
 dsimp only [Tg.cells]
 clear hg hr hm hn h2 hc
 go_enter Tryz.func228,Tryz.ntmps228
 go_wp2_with fail
 refine (CL.out _ (blk_cells (HM.out.st 2 rfl))).mono ?_
 rintro e w1 ⟨rfl,q0,rfl⟩
 replace HM:=K1 (HM.out.drewN q0)
 clear CL
 go_wp2_with fail
 have HT:=K1 (show ∀ (W:World) (M:List Ch),Mem W M→M[1]?=some (.rd (some ⟨b,o,none⟩) (mcells ms))→W.cell? ⟨b,o+k*6,none⟩=some (.int .i64 st)∧W.cell? ⟨b,o+k*6+1,none⟩=some (.int .i64 bu)∧W.cell? ⟨b,o+k*6+2,none⟩=some (.int .i64 ph)∧W.cell? ⟨b,o+k*6+3,none⟩=some (.int .i64 ro)∧W.cell? ⟨b,o+k*6+4,none⟩=some (.int .i64 ch) from fun W M h hM=>⟨(by have:=h.rdAt 1 hM (HC.out 0 _ rfl);simpa only [Nat.add_assoc,Nat.add_zero] using this),(by have:=h.rdAt 1 hM (HC.out 1 _ rfl);simpa only [Nat.add_assoc,Nat.add_zero] using this),(by have:=h.rdAt 1 hM (HC.out 2 _ rfl);simpa only [Nat.add_assoc,Nat.add_zero] using this),(by have:=h.rdAt 1 hM (HC.out 3 _ rfl);simpa only [Nat.add_assoc,Nat.add_zero] using this),(by have:=h.rdAt 1 hM (HC.out 4 _ rfl);simpa only [Nat.add_assoc,Nat.add_zero] using this)⟩)
 refine name_wp fun W0 hW0=>?_
 replace HM:=K1 (hW0.out.symm ▸ HM.out)
 clear hW0
 refine wp_region_stage (.reads [0,1,2,3,4,5,6,7,8,9] (.eff 10 (.reads [11,12,13] (.eff 14 (.reads [15] (.fin)))))) 16 (fun W'=>(∀ i,W'.cell? ⟨g,i,none⟩=(linkC (some ⟨b,o,none⟩) n c cap se re pk)[i]?)∧W'.cell? ⟨b,o+k*6,none⟩=some (.int .i64 st)∧W'.cell? ⟨b,o+k*6+1,none⟩=some (.int .i64 bu)∧W'.cell? ⟨b,o+k*6+2,none⟩=some (.int .i64 ph)∧W'.cell? ⟨b,o+k*6+3,none⟩=some (.int .i64 ro)∧W'.cell? ⟨b,o+k*6+4,none⟩=some (.int .i64 ch))
  (by kernel_rfl) (by kernel_rfl) (by intro d v c a w h;cases d <;> exact h) ?_
 replace HM:=K1 HM.out.drew
 generalize W0.drew=V at *
 refine PlS.reads_ ⟨blk_cells (HM.out.st 2 rfl),HT.out _ _ HM.out rfl⟩ (by kernel_rfl) ?_
 simp only [pickO,p1,p2,p3,p4]
 apply Exists.intro
 apply And.intro
 · intro W' hS
   obtain ⟨s1,s2,s3,s4,s5,s6⟩:=hS
   repeat still_step
   exact wpStill_nil rfl
 refine PlS.eff_ ?_
 simp only [pickO,p1,p2,p3,p4]
 go_wp2_with fail
 refine (CP.out _ (blk_cells (HM.out.st 2 rfl))).mono ?_
 rintro e w2 ⟨rfl,rfl⟩
 go_wp2_with fail
 refine After.go ⟨blk_cells (HM.out.st 2 rfl),HT.out _ _ HM.out rfl⟩ ?_
 refine PlS.reads_ ⟨blk_cells (HM.out.st 2 rfl),HT.out _ _ HM.out rfl⟩ (by kernel_rfl) ?_
 simp only [pickO,p1,p2,p3,p4]
 apply Exists.intro
 apply And.intro
 · intro W' hS
   obtain ⟨s1,s2,s3,s4,s5,s6⟩:=hS
   repeat still_step
   exact wpStill_nil rfl
 refine PlS.eff_ ?_
 simp only [pickO,p1,p2,p3,p4]
 have c3:=HM.out.cells 3 rfl
 have f3:=fun j=>HM.out.frozen 3 j rfl
 have HF:=K1 (((((HM.out.set (i:=3) (j:=0) rfl (.int .i64 st)).set (i:=3) (j:=1) rfl (.int .i64 bu)).set (i:=3) (j:=2) rfl (.int .i64 ph)).set (i:=3) (j:=3) rfl (.int .i64 ro)).set (i:=3) (j:=4) rfl (.int .i64 ch))
 clear HM
 go_wp2_with fail
 refine After.go ⟨blk_cells (HF.out.st 2 rfl),HT.out _ _ HF.out rfl⟩ ?_
 clear c3 f3
 refine PlS.reads_ ⟨blk_cells (HF.out.st 2 rfl),HT.out _ _ HF.out rfl⟩ (by kernel_rfl) ?_
 simp only [pickO,p1,p2,p3,p4]
 apply Exists.intro
 apply And.intro
 · intro W' hS
   repeat still_step
   exact wpStill_nil rfl
 refine PlS.fin_ ?_
 have c3:=HF.out.cells 3 rfl
 go_wp2_with fail
 refine bodyPost_ret (v:=.tuple #[.agg #[.int .i64 st,.int .i64 bu,.int .i64 ph,.int .i64 ro,.int .i64 ch],.bool true]) ?_ rfl ⟨rfl,HF.out.bel 0 rfl⟩
 simp [results,Tryz.results228,go_sem,c3]
set_option maxRecDepth 100000 in
theorem peek_none (w:World) (g n c cap se pk:Nat) (A:Option Addr) (hg:w.heap[g]?=some (.cells (linkC A n c cap se se pk).toArray 172 (0,0))) (h2:se≤1000000000) :
  Calls Tryz.prog 228 #[.pointer (some ⟨g,0,none⟩)] w fun e w'=>e=.returned (.tuple #[.agg #[.int .i64 0,.int .i64 0,.int .i64 0,.int .i64 0,.int .i64 0],.bool false])∧Below w.heap.size w w':=by
 have HM:=K1 (((Mem.start w).more (i:=0) (c:=.bel w.heap.size w) (d:=.st (fun x=>x=g) (fun W=>W.heap[g]?=some (.cells (linkC A n c cap se se pk).toArray 172 (0,0)))) rfl (fun h=>h) ⟨hg,fun x hx=>by cases hx;exact blk_lt hg,fun W1 W2 _ h1 h2=>(h1 g rfl).trans h2⟩ (fun h=>h) (fun x hx=>by cases hx;exact blk_lt hg)).alloc (.cells #[.int .i64 0,.int .i64 0,.int .i64 0,.int .i64 0,.int .i64 0] 71))
 have CL:=K1 (fun (W:World) h=>linkLen_any W g n c cap se se pk A h (Nat.le_refl _) h2)
 rw [Nat.sub_self] at CL
 clear hg h2
 go_enter Tryz.func228,Tryz.ntmps228
 go_wp2_with fail
 refine (CL.out _ (blk_cells (HM.out.st 1 rfl))).mono ?_
 rintro e w1 ⟨rfl,q0,rfl⟩
 have HM1:=K1 (HM.out.drewN q0)
 have c2:=HM1.out.cells 2 rfl
 have f2:=fun j=>HM1.out.frozen 2 j rfl
 have HF:=K1 (((((HM1.out.set (i:=2) (j:=0) rfl (.int .i64 0)).set (i:=2) (j:=1) rfl (.int .i64 0)).set (i:=2) (j:=2) rfl (.int .i64 0)).set (i:=2) (j:=3) rfl (.int .i64 0)).set (i:=2) (j:=4) rfl (.int .i64 0))
 clear CL
 go_wp2_with fail
 have c4:=HF.out.cells 2 rfl
 refine bodyPost_ret (v:=.tuple #[.agg #[.int .i64 0,.int .i64 0,.int .i64 0,.int .i64 0,.int .i64 0],.bool false]) ?_ rfl ⟨rfl,HF.out.bel 0 rfl⟩
 simp [results,Tryz.results228,go_sem,c4]
section
variable {P:Program}
theorem part_int {e:TypeId} (ha:∀ w,(isAgg e).run P w=.ok false w) (cs:Array Value) (i:Nat) (v:Value) (h:cs[i]?=some v) (w:World):(part e cs i).run P w=.ok v w:=by
 simp [part,ha,h]
theorem run_neq_of {t:TypeId} {xs ys:Array Value} {b:Bool} {w:World} (h:(Op.equalIn 10000 t (.agg xs) (.agg ys)).run P w=.ok b w):(binOp .neq t (.agg xs) (.agg ys)).run P w=.ok (.bool (!b)) w:=by
 rw [run_neq_struct,h];rfl
end
theorem aggInt:∀ w,(isAgg 3).run Tryz.prog w=.ok false w:=fun w=>by simp [isAgg,run_underlying Tryz.underlying3 w]
theorem guardT (op:BinOp) (x y:Operand) (xs ys:Array Value) (w:World):(eqGuard op 71 x y (.agg xs) (.agg ys)).run Tryz.prog w=.ok () w:=run_eqGuard_agg w op _ x y xs ys (by kernel_rfl)
theorem eqT (a0 a1 a2 a3 a4 b0 b1 b2 b3 b4:Int) (w:World):(Op.equalIn 10000 71 (.agg #[.int .i64 a0,.int .i64 a1,.int .i64 a2,.int .i64 a3,.int .i64 a4]) (.agg #[.int .i64 b0,.int .i64 b1,.int .i64 b2,.int .i64 b3,.int .i64 b4])).run Tryz.prog w=.ok ((a0 == b0) && ((a1 == b1) && ((a2 == b2) && ((a3 == b3) && (a4 == b4))))) w:=by
 have hi:=fun (u v:Int) (w:World)=>run_equalIn_int (P:=Tryz.prog) w 9998 3 .i64 .i64 u v Tryz.underlying3
 rw [run_equalIn_struct (P:=Tryz.prog) w 9999 71 _ _ (by kernel_rfl) (by kernel_rfl)]
 have p0:∀ (x0 x1 x2 x3 x4:Int) (w:World),(part 3 #[.int .i64 x0,.int .i64 x1,.int .i64 x2,.int .i64 x3,.int .i64 x4] 0).run Tryz.prog w=.ok (.int .i64 x0) w:=fun _ _ _ _ _ w=>part_int aggInt _ 0 _ rfl w
 have p1:∀ (x0 x1 x2 x3 x4:Int) (w:World),(part 3 #[.int .i64 x0,.int .i64 x1,.int .i64 x2,.int .i64 x3,.int .i64 x4] 1).run Tryz.prog w=.ok (.int .i64 x1) w:=fun _ _ _ _ _ w=>part_int aggInt _ 1 _ rfl w
 have p2:∀ (x0 x1 x2 x3 x4:Int) (w:World),(part 3 #[.int .i64 x0,.int .i64 x1,.int .i64 x2,.int .i64 x3,.int .i64 x4] 2).run Tryz.prog w=.ok (.int .i64 x2) w:=fun _ _ _ _ _ w=>part_int aggInt _ 2 _ rfl w
 have p3:∀ (x0 x1 x2 x3 x4:Int) (w:World),(part 3 #[.int .i64 x0,.int .i64 x1,.int .i64 x2,.int .i64 x3,.int .i64 x4] 3).run Tryz.prog w=.ok (.int .i64 x3) w:=fun _ _ _ _ _ w=>part_int aggInt _ 3 _ rfl w
 have p4:∀ (x0 x1 x2 x3 x4:Int) (w:World),(part 3 #[.int .i64 x0,.int .i64 x1,.int .i64 x2,.int .i64 x3,.int .i64 x4] 4).run Tryz.prog w=.ok (.int .i64 x4) w:=fun _ _ _ _ _ w=>part_int aggInt _ 4 _ rfl w
 simp only [Program.fieldsOf,Tryz.underlying71]
 by_cases h0:a0=b0
 · by_cases h1:a1=b1
   · by_cases h2:a2=b2
     · by_cases h3:a3=b3
       · by_cases h4:a4=b4
         · simp [Op.eqFields,p0,p1,p2,p3,p4,hi,h0,h1,h2,h3,h4]
         · simp [Op.eqFields,p0,p1,p2,p3,p4,hi,h0,h1,h2,h3,h4]
       · simp [Op.eqFields,p0,p1,p2,p3,hi,h0,h1,h2,h3]
     · simp [Op.eqFields,p0,p1,p2,hi,h0,h1,h2]
   · simp [Op.eqFields,p0,p1,hi,h0,h1]
 · simp [Op.eqFields,p0,hi,h0]
theorem neqT (a0 a1 a2 a3 a4 b0 b1 b2 b3 b4:Int) (w:World):(binOp .neq 71 (.agg #[.int .i64 a0,.int .i64 a1,.int .i64 a2,.int .i64 a3,.int .i64 a4]) (.agg #[.int .i64 b0,.int .i64 b1,.int .i64 b2,.int .i64 b3,.int .i64 b4])).run Tryz.prog w=.ok (.bool (!((a0 == b0) && ((a1 == b1) && ((a2 == b2) && ((a3 == b3) && (a4 == b4))))))) w:=run_neq_of (eqT a0 a1 a2 a3 a4 b0 b1 b2 b3 b4 w)
end Go.Proofs.YtdpojpcoghcieaaGreat
namespace Go.Proofs.YtdpojpcoghcieaaGreat
open Go.RowKit
namespace Mem
variable {W W':World} {X R:List Ch}
theorem fA {c:Ch} (h:Mem W ((X++R)++[c])):Mem W ((X++[c])++R):=h.perm (by
 rw [List.append_assoc,List.append_assoc]
 exact List.Perm.append_left X List.perm_append_comm)
theorem fB {Y:List Ch} (h:Mem W ((X++R)++Y)):Mem W ((X++Y)++R):=h.perm (by
 rw [List.append_assoc,List.append_assoc]
 exact List.Perm.append_left X List.perm_append_comm)
theorem fS {i:Nat} {c d:Ch} (h:Mem W ((X++R).set i c)) (hi:X[i]?=some d):Mem W (X.set i c++R):=by
 rw [set_app hi] at h
 exact h
theorem fS2 {o i:Nat} {x y c d:Ch} (h:Mem W (two (X++R) o i x y)) (ho:X[o]?=some c) (hi:X[i]?=some d):Mem W ((X.set o x).set i y++R):=by
 unfold two at h
 rw [set_app ho] at h
 have hx:∃ e,(X.set o x)[i]?=some e:=get_some _ i (by rw [List.length_set];exact (List.getElem?_eq_some_iff.1 hi).1)
 obtain ⟨e,he⟩:=hx
 rw [set_app he] at h
 exact h
theorem sub_ {L L':List Ch} (h:Mem W L) (hs:L'.Sublist L):Mem W L':=by
 induction hs with
 | slnil=>exact h
 | cons a _ ih=>exact ih (cons_iff.1 h).2.1
 | cons_cons a hs ih =>
   obtain ⟨h1,h2,h3⟩:=cons_iff.1 h
   exact cons_iff.2 ⟨h1,ih h2,fun d hd=>h3 d (hs.subset hd)⟩
theorem mid {Y:List Ch} (h:Mem W ((X++Y)++R)):Mem W (X++R):=h.sub_ (by
 rw [List.append_assoc]
 exact List.Sublist.append_left (List.sublist_append_right Y R) X)
theorem swap {Y:List Ch} (h:Mem W (X++(Y++R))):Mem W (Y++(X++R)):=h.perm (by
 rw [← List.append_assoc,← List.append_assoc]
 exact List.Perm.append_right R List.perm_append_comm)
section
variable {L:List Ch} {g i:Nat} {t:TypeId}
theorem set2 {a0 a1:Value} (h:Mem W L) (hi:L[i]?=some (.obj g (.cells #[a0,a1] t (0,0)))) (v0 v1:Value) :
  Mem ((W.setCell ⟨g,0,none⟩ v0).setCell ⟨g,1,none⟩ v1) (L.set i (.obj g (.cells #[v0,v1] t (0,0)))):=by
 have h1:=(h.set (j:=0) hi v0).set (j:=1) (at_set hi) v1
 simp only [List.set_set] at h1
 exact h1
theorem set6 {a0 a1 a2 a3 a4 a5:Value} (h:Mem W L) (hi:L[i]?=some (.obj g (.cells #[a0,a1,a2,a3,a4,a5] t (0,0)))) (v0 v1 v2 v3 v4 v5:Value) :
  Mem ((((((W.setCell ⟨g,0,none⟩ v0).setCell ⟨g,1,none⟩ v1).setCell ⟨g,2,none⟩ v2).setCell ⟨g,3,none⟩ v3).setCell ⟨g,4,none⟩ v4).setCell ⟨g,5,none⟩ v5) (L.set i (.obj g (.cells #[v0,v1,v2,v3,v4,v5] t (0,0)))):=by
 have h1:=(h.set (j:=0) hi v0).set (j:=1) (at_set hi) v1
 have h2:=(h1.set (j:=2) (at_set (at_set hi)) v2).set (j:=3) (at_set (at_set (at_set hi))) v3
 have h3:=(h2.set (j:=4) (at_set (at_set (at_set (at_set hi)))) v4).set (j:=5) (at_set (at_set (at_set (at_set (at_set hi))))) v5
 simp only [List.set_set] at h3
 exact h3
theorem setOwn6 {base e size n cap k:Nat} {xs:List Value} (h:Mem W L) (hi:L[i]?=some (.own base e size (.slice (some ⟨g,0,none⟩) n cap) n xs)) (v0 v1 v2 v3 v4 v5:Value) :
  Mem ((((((W.setCell ⟨g,k,none⟩ v0).setCell ⟨g,k+1,none⟩ v1).setCell ⟨g,k+2,none⟩ v2).setCell ⟨g,k+3,none⟩ v3).setCell ⟨g,k+4,none⟩ v4).setCell ⟨g,k+5,none⟩ v5)
   (L.set i (.own base e size (.slice (some ⟨g,0,none⟩) n cap) n ((((((xs.set k v0).set (k+1) v1).set (k+2) v2).set (k+3) v3).set (k+4) v4).set (k+5) v5))):=by
 have h1:=(h.setOwn (j:=k) hi v0).setOwn (j:=k+1) (at_set hi) v1
 have h2:=(h1.setOwn (j:=k+2) (at_set (at_set hi)) v2).setOwn (j:=k+3) (at_set (at_set (at_set hi))) v3
 have h3:=(h2.setOwn (j:=k+4) (at_set (at_set (at_set (at_set hi)))) v4).setOwn (j:=k+5) (at_set (at_set (at_set (at_set (at_set hi))))) v5
 simp only [List.set_set] at h3
 exact h3
end
end Mem
end Go.Proofs.YtdpojpcoghcieaaGreat
namespace Go.Proofs.YtdpojpcoghcieaaGreat
open Lib renaming hid → K1
open Go.RowKit
def lfam (ms:List Ms):List (Option Addr × List Value):=ms.map fun m=>(m.A,zC m.v)
theorem lfam_mem {ms:List Ms} {k:Nat} {m:Ms} (h:ms[k]?=some m):(m.A,zC m.v)∈lfam ms:=List.mem_map.2 ⟨m,List.mem_of_getElem? h,rfl⟩
def qAt (cap:Nat) (ms:List Ms) (k:Nat):Tg × List Int:=((ms[k % cap]?).map fun m=>(m.t,m.v)).getD (⟨0,0,0,0,0⟩,[])
def qL (cap se re:Nat) (ms:List Ms):List (Tg × List Int):=(List.range (se-re)).map fun j=>qAt cap ms (re+j)
structure LinkOk (n cap se re:Nat) (ms:List Ms):Prop where
 len:ms.length=n
 few:n=min se cap
 le:re≤se
 room:se-re≤cap
 cp:1≤cap∧cap≤1048576
 vals:∀ m∈ms,m.v.length≤1000∧m.v.length≤m.c∧In64 m.v
def putMs (cap se:Nat) (ms:List Ms) (m:Ms):List Ms:=if se % cap<ms.length then ms.set (se % cap) m else ms++[m]
theorem qL_nil (cap se:Nat) (ms:List Ms):qL cap se se ms=[]:=by simp [qL]
theorem qL_len (cap se re:Nat) (ms:List Ms):(qL cap se re ms).length=se-re:=by simp [qL]
theorem LinkOk.first {n cap se re:Nat} {ms:List Ms} (h:LinkOk n cap se re ms) (hlt:re<se):∃ m,ms[re % cap]?=some m∧qL cap se re ms=(m.t,m.v)::qL cap se (re+1) ms:=by
 have h1:=h.len
 have h2:=h.few
 have h3:=h.cp
 have h4:re % cap<cap:=Nat.mod_lt _ h3.1
 have h5:re % cap≤re:=Nat.mod_le _ _
 obtain ⟨m,hm⟩:=get_some ms (re % cap) (by omega)
 refine ⟨m,hm,?_⟩
 have e:se-re=(se-(re+1))+1:=by omega
 rw [qL,e,List.range_succ_eq_map,List.map_cons,List.map_map,qL]
 refine congr (congrArg _ ?_) ?_
 · simp [qAt,hm]
 · refine List.map_congr_left fun j _=>?_
   show qAt cap ms (re+(j+1))=_
   rw [show re+(j+1)=re+1+j by omega]
theorem LinkOk.recv {n cap se re:Nat} {ms:List Ms} (h:LinkOk n cap se re ms) (hlt:re<se):LinkOk n cap se (re+1) ms :=
 ⟨h.len,h.few,hlt,by have:=h.room;omega,h.cp,h.vals⟩
theorem mod_apart {a b c:Nat} (h1:a<b) (h2:b-a<c):a % c≠b % c:=fun e=>by
 have h3:=Nat.sub_mod_eq_zero_of_mod_eq e.symm
 rw [Nat.mod_eq_of_lt h2] at h3
 omega
theorem LinkOk.put_len {n cap se re:Nat} {ms:List Ms} (h:LinkOk n cap se re ms) (m:Ms):(putMs cap se ms m).length=min (se+1) cap:=by
 have h1:=h.len
 have h2:=h.few
 have h3:=h.cp
 have h4:se % cap<cap:=Nat.mod_lt _ h3.1
 have h5:se % cap≤se:=Nat.mod_le _ _
 unfold putMs
 split
 · rename_i hlt
   rw [List.length_set]
   rcases Nat.lt_or_ge se cap with h6 | h6
   · rw [Nat.mod_eq_of_lt h6] at hlt;omega
   · omega
 · rename_i hlt
   rw [List.length_append,List.length_singleton]
   omega
theorem LinkOk.send {n cap se re:Nat} {ms:List Ms} (h:LinkOk n cap se re ms) (hlt:se-re<cap) (m:Ms) (hv:m.v.length≤1000∧m.v.length≤m.c∧In64 m.v) :
  LinkOk (min (se+1) cap) cap (se+1) re (putMs cap se ms m)∧qL cap (se+1) re (putMs cap se ms m)=qL cap se re ms++[(m.t,m.v)]:=by
 have h0:=h.le
 have h1:=h.len
 have h2:=h.few
 have h3:=h.cp
 have h4:se % cap<cap:=Nat.mod_lt _ h3.1
 have h5:se % cap≤se:=Nat.mod_le _ _
 refine ⟨⟨h.put_len m,rfl,by omega,by omega,h3,fun x hx=>?_⟩,?_⟩
 · unfold putMs at hx
   split at hx
   · rcases List.mem_or_eq_of_mem_set hx with hx | rfl
     · exact h.vals x hx
     · exact hv
   · rcases List.mem_append.1 hx with hx | hx
     · exact h.vals x hx
     · simp at hx;subst hx;exact hv
 · have e:se+1-re=(se-re)+1:=by omega
   rw [qL,e,List.range_succ,List.map_append,List.map_singleton,qL]
   refine congr (congrArg _ (List.map_congr_left fun j hj=>?_)) ?_
   · have hj:=List.mem_range.1 hj
     have hne:(re+j) % cap≠se % cap:=mod_apart (by omega) (by omega)
     unfold qAt putMs
     split
     · rw [List.getElem?_set_ne (Ne.symm hne)]
     · rename_i hge
       have h6:se<cap:=by omega
       rw [List.getElem?_append_left]
       rw [Nat.mod_eq_of_lt (by omega)]
       omega
   · rw [show re+(se-re)=se by omega]
     unfold qAt putMs
     split
     · rename_i hlt
       rw [List.getElem?_set_self hlt]
       rfl
     · rename_i hge
       have h6:se % cap=ms.length:=by
        rcases Nat.lt_or_ge se cap with h6 | h6
        · rw [Nat.mod_eq_of_lt h6] at hge ⊢;omega
        · omega
       rw [h6,List.getElem?_append_right (Nat.le_refl _),Nat.sub_self]
       rfl
theorem PlanAt.cells {W:World} {lo hi gp:Nat} {c:Kf} {p:Nat} (h:PlanAt W lo hi gp c p) (hh:hi≤W.heap.size):∃ As ns cs Ab cb Ag cg Al cl,
  (∀ i,W.cell? ⟨gp,i,none⟩=([.slice As ns cs,.int .i64 c.sh,.int .i64 c.ra,.int .i64 c.mo,.int .i64 c.k,.int .i64 c.ba,.int .i64 c.mi,.int .i64 c.st,.int .i64 c.bu,.int .i64 c.s,.int .i64 c.wi,.int .i64 c.ca,.slice Ab (plBs c p).length cb,.slice Ag (plGs c p).length cg,.slice Al c.k cl]:List Value)[i]?) ∧
  Rd W W.heap.size Ab (rcells (plBs c p))∧Rd W W.heap.size Ag (rcells (plGs c p))∧RdI W W.heap.size Al (plLens c p c.k)∧(plBs c p).length≤cb∧(plGs c p).length≤cg∧c.k≤cl:=by
 obtain ⟨_,As,ns,cs,Ab,cb,Ag,cg,Al,cl,h1,h2,h3,h4,h5⟩:=h
 refine ⟨As,ns,cs,Ab,cb,Ag,cg,Al,cl,fun i=>?_,h2.rd hh,h3.rd hh,h4.rd hh,h5⟩
 rw [blk_cell h1 i]
 simp [sgOf,Sg.cells]
set_option maxRecDepth 100000 in
theorem planBuckets_any (w:World) (lo hi gp:Nat) (c:Kf) (p:Nat) (h:PlanAt w lo hi gp c p) (hh:hi≤w.heap.size) (hc:c.Ok) (hp:p≤60) :
  Calls Tryz.prog 67 #[.pointer (some ⟨gp,0,none⟩)] w fun e w'=>∃ A cc,e=.returned (.slice A (plBs c p).length cc)∧OwnR w' w.heap.size (.slice A (plBs c p).length cc) (plBs c p)∧(plBs c p).length≤cc∧Below w.heap.size w w':=by
 obtain ⟨As,ns,cs,Ab,cb,Ag,cg,Al,cl,h1,h2,h3,h4,h5,h6,h7⟩:=h.cells hh
 have hl:=(plBs_ok hc hp).2.1
 have C:=K1 (cloneR_any Ab (plBs c p).length cb (rcells (plBs c p)) w h2 (rcells_len _) (by intro u hu;obtain ⟨q,_,hq⟩:=List.mem_flatMap.1 hu;simp at hq;rcases hq with rfl | rfl <;> rfl) (by omega))
 have h12:=h1 12
 clear h1 h h2 h3 h4
 simp at h12
 go_enter Tryz.func67,Tryz.ntmps67
 go_wp2_with fail
 (with_reducible refine C.out.mono ?_)
 rintro e w1 ⟨A,cc,rfl,hv,hcc,hb⟩
 have H:=K1 (And.intro hv hb)
 clear hv hb
 go_wp2_with fail
 go_ret
 exact ⟨A,cc,rfl,H.out.1,hcc,H.out.2⟩
set_option maxRecDepth 100000 in
theorem planLen_any (w:World) (lo hi gp:Nat) (c:Kf) (p u:Nat) (h:PlanAt w lo hi gp c p) (hh:hi≤w.heap.size) (hu:u<c.k) :
  Calls Tryz.prog 114 #[.pointer (some ⟨gp,0,none⟩),.int .i64 u] w fun e w'=>e=.returned (.int .i64 (plIts c p 0 u).length)∧w=w':=by
 obtain ⟨As,ns,cs,Ab,cb,Ag,cg,Al,cl,h1,h2,h3,h4,h5,h6,h7⟩:=h.cells hh
 obtain ⟨b,off,rfl,_,hx⟩:=h4.at_ (by rw [plLens_len];omega)
 have hxu:=hx u ((plIts c p 0 u).length:Int) (by simp [plLens,hu])
 have h14:=h1 14
 simp at h14
 clear h1 h h2 h3 h4 hx
 generalize (plIts c p 0 u).length=ln at *
 go_enter Tryz.func114,Tryz.ntmps114
 go_wp2
 go_ret
 exact ⟨rfl,rfl⟩
theorem plIts_pos (c:Kf) (p t u:Nat):0<(plIts c p t u).length:=by simp [plIts,itemsL];omega
set_option maxRecDepth 100000 in
theorem planStep_any (w:World) (lo hi gp:Nat) (c:Kf) (p u t:Nat) (h:PlanAt w lo hi gp c p) (hh:hi≤w.heap.size) (hc:c.Ok) (hp:p≤60) (hu:u<c.k) (ht:t<c.st) :
  Calls Tryz.prog 69 #[.pointer (some ⟨gp,0,none⟩),.int .i64 u,.int .i64 t] w fun e w'=>∃ A cc,e=.returned (.slice A (plIts c p t u).length cc) ∧
   w'.ownsRow w.heap.size 146 12 (.slice A (plIts c p t u).length cc) (plIts c p t u).length (icells (plIts c p t u))∧Below w.heap.size w w':=by
 obtain ⟨As,ns,cs,Ab,cb,Ag,cg,Al,cl,h1,h2,h3,h4,h5,h6,h7⟩:=h.cells hh
 have hok:=plBs_ok hc hp
 have CL:=K1 (planLen_any w lo hi gp c p u h hh hu)
 have CI:Hid (Calls Tryz.prog 108 #[.agg (sgOf c p As ns cs Ab cb Ag cg).cells.toArray,.int .i64 u,.int .i64 t] w fun e w'=>∃ A cc,e=.returned (.slice A (plIts c p t u).length cc) ∧
   w'.ownsRow w.heap.size 146 12 (.slice A (plIts c p t u).length cc) (plIts c p t u).length (icells (plIts c p t u))∧Below w.heap.size w w') :=
  K1 (items_any w (sgOf c p As ns cs Ab cb Ag cg) u t h2 h3 hc.k hu hc.s hok.1 hok.2.1 h5 hok.2.2.1 hok.2.2.2 h6 hc.mi.2)
 have hps:=plIts_pos c p 0 u
 have hne:((plIts c p 0 u).length:Int)≠0:=by omega
 have hne2:(((plIts c p 0 u).length:Int) == 0)=false:=beq_eq_false_iff_ne.2 (by omega)
 have HP:=K1 hps
 have hst:=hc.st
 clear h h2 h3 h4 hok
 dsimp only [sgOf,Sg.cells] at CI
 generalize plIts c p t u=its at *
 generalize hln:(plIts c p 0 u).length=ln at *
 have HLN:=K1 hln
 clear hln
 have hlp:0<ln:=by omega
 generalize plBs c p=bs at *
 generalize plGs c p=gs at *
 obtain ⟨sh,ra,mo,k,ba,mi,st,bu,s,wi,ca⟩:=c
 dsimp only at *
 go_enter Tryz.func69,Tryz.ntmps69
 go_wp2_with fail
 (with_reducible refine CL.out.mono ?_)
 rintro e w1 ⟨rfl,rfl⟩
 go_wp2_with fail
 (with_reducible refine CI.out.mono ?_)
 rintro e w1 ⟨A,cc,rfl,hv,hb⟩
 have H:=K1 (And.intro hv hb)
 clear hv hb
 go_wp2_with fail
 go_ret
 exact ⟨A,cc,rfl,H.out.1,H.out.2⟩
set_option maxRecDepth 100000 in
theorem planStep_end (w:World) (lo hi gp:Nat) (c:Kf) (p u t:Nat) (h:PlanAt w lo hi gp c p) (hh:hi≤w.heap.size) (hu:u<c.k) (ht:c.st≤t) :
  Calls Tryz.prog 69 #[.pointer (some ⟨gp,0,none⟩),.int .i64 u,.int .i64 t] w fun e w'=>e=.returned (.slice none 0 0)∧w=w':=by
 obtain ⟨As,ns,cs,Ab,cb,Ag,cg,Al,cl,h1,h2,h3,h4,h5,h6,h7⟩:=h.cells hh
 have CL:=K1 (planLen_any w lo hi gp c p u h hh hu)
 have hps:=plIts_pos c p 0 u
 have hne2:(((plIts c p 0 u).length:Int) == 0)=false:=beq_eq_false_iff_ne.2 (by omega)
 have h77:=h1 7
 simp at h77
 clear h h2 h3 h4 h1
 generalize (plIts c p 0 u).length=ln at *
 go_enter Tryz.func69,Tryz.ntmps69
 go_wp2_with fail
 (with_reducible refine CL.out.mono ?_)
 rintro e w1 ⟨rfl,rfl⟩
 go_wp2_with fail
 go_ret
 exact ⟨rfl,rfl⟩
def sumR (f:Nat→Nat):Nat→Nat
 | 0=>0
 | n+1=>sumR f n+f n
theorem sumR_congr {f g:Nat→Nat}:∀ {n:Nat},(∀ i,i<n→f i=g i)→sumR f n=sumR g n
 | 0,_=>rfl
 | n+1,h=>by rw [sumR,sumR,sumR_congr (fun i hi=>h i (by omega)),h n (by omega)]
theorem sumR_add (f g:Nat→Nat):∀ n,sumR (fun i=>f i+g i) n=sumR f n+sumR g n
 | 0=>rfl
 | n+1=>by simp only [sumR];rw [sumR_add f g n];omega
theorem sumR_const (c:Nat):∀ n,sumR (fun _=>c) n=n*c
 | 0=>by simp [sumR]
 | n+1=>by rw [sumR,sumR_const c n,Nat.succ_mul]
theorem sumR_mul (c:Nat) (f:Nat→Nat):∀ n,sumR (fun i=>c*f i) n=c*sumR f n
 | 0=>by simp [sumR]
 | n+1=>by simp only [sumR];rw [sumR_mul c f n,Nat.mul_add]
theorem sumR_swap (f:Nat→Nat→Nat) (m:Nat):∀ n,sumR (fun i=>sumR (fun j=>f i j) m) n=sumR (fun j=>sumR (fun i=>f i j) n) m
 | 0=>by
   simp only [sumR]
   induction m with
   | zero=>rfl
   | succ m ih=>simp only [sumR];omega
 | n+1=>by simp only [sumR];rw [sumR_swap f m n,← sumR_add]
theorem sumR_app (f:Nat→Nat) (n:Nat):∀ m,sumR f (n+m)=sumR f n+sumR (fun i=>f (n+i)) m
 | 0=>by simp [sumR]
 | m+1=>by rw [← Nat.add_assoc,sumR,sumR_app f n m,sumR];omega
theorem flat_sum {α:Type} (f:Nat→List α):∀ n,((List.range n).flatMap f).length=sumR (fun i=>(f i).length) n
 | 0=>rfl
 | n+1=>by rw [List.range_succ,List.flatMap_append,List.length_append,flat_sum f n];simp [sumR]
def segCnt (j:Jb) (i:Nat):Nat:=(segChunks j.chunk ((jobSegs j)[i]?.getD (0,0))).length
theorem addsTo_cnt (j:Jb) (ph r:Nat) (xs ys:List (Nat × Nat)):∀ n,(addsTo j ph r xs ys n).length=min n xs.length+min n ys.length
 | 0=>by simp [addsTo]
 | n+1=>by
   rw [addsTo_succ,List.length_append,addsTo_cnt j ph r xs ys n]
   unfold addsAt
   rcases Nat.lt_or_ge n xs.length with h | h <;> rcases Nat.lt_or_ge n ys.length with k | k
   · rw [List.getElem?_eq_getElem h,List.getElem?_eq_getElem k];simp;omega
   · rw [List.getElem?_eq_getElem h,List.getElem?_eq_none k];simp;omega
   · rw [List.getElem?_eq_none h,List.getElem?_eq_getElem k];simp;omega
   · rw [List.getElem?_eq_none h,List.getElem?_eq_none k];simp;omega
theorem roundL_cnt (j:Jb) (u ph r:Nat):(roundL j u ph r).length=segCnt j (segS j.workers u ph r)+segCnt j (segR j.workers u ph r):=by
 unfold roundL segCnt
 rw [addsTo_cnt]
 rw [Nat.min_eq_right (Nat.le_max_left _ _),Nat.min_eq_right (Nat.le_max_right _ _)]
theorem rndB_cnt (bs:List (Nat × Nat)) (k s t w q b:Nat):(rndB bs k s t w q b).length=(roundL (jobOf bs k s t b) w (q / (k-1)) (q % (k-1))).length:=by simp [rndB]
def bktCnt (bs:List (Nat × Nat)) (k s t w b:Nat):Nat:=2+sumR (fun q=>(rndB bs k s t w q b).length) (2*(k-1))
theorem groupL_cnt (bs:List (Nat × Nat)) (k s t w:Nat) (g:Nat × Nat):(groupL bs k s t w g).length=sumR (fun i=>bktCnt bs k s t w (g.1+i)) (g.2-g.1):=by
 unfold groupL roundsL rndsTo rndBs bktCnt
 rw [List.length_append,List.length_append,fromTo_len,fromTo_len,flat_sum,sumR_congr (g:=fun q=>sumR (fun i=>(rndB bs k s t w q (g.1+i)).length) (g.2-g.1)) (fun q _=>flat_sum _ _),sumR_swap,sumR_add,sumR_const]
 omega
theorem blocks_sum {α:Type} (F:Nat × Nat→List α) (f:Nat→Nat) (hF:∀ g,(F g).length=sumR (fun i=>f (g.1+i)) (g.2-g.1)) (n s:Nat) (hs:1≤s):((blocksL n s).flatMap F).length=sumR f n:=by
 have key:∀ k,k≤pcnt n s→(((List.range k).map (blk1 n s)).flatMap F).length=sumR f (min (k*s) n):=by
  intro k
  induction k with
  | zero=>intro _;simp [sumR]
  | succ k ih =>
    intro hk
    have hlt:=pcnt_lt hs (show k<pcnt n s by omega)
    rw [List.range_succ,List.map_append,List.flatMap_append,List.length_append,ih (by omega)]
    simp only [List.map_cons,List.map_nil,List.flatMap_cons,List.flatMap_nil,List.append_nil]
    rw [hF]
    unfold blk1
    dsimp only
    rw [Nat.min_eq_left (Nat.le_of_lt hlt),Nat.add_sub_cancel_left,← sumR_app]
    congr 1
    rw [Nat.succ_mul]
    omega
 have h:=key (pcnt n s) (Nat.le_refl _)
 rw [blocksL,h]
 congr 1
 unfold pcnt
 split
 · omega
 · have h1:=Nat.div_add_mod (n-1) s
   have h2:=Nat.mod_lt (n-1) hs
   rw [Nat.succ_mul,Nat.mul_comm]
   omega
theorem items_cnt (c:Kf) (hc:c.Ok) (p t w:Nat):(plIts c p t w).length=c.mi+1+sumR (bktCnt (plBs c p) c.k c.s t w) (plBs c p).length:=by
 unfold plIts itemsL plGs
 rw [List.length_append,List.length_append,fromTo_len,blocks_sum _ _ (groupL_cnt (plBs c p) c.k c.s t w) _ _ hc.wi.1]
 simp;omega
end Go.Proofs.YtdpojpcoghcieaaGreat
