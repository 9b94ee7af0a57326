/- A part of the proof of TopBound: SiTag, SiRunA, SiRunB, SiRunC, SiWorks, Words, ShapePlain, ShapeRef, Append, Own. Conditions: none. -/
import Derived.Laws.StructEq
import Derived.WalkSpells
import Derived.WalkLawsBesides
import Derived.Lib.Hide
import Derived.Deep.QuietTactic
import Derived.BigQuiet
import Derived.BigRegion
import Derived.Deep.RegionHeld3
import Derived.Deep.AppendLies
import Derived.Deep.LoopGhost
import Derived.Laws.OwnMore
import Derived.Deep.Onto
import Derived.Outline
import GoSem.Core.Value
import Derived.Maps.AppendAt
import Derived.RegionTactic
import Derived.OwnWalk
import Derived.Test.YtdpojpcoghcieaaGreatBdAJ
set_option maxHeartbeats 8000000
namespace Go.Proofs.YtdpojpcoghcieaaGreat.Si
noncomputable section
open Go.RowKit
section
variable {P:Program}
theorem part_int {e:TypeId} (ha:∀ w,(isAgg e).run P w=.ok false w) (cs:Array Value) (i:Nat) (v:Value) (h:cs[i]?=some v) (w:World):(part e cs i).run P w=.ok v w:=by
 simp [part,ha,h]
theorem run_eql_of {t:TypeId} {xs ys:Array Value} {b:Bool} {w:World} (h:(Op.equalIn 10000 t (.agg xs) (.agg ys)).run P w=.ok b w):(binOp .eql t (.agg xs) (.agg ys)).run P w=.ok (.bool b) w:=by
 rw [run_eql_struct,h];rfl
theorem run_neq_of {t:TypeId} {xs ys:Array Value} {b:Bool} {w:World} (h:(Op.equalIn 10000 t (.agg xs) (.agg ys)).run P w=.ok b w):(binOp .neq t (.agg xs) (.agg ys)).run P w=.ok (.bool (!b)) w:=by
 rw [run_neq_struct,h];rfl
end
theorem aggInt:∀ w,(isAgg 3).run Tryz.prog w=.ok false w:=fun w=>by simp [isAgg,run_underlying Tryz.underlying3 w]
theorem guardT (op:BinOp) (x y:Operand) (xs ys:Array Value) (w:World):(eqGuard op 71 x y (.agg xs) (.agg ys)).run Tryz.prog w=.ok () w:=run_eqGuard_agg w op _ x y xs ys (by kernel_rfl)
theorem eqT (a0 a1 a2 a3 a4 b0 b1 b2 b3 b4:Int) (w:World):(Op.equalIn 10000 71 (.agg #[.int .i64 a0,.int .i64 a1,.int .i64 a2,.int .i64 a3,.int .i64 a4]) (.agg #[.int .i64 b0,.int .i64 b1,.int .i64 b2,.int .i64 b3,.int .i64 b4])).run Tryz.prog w=.ok ((a0 == b0) && ((a1 == b1) && ((a2 == b2) && ((a3 == b3) && (a4 == b4))))) w:=by
 have hi:=fun (u v:Int) (w:World)=>run_equalIn_int (P:=Tryz.prog) w 9998 3 .i64 .i64 u v Tryz.underlying3
 rw [run_equalIn_struct (P:=Tryz.prog) w 9999 71 _ _ (by kernel_rfl) (by kernel_rfl)]
 have p0:∀ (x0 x1 x2 x3 x4:Int) (w:World),(part 3 #[.int .i64 x0,.int .i64 x1,.int .i64 x2,.int .i64 x3,.int .i64 x4] 0).run Tryz.prog w=.ok (.int .i64 x0) w:=fun _ _ _ _ _ w=>part_int aggInt _ 0 _ rfl w
 have p1:∀ (x0 x1 x2 x3 x4:Int) (w:World),(part 3 #[.int .i64 x0,.int .i64 x1,.int .i64 x2,.int .i64 x3,.int .i64 x4] 1).run Tryz.prog w=.ok (.int .i64 x1) w:=fun _ _ _ _ _ w=>part_int aggInt _ 1 _ rfl w
 have p2:∀ (x0 x1 x2 x3 x4:Int) (w:World),(part 3 #[.int .i64 x0,.int .i64 x1,.int .i64 x2,.int .i64 x3,.int .i64 x4] 2).run Tryz.prog w=.ok (.int .i64 x2) w:=fun _ _ _ _ _ w=>part_int aggInt _ 2 _ rfl w
 have p3:∀ (x0 x1 x2 x3 x4:Int) (w:World),(part 3 #[.int .i64 x0,.int .i64 x1,.int .i64 x2,.int .i64 x3,.int .i64 x4] 3).run Tryz.prog w=.ok (.int .i64 x3) w:=fun _ _ _ _ _ w=>part_int aggInt _ 3 _ rfl w
 have p4:∀ (x0 x1 x2 x3 x4:Int) (w:World),(part 3 #[.int .i64 x0,.int .i64 x1,.int .i64 x2,.int .i64 x3,.int .i64 x4] 4).run Tryz.prog w=.ok (.int .i64 x4) w:=fun _ _ _ _ _ w=>part_int aggInt _ 4 _ rfl w
 simp only [Program.fieldsOf,Tryz.underlying71]
 by_cases h0:a0=b0
 · by_cases h1:a1=b1
   · by_cases h2:a2=b2
     · by_cases h3:a3=b3
       · by_cases h4:a4=b4
         · simp [Op.eqFields,p0,p1,p2,p3,p4,hi,h0,h1,h2,h3,h4]
         · simp [Op.eqFields,p0,p1,p2,p3,p4,hi,h0,h1,h2,h3,h4]
       · simp [Op.eqFields,p0,p1,p2,p3,hi,h0,h1,h2,h3]
     · simp [Op.eqFields,p0,p1,p2,hi,h0,h1,h2]
   · simp [Op.eqFields,p0,p1,hi,h0,h1]
 · simp [Op.eqFields,p0,hi,h0]
theorem eqlT (a0 a1 a2 a3 a4 b0 b1 b2 b3 b4:Int) (w:World):(binOp .eql 71 (.agg #[.int .i64 a0,.int .i64 a1,.int .i64 a2,.int .i64 a3,.int .i64 a4]) (.agg #[.int .i64 b0,.int .i64 b1,.int .i64 b2,.int .i64 b3,.int .i64 b4])).run Tryz.prog w=.ok (.bool ((a0 == b0) && ((a1 == b1) && ((a2 == b2) && ((a3 == b3) && (a4 == b4)))))) w:=run_eql_of (eqT a0 a1 a2 a3 a4 b0 b1 b2 b3 b4 w)
theorem neqT (a0 a1 a2 a3 a4 b0 b1 b2 b3 b4:Int) (w:World):(binOp .neq 71 (.agg #[.int .i64 a0,.int .i64 a1,.int .i64 a2,.int .i64 a3,.int .i64 a4]) (.agg #[.int .i64 b0,.int .i64 b1,.int .i64 b2,.int .i64 b3,.int .i64 b4])).run Tryz.prog w=.ok (.bool (!((a0 == b0) && ((a1 == b1) && ((a2 == b2) && ((a3 == b3) && (a4 == b4))))))) w:=run_neq_of (eqT a0 a1 a2 a3 a4 b0 b1 b2 b3 b4 w)
def tagE (tt:TypeId):Cal:=fun ρ s o=>match o.op with
 | .binOp op t x y _=>bif Nat.beq t tt then (match ρ x,ρ y with
   | some (.agg [.int .i64 a0,.int .i64 a1,.int .i64 a2,.int .i64 a3,.int .i64 a4]),some (.agg [.int .i64 b0,.int .i64 b1,.int .i64 b2,.int .i64 b3,.int .i64 b4])=>match op with
     | .eql=>some (.bool ((a0 == b0) && ((a1 == b1) && ((a2 == b2) && ((a3 == b3) && (a4 == b4))))),s)
     | .neq=>some (.bool (!((a0 == b0) && ((a1 == b1) && ((a2 == b2) && ((a3 == b3) && (a4 == b4)))))),s)
     | _=>none
   | _,_=>none) else none
 | _=>none
theorem tagE_ok (F:Fence) (n:Nat) (hF:∀ f,F.fn f):CalOk F n Tryz.prog (tagE 71):=by
 intro B w0 w φ ρ s s' o a r hρ hs hcal K Q hK
 unfold tagE at hcal
 split at hcal
 · rename_i op t x y tr ho
   cases hb:Nat.beq t 71 with
   | false=>rw [hb] at hcal;cases hcal
   | true =>
     rw [hb] at hcal
     have ht:=Nat.eq_of_beq_eq_true hb
     subst ht
     simp only [cond_true] at hcal
     split at hcal
     · rename_i a0 a1 a2 a3 a4 b0 b1 b2 b3 b4 hx hy
       have ex:=hρ _ _ hx
       have ey:=hρ _ _ hy
       have ex':a.eval x=.agg #[.int .i64 a0,.int .i64 a1,.int .i64 a2,.int .i64 a3,.int .i64 a4]:=by
        simp [conc,conc.concL] at ex
        exact ex.symm
       have ey':a.eval y=.agg #[.int .i64 b0,.int .i64 b1,.int .i64 b2,.int .i64 b3,.int .i64 b4]:=by
        simp [conc,conc.concL] at ey
        exact ey.symm
       have hd:∀ c,o.op≠.defer c:=fun c e=>by rw [e] at ho;cases ho
       split at hcal
       · simp only [Option.some.injEq,Prod.mk.injEq] at hcal
         obtain ⟨rfl,rfl⟩:=hcal
         refine wp_of_run hF hd (nx:=.value (.bool ((a0 == b0) && ((a1 == b1) && ((a2 == b2) && ((a3 == b3) && (a4 == b4))))))) ?_ (.inl rfl) (hK φ w _ (Eff.refl hs) rfl)
         simp only [execOp,ho,ex',ey',Sem.run_bind,guardT,Result.andThen_ok,eqlT,Sem.run_pure]
       · simp only [Option.some.injEq,Prod.mk.injEq] at hcal
         obtain ⟨rfl,rfl⟩:=hcal
         refine wp_of_run hF hd (nx:=.value (.bool (!((a0 == b0) && ((a1 == b1) && ((a2 == b2) && ((a3 == b3) && (a4 == b4)))))))) ?_ (.inl rfl) (hK φ w _ (Eff.refl hs) rfl)
         simp only [execOp,ho,ex',ey',Sem.run_bind,guardT,Result.andThen_ok,neqT,Sem.run_pure]
       · cases hcal
     · cases hcal
 · cases hcal
end
end Go.Proofs.YtdpojpcoghcieaaGreat.Si
namespace Go.Proofs.YtdpojpcoghcieaaGreat.Si
theorem siR0:chkO (runK siT siMT siFT (tagE 71) 120 false 28 siO0.args siO0.s0) siO0=true:=by kernel_rfl
theorem siR1:chkO (runK siT siMT siFT (tagE 71) 120 false 28 siO1.args siO1.s0) siO1=true:=by kernel_rfl
theorem siR2:chkO (runK siT siMT siFT (tagE 71) 120 false 108 siO2.args siO2.s0) siO2=true:=by kernel_rfl
theorem siR3:chkO (runK siT siMT siFT (tagE 71) 120 false 108 siO3.args siO3.s0) siO3=true:=by kernel_rfl
theorem siR4:chkO (runK siT siMT siFT (tagE 71) 120 false 108 siO4.args siO4.s0) siO4=true:=by kernel_rfl
theorem siR5:chkO (runK siT siMT siFT (tagE 71) 120 false 28 siO5.args siO5.s0) siO5=true:=by kernel_rfl
theorem siR6:chkO (runK siT siMT siFT (tagE 71) 120 false 108 siO6.args siO6.s0) siO6=true:=by kernel_rfl
theorem siR7:chkO (runK siT siMT siFT (tagE 71) 120 false 108 siO7.args siO7.s0) siO7=true:=by kernel_rfl
theorem siR8:chkO (runK siT siMT siFT (tagE 71) 120 false 108 siO8.args siO8.s0) siO8=true:=by kernel_rfl
theorem siR10:chkO (runK siT siMT siFT (tagE 71) 120 false 208 siO10.args siO10.s0) siO10=true:=by kernel_rfl
theorem siR11:chkO (runK siT siMT siFT (tagE 71) 120 false 208 siO11.args siO11.s0) siO11=true:=by kernel_rfl
theorem siR12:chkO (runK siT siMT siFT (tagE 71) 120 false 212 siO12.args siO12.s0) siO12=true:=by kernel_rfl
theorem siR13:chkO (runK siT siMT siFT (tagE 71) 120 false 212 siO13.args siO13.s0) siO13=true:=by kernel_rfl
theorem siR9:chkO (runK siT siMT siFT (orCal (tagE 71) (orcA siOT siOF)) 120 false 9 siO9.args siO9.s0) siO9=true:=by kernel_rfl
end Go.Proofs.YtdpojpcoghcieaaGreat.Si
namespace Go.Proofs.YtdpojpcoghcieaaGreat.Si
open Go.RowKit
theorem siFuncs:FuncsAre Tryz.prog siFT:=⟨Tryz.func8,Tryz.func9,Tryz.func11,Tryz.func14,Tryz.func18,Tryz.func25,Tryz.func26,Tryz.func27,Tryz.func28,Tryz.func29,Tryz.func30,Tryz.func39,Tryz.func40,Tryz.func41,Tryz.func42,Tryz.func43,Tryz.func44,Tryz.func47,Tryz.func58,Tryz.func59,Tryz.func60,Tryz.func61,Tryz.func62,Tryz.func63,Tryz.func64,Tryz.func65,Tryz.func66,Tryz.func67,Tryz.func68,Tryz.func69,Tryz.func78,Tryz.func79,Tryz.func80,Tryz.func84,Tryz.func85,Tryz.func86,Tryz.func95,Tryz.func96,Tryz.func97,Tryz.func98,Tryz.func99,Tryz.func100,Tryz.func101,Tryz.func102,Tryz.func103,Tryz.func104,Tryz.func105,Tryz.func106,Tryz.func107,Tryz.func108,Tryz.func109,Tryz.func110,Tryz.func111,Tryz.func112,Tryz.func113,Tryz.func114,Tryz.func129,Tryz.func136,Tryz.func137,Tryz.func138,Tryz.func139,Tryz.func140,Tryz.func141,Tryz.func142,Tryz.func143,Tryz.func156,Tryz.func157,Tryz.func158,Tryz.func159,Tryz.func165,Tryz.func166,Tryz.func167,Tryz.func168,Tryz.func171,Tryz.func172,Tryz.func173,Tryz.func174,Tryz.func175,Tryz.func195,Tryz.func196,Tryz.func197,Tryz.func198,Tryz.func199,Tryz.func200,Tryz.func201,Tryz.func202,Tryz.func203,Tryz.func204,Tryz.func205,Tryz.func206,Tryz.func207,Tryz.func208,Tryz.func209,Tryz.func210,Tryz.func211,Tryz.func212,Tryz.func213,Tryz.func214,Tryz.func215,Tryz.func216,Tryz.func217,Tryz.func218,Tryz.func219,Tryz.func220,Tryz.func221,Tryz.func222,Tryz.func223,Tryz.func224,Tryz.func225,Tryz.func226,Tryz.func227,Tryz.func228,Tryz.func229,Tryz.func230,Tryz.func231,Tryz.func232,Tryz.func233,Tryz.func234,Tryz.func235,Tryz.func236,Tryz.func237,Tryz.func238,Tryz.func239,Tryz.func240,Tryz.func241,Tryz.func242,Tryz.func243,Tryz.func244,Tryz.func245,Tryz.func246,Tryz.func247,Tryz.func248,Tryz.func249,Tryz.func250,Tryz.func251,Tryz.func252,trivial⟩
theorem siMT_ok:MTOk Tryz.prog siMT:=by
 intro p hp v w
 simp only [siMT,List.mem_cons,List.not_mem_nil,or_false] at hp
 rcases hp with rfl | rfl | rfl <;> kernel_rfl
theorem siT_ok:TypesOk Tryz.prog siT:=typesB_ok (by kernel_rfl)
theorem siFT_ok:FTabOk Tryz.prog siFT:=ftab_ok siFuncs (by kernel_rfl)
theorem siMixed:Tryz.prog.follows .mixedOrders=true:=by kernel_rfl
def trueRun (o:Option (AV × St)):Bool:=match o with
 | some (.bool true,_)=>true
 | _=>false
theorem works_run:trueRun (runK siT siMT siFT (orCal (tagE 71) (orcA siOT2 siOF2)) 120 false 8 [] ⟨.e,0⟩)=true:=by kernel_rfl
theorem allOf {F:Fence} (hw:F=Fence.wide∨∃ l,F=Fence.wide.inRound l):∀ f,F.fn f:=by
 rcases hw with rfl | ⟨l,rfl⟩ <;> exact fun _=>trivial
theorem orc_of {E:Cal} (hE:∀ F,(F=Fence.wide∨∃ l,F=Fence.wide.inRound l)→∀ n,CalOk F n Tryz.prog E) {k:Nat} {e:Orc} (h:chkO (runK siT siMT siFT E k false e.f e.args e.s0) e=true):OrcOk Tryz.prog e :=
 (runK_ok siT_ok siMT_ok siFT_ok hE siMixed k).1 _ _ _ _ _ (chkO_eq h)
theorem tag_all (F:Fence) (hw:F=Fence.wide∨∃ l,F=Fence.wide.inRound l) (n:Nat):CalOk F n Tryz.prog (tagE 71):=tagE_ok F n (allOf hw)
theorem siOT_ok:∀ e∈siOT,OrcOk Tryz.prog e:=by
 intro e he
 simp only [siOT,List.mem_cons,List.not_mem_nil,or_false] at he
 rcases he with rfl | rfl | rfl | rfl | rfl | rfl | rfl | rfl | rfl | rfl | rfl | rfl | rfl
 · exact orc_of (fun F hw n=>tag_all F hw n) siR0
 · exact orc_of (fun F hw n=>tag_all F hw n) siR1
 · exact orc_of (fun F hw n=>tag_all F hw n) siR2
 · exact orc_of (fun F hw n=>tag_all F hw n) siR3
 · exact orc_of (fun F hw n=>tag_all F hw n) siR4
 · exact orc_of (fun F hw n=>tag_all F hw n) siR5
 · exact orc_of (fun F hw n=>tag_all F hw n) siR6
 · exact orc_of (fun F hw n=>tag_all F hw n) siR7
 · exact orc_of (fun F hw n=>tag_all F hw n) siR8
 · exact orc_of (fun F hw n=>tag_all F hw n) siR10
 · exact orc_of (fun F hw n=>tag_all F hw n) siR11
 · exact orc_of (fun F hw n=>tag_all F hw n) siR12
 · exact orc_of (fun F hw n=>tag_all F hw n) siR13
theorem siOT2_ok:∀ e∈siOT2,OrcOk Tryz.prog e:=by
 intro e he
 simp only [siOT2,List.mem_cons,List.not_mem_nil,or_false] at he
 rcases he with rfl | rfl | rfl | rfl | rfl | rfl | rfl | rfl | rfl | rfl | rfl | rfl | rfl | rfl
 · exact orc_of (fun F hw n=>orCal_ok (tag_all F hw n) (orcA_ok siOT_ok F hw n)) siR9
 · exact orc_of (fun F hw n=>tag_all F hw n) siR0
 · exact orc_of (fun F hw n=>tag_all F hw n) siR1
 · exact orc_of (fun F hw n=>tag_all F hw n) siR2
 · exact orc_of (fun F hw n=>tag_all F hw n) siR3
 · exact orc_of (fun F hw n=>tag_all F hw n) siR4
 · exact orc_of (fun F hw n=>tag_all F hw n) siR5
 · exact orc_of (fun F hw n=>tag_all F hw n) siR6
 · exact orc_of (fun F hw n=>tag_all F hw n) siR7
 · exact orc_of (fun F hw n=>tag_all F hw n) siR8
 · exact orc_of (fun F hw n=>tag_all F hw n) siR10
 · exact orc_of (fun F hw n=>tag_all F hw n) siR11
 · exact orc_of (fun F hw n=>tag_all F hw n) siR12
 · exact orc_of (fun F hw n=>tag_all F hw n) siR13
theorem works_any (w:World):Calls Tryz.prog 8 #[] w fun e w'=>e=.returned (.bool true)∧Below w.heap.size w w':=by
 have hE:∀ F,(F=Fence.wide∨∃ l,F=Fence.wide.inRound l)→∀ n,CalOk F n Tryz.prog (orCal (tagE 71) (orcA siOT2 siOF2)):=fun F hw n=>orCal_ok (tag_all F hw n) (orcA_ok siOT2_ok F hw n)
 have h:=works_run
 unfold trueRun at h
 split at h
 · rename_i s' hrun
   obtain ⟨_,hc⟩:=(runK_ok siT_ok siMT_ok siFT_ok hE siMixed 120).1 _ _ _ _ _ hrun
   refine callsIn_wide.1 (hc 0 w.heap.size w w (fun _=>none) [] rfl ⟨Below.refl _ w,Nat.le_refl _,Nat.zero_le _,fun i L h=>by (cases h),fun i L o h=>by (cases h),fun i j L M o p h=>by (cases h)⟩ _ fun φ' w' v hE hv=>?_)
   injection hv with hv
   exact ⟨by rw [hv],hE.stands.below⟩
 · cases h
end Go.Proofs.YtdpojpcoghcieaaGreat.Si
namespace Go.Proofs.YtdpojpcoghcieaaGreat
open Go.RowKit
def Rd (w:World) (B:Nat) (A:Option Addr) (vs:List Value):Prop :=
 0<vs.length→∃ b off,A=some ⟨b,off,none⟩∧b<B∧∀ j u,vs[j]?=some u→w.cell? ⟨b,off+j,none⟩=some u
theorem Rd.nil_ (w:World) (B:Nat) (A:Option Addr):Rd w B A []:=fun h=>absurd h (by simp)
theorem Rd.keep {w w':World} {B:Nat} {A:Option Addr} {vs:List Value} (h:Rd w B A vs) (hk:∀ p:Addr,p.block<B→w'.cell? p=w.cell? p):Rd w' B A vs:=fun h0=>by
 obtain ⟨b,off,e,hb,hc⟩:=h h0
 exact ⟨b,off,e,hb,fun j u hu=>(hk _ hb).trans (hc j u hu)⟩
theorem Rd.more {w:World} {B B':Nat} {A:Option Addr} {vs:List Value} (h:Rd w B A vs) (hB:B≤B'):Rd w B' A vs:=fun h0=>by
 obtain ⟨b,off,e,hb,hc⟩:=h h0
 exact ⟨b,off,e,by omega,hc⟩
theorem Rd.below {w w':World} {B:Nat} {A:Option Addr} {vs:List Value} (h:Rd w B A vs) (hb:Below B w w'):Rd w' B A vs:=h.keep fun _ hp=>hb.cell hp
theorem Rd.alloc {w:World} {B:Nat} {A:Option Addr} {vs:List Value} (h:Rd w B A vs) (hB:B≤w.heap.size) (o:Obj):Rd (w.alloc o) B A vs:=h.keep fun p hp=>World.cell?_alloc_lt w o p (by omega)
def RdI (w:World) (B:Nat) (A:Option Addr) (zs:List Int):Prop:=Rd w B A (zs.map (Value.int .i64))
theorem RdI.at_ {w:World} {B:Nat} {A:Option Addr} {zs:List Int} (h:RdI w B A zs) (h0:0<zs.length) :
  ∃ b off,A=some ⟨b,off,none⟩∧b<B∧∀ j z,zs[j]?=some z→w.cell? ⟨b,off+j,none⟩=some (.int .i64 z):=by
 obtain ⟨b,off,e,hb,hc⟩:=h (by simpa using h0)
 exact ⟨b,off,e,hb,fun j z hz=>hc j _ (by simp [hz])⟩
theorem RdI.below {w w':World} {B:Nat} {A:Option Addr} {zs:List Int} (h:RdI w B A zs) (hb:Below B w w'):RdI w' B A zs:=Rd.below h hb
theorem RdI.more {w:World} {B B':Nat} {A:Option Addr} {zs:List Int} (h:RdI w B A zs) (hB:B≤B'):RdI w B' A zs:=Rd.more h hB
theorem RdI.alloc {w:World} {B:Nat} {A:Option Addr} {zs:List Int} (h:RdI w B A zs) (hB:B≤w.heap.size) (o:Obj):RdI (w.alloc o) B A zs:=Rd.alloc h hB o
theorem get_some {α:Type} (l:List α) (k:Nat) (h:k<l.length):∃ z,l[k]?=some z:=⟨l[k],List.getElem?_eq_getElem h⟩
theorem below_drewN {B:Nat} {a w:World} (h:Below B a w) (n:Nat):Below B a (w.drewN n):=⟨h.os,h.tape,h.output,h.size,h.block⟩
theorem below_drew {B:Nat} {a w:World} (h:Below B a w):Below B a w.drew:=⟨h.os,h.tape,h.output,h.size,h.block⟩
theorem ret_int {k:IntKind} {a b:Int} (h:a=b):Ending.returned (.int k a)=.returned (.int k b):=by rw [h]
theorem ret_pi {v:Value} {k:IntKind} {a b:Int} (h:a=b):Ending.returned (.tuple #[v,.int k a])=.returned (.tuple #[v,.int k b]):=by rw [h]
theorem ret_bool {a b:Bool} (h:a=b):Ending.returned (.bool a)=.returned (.bool b):=by rw [h]
theorem blk_cell {w:World} {g:Nat} {t:TypeId} {cs:Array Value} (h:w.heap[g]?=some (.cells cs t (0,0))) (i:Nat):w.cell? ⟨g,i,none⟩=cs[i]?:=by simp [World.cell?,h]
theorem blk_frozen {w:World} {g:Nat} {t:TypeId} {cs:Array Value} (h:w.heap[g]?=some (.cells cs t (0,0))) (i:Nat):w.frozen? ⟨g,i,none⟩=false:=by simp [World.frozen?,h]
theorem blk_lt {w:World} {g:Nat} {o:Obj} (h:w.heap[g]?=some o):g<w.heap.size:=by
 rcases Nat.lt_or_ge g w.heap.size with hlt | hge
 · exact hlt
 · rw [Array.getElem?_eq_none hge] at h;cases h
theorem blk_alloc {w:World} {g:Nat} {o:Obj} (h:w.heap[g]?=some o) (o':Obj):(w.alloc o').heap[g]?=some o:=(Below.heap_alloc w o' g (blk_lt h)).trans h
theorem blk_set {w:World} {g:Nat} {t:TypeId} {cs:Array Value} (h:w.heap[g]?=some (.cells cs t (0,0))) (i:Nat) (u:Value):(w.setCell ⟨g,i,none⟩ u).heap[g]?=some (.cells (cs.setIfInBounds i u) t (0,0)):=by
 simp [World.setCell,Array.getElem?_modify,h]
theorem blk_far {w:World} {g:Nat} {o:Obj} (h:w.heap[g]?=some o) {p:Addr} (hp:g≠p.block) (u:Value):(w.setCell p u).heap[g]?=some o:=(Below.heap_setCell w p u g hp).trans h
theorem blk_grown {w w':World} {g:Nat} {o:Obj} (h:w.heap[g]?=some o) {row:Option Nat} (hg:w.grownBy w' row) (hne:some g≠row):w'.heap[g]?=some o:=(hg.block g (blk_lt h) hne).trans h
theorem blk_drew {w:World} {g:Nat} {o:Obj} (h:w.heap[g]?=some o):w.drew.heap[g]?=some o:=h
theorem blk_drewN {w:World} {g:Nat} {o:Obj} (h:w.heap[g]?=some o) (n:Nat):(w.drewN n).heap[g]?=some o:=h
theorem blk_below {w w':World} {B g:Nat} {o:Obj} (h:w.heap[g]?=some o) (hb:Below B w w') (hlt:g<B):w'.heap[g]?=some o:=(hb.block g hlt).trans h
theorem own_ne {w:World} {base e size n g:Nat} {v:Value} {xs:List Value} {t:TypeId} {cs:Array Value} (h:w.ownsRow base e size v n xs) (hg:w.heap[g]?=some (.cells cs t (0,0))) (hne:e≠t):v.ownBlock≠some g:=by
 rcases h.2 with ⟨rfl,_⟩ | ⟨g',cap,cur,rfl,_,hh,_⟩
 · simp [Value.ownBlock]
 · intro he
   have:g'=g:=by simpa [Value.ownBlock] using he
   subst this
   rw [hh] at hg
   injection hg with hg
   injection hg with _ ht
   exact hne ht
theorem own_ne2 {w:World} {base e e' size size' n n':Nat} {v v':Value} {xs xs':List Value} (h:w.ownsRow base e size v n xs) (h':w.ownsRow base e' size' v' n' xs') (hne:e≠e'):v.ownBlock=none∨v.ownBlock≠v'.ownBlock:=by
 rcases h'.2 with ⟨rfl,_⟩ | ⟨g',cap,cur,rfl,_,hh,_⟩
 · cases hv:v.ownBlock
   · exact .inl rfl
   · exact .inr (by simp [Value.ownBlock])
 · exact .inr (own_ne h hh hne)
def cur (w:World) (a:Addr):Value:=(w.cell? a).getD undef
theorem only_drew {a w:World} {row:Option Nat} (h:a.grownBy w row):a.grownBy w.drew row:=⟨h.os,h.tape,h.output,h.size,h.block⟩
theorem only_alloc {a w:World} {row:Option Nat} (h:a.grownBy w row) (o:Obj):a.grownBy (w.alloc o) row :=
 ⟨h.os,h.tape,h.output,Nat.le_trans h.size (by simp),fun i hi hne=>(Below.heap_alloc w o i (Nat.lt_of_lt_of_le hi h.size)).trans (h.block i hi hne)⟩
theorem only_setCell {a w:World} {g:Nat} (h:a.grownBy w (some g)) {p:Addr} (hp:p.block=g∨a.heap.size≤p.block) (u:Value):a.grownBy (w.setCell p u) (some g) :=
 ⟨h.os,h.tape,h.output,by simpa [World.setCell] using h.size,fun i hi hne=>(Below.heap_setCell w p u i (by
  rintro rfl
  rcases hp with hp | hp
  · exact hne (by rw [hp])
  · omega)).trans (h.block i hi hne)⟩
theorem rd_of_own {w:World} {base e cap n:Nat} {A:Option Addr} {size:Nat} {xs:List Value} (h:w.ownsRow base e size (.slice A n cap) n xs):Rd w w.heap.size A xs:=fun h0=>by
 have hn:0<n:=by
  rcases Nat.eq_zero_or_pos n with rfl | hp
  · have:=h.1;simp at this;subst this;simp at h0
  · exact hp
 rcases h.2 with ⟨hv,hz⟩ | ⟨g,c,cur,hv,hb,hh,_,_,_,ht⟩
 · omega
 · injection hv with hA _ _
   subst hA
   refine ⟨g,0,rfl,blk_lt hh,fun j u hu=>?_⟩
   rw [Nat.zero_add,blk_cell hh]
   rw [← ht,List.getElem?_take] at hu
   split at hu
   · simpa using hu
   · cases hu
end Go.Proofs.YtdpojpcoghcieaaGreat
namespace Go.Proofs.YtdpojpcoghcieaaGreat
def cnt:List Int→Int
 | a::b::r=>(a+1)*b+cnt (b::r)
 | _=>0
theorem cnt_snoc:∀ (zs:List Int) (k:Nat) (a b:Int),zs[k]?=some a→zs[k+1]?=some b→cnt (zs.take (k+2))=cnt (zs.take (k+1))+(a+1)*b
 | [],_,_,_,h,_=>by simp at h
 | [x],k,_,_,_,h=>by simp at h
 | x::y::r,0,a,b,h,h'=>by
   simp at h h'
   subst h;subst h'
   simp [cnt]
 | x::y::r,k+1,a,b,h,h'=>by
   have ih:=cnt_snoc (y::r) k a b (by simpa using h) (by simpa using h')
   simp only [List.take_succ_cons,cnt] at ih ⊢
   rw [ih]
   omega
def okSz (x:Int):Bool:=decide (1≤x∧x≤1048576)
theorem okSz_iff {x:Int}:okSz x=true↔1≤x∧x≤1048576:=by simp [okSz]
theorem okSz_no {x:Int}:okSz x=false↔x<1∨1048576<x:=by
 unfold okSz;rw [decide_eq_false_iff_not];omega
theorem mul_bd (a b:Int) (ha:1≤a∧a≤1048576) (hb:1≤b∧b≤1048576):0≤(a+1)*b∧(a+1)*b≤1099512676352:=by
 constructor
 · exact Int.mul_nonneg (by omega) (by omega)
 · have h:(a+1)*b≤1048577*1048576:=Int.mul_le_mul (by omega) hb.2 (by omega) (by omega)
   omega
theorem cnt_bd:∀ (zs:List Int),(∀ z∈zs,okSz z=true)→0≤cnt zs∧cnt zs≤zs.length*1099512676352
 | [],_=>by simp [cnt]
 | [x],_=>by simp [cnt]
 | x::y::r,h=>by
   have ih:=cnt_bd (y::r) (fun z hz=>h z (List.mem_cons_of_mem _ hz))
   have hm:=mul_bd x y (okSz_iff.1 (h x (by simp))) (okSz_iff.1 (h y (by simp)))
   simp only [cnt,List.length_cons] at ih ⊢
   omega
def shCode (zs:List Int):Int :=
 if zs.length<2∨16<zs.length then 5
 else if zs.all okSz=false then 5
 else if 1048576<cnt zs then 4 else 0
def lo (zs:List Int) (k:Nat):Int:=cnt (zs.take (k+1))
def zAt (zs:List Int) (k:Nat):Int:=zs.getD k 0
def mid (zs:List Int) (k:Nat):Int:=lo zs k+zAt zs (k+1)*zAt zs k
def wcells (zs:List Int):Nat→List Value
 | 0=>[]
 | k+1=>wcells zs k++[.int .i64 (lo zs k),.int .i64 (mid zs k)]
def bcells (zs:List Int):Nat→List Value
 | 0=>[]
 | k+1=>bcells zs k++[.int .i64 (mid zs k),.int .i64 (lo zs (k+1))]
theorem lo_succ (zs:List Int) (k:Nat) (a b:Int) (ha:zs[k]?=some a) (hb:zs[k+1]?=some b):lo zs (k+1)=lo zs k+b*a+b:=by
 unfold lo
 rw [cnt_snoc zs k a b ha hb,Int.add_mul,Int.one_mul,Int.mul_comm a b]
 omega
theorem mid_eq (zs:List Int) (k:Nat) (a b:Int) (ha:zs[k]?=some a) (hb:zs[k+1]?=some b):mid zs k=lo zs k+b*a:=by
 simp [mid,zAt,List.getD,ha,hb]
end Go.Proofs.YtdpojpcoghcieaaGreat
namespace Go.Proofs.YtdpojpcoghcieaaGreat
open Lib renaming hid → K1
open Go.RowKit
def betw (x lo hi:Int):Bool:=decide (lo≤x∧x≤hi)
theorem between_any (x lo hi:Int) (w:World) :
  Calls Tryz.prog 53 #[.int .i64 x,.int .i64 lo,.int .i64 hi] w fun e w'=>e=.returned (.bool (betw x lo hi))∧w=w':=by
 by_cases h1:lo≤x
 all_goals
  by_cases h2:x≤hi
  all_goals
   go_enter Tryz.func53,Tryz.ntmps53
   go_wp2
   go_ret
   exact ⟨ret_bool (by simp [betw,h1,h2]),rfl⟩
theorem wrong_any (x:Int) (w:World) :
  Calls Tryz.prog 96 #[.int .i64 x] w fun e w'=>e=.returned (.bool (!okSz x))∧w=w':=by
 by_cases h1:x<1
 · go_enter Tryz.func96,Tryz.ntmps96
   go_wp2
   go_ret
   exact ⟨ret_bool (by simp [okSz];omega),rfl⟩
 · by_cases h2:1048576<x
   all_goals
    go_enter Tryz.func96,Tryz.ntmps96
    go_wp2
    go_ret
    exact ⟨ret_bool (by simp [okSz];omega),rfl⟩
theorem refCount_any (A:Option Addr) (cap:Nat) (zs:List Int) (w:World) (hr:RdI w w.heap.size A zs) (hl:zs.length≤16) (hz:zs.all okSz=true) :
  Calls Tryz.prog 55 #[.slice A zs.length cap] w fun e w'=>e=.returned (.int .i64 (cnt zs))∧∃ n,w'=w.drewN n:=by
 have hall:∀ z∈zs,okSz z=true:=List.all_eq_true.1 hz
 have Hall:=K1 hall
 clear hall hz
 go_enter Tryz.func55,Tryz.ntmps55
 go_wp2
 go_loopw [3,4] (fun n i wr=>∃ k:Nat,k≤zs.length∧i=.int .i64 k∧n=.int .i64 (cnt (zs.take (k+1)))∧∃ q,wr=w.drewN q) (fun _ i _=>zs.length-(intOf i).toNat)
 case atStart =>
  refine ⟨0,Nat.zero_le _,rfl,?_,0,rfl⟩
  match zs with
  | []=>rfl
  | [_]=>rfl
  | _::_::_=>rfl
 case round =>
  obtain ⟨k,hk,rfl,rfl,q,rfl⟩:=hrel
  by_cases hlt:k+1<zs.length
  · obtain ⟨b,off,rfl,_,hc⟩:=hr.at_ (by omega)
    obtain ⟨x,hx⟩:=get_some zs k (by omega)
    obtain ⟨y,hy⟩:=get_some zs (k+1) hlt
    have c1:w.cell? ⟨b,off+k,none⟩=some (.int .i64 x):=hc _ _ hx
    have c2:w.cell? ⟨b,off+(k+1),none⟩=some (.int .i64 y):=hc _ _ hy
    have bx:=okSz_iff.1 (Hall.out x (List.mem_of_getElem? hx))
    have byy:=okSz_iff.1 (Hall.out y (List.mem_of_getElem? hy))
    have bm:=mul_bd x y bx byy
    have bc:=cnt_bd (zs.take (k+1)) (fun z hz=>Hall.out z (List.mem_of_mem_take hz))
    have bl:((zs.take (k+1)).length:Int)≤16:=by have:=List.length_take_le (k+1) zs;omega
    have S:=K1 (cnt_snoc zs k x y hx hy)
    clear hx hy hc
    generalize hC:cnt (zs.take (k+1))=C at *
    have HC:=K1 hC
    clear hC
    have b0:0≤C:=by omega
    have b1:C≤17592202821632:=by omega
    clear bc bl
    go_wp2
    go_quiet (fail)
    go_wp2
    go_roundw
    case rel=>exact ⟨k+1,by omega,by go_num,by rw [S.out],_,rfl⟩
    case measure=>simp [intOf];omega
  · go_wp2
    go_ret
    exact ⟨ret_int (by rw [List.take_of_length_le (by omega)]),_,rfl⟩
theorem take_all (zs:List Int) (k:Nat) (z:Int) (h:zs[k]?=some z) (ha:(zs.take k).all okSz=true) (hz:okSz z=true):(zs.take (k+1)).all okSz=true:=by
 rw [List.take_add_one,h,List.all_append,ha]
 simp [hz]
theorem not_all (zs:List Int) (k:Nat) (z:Int) (h:zs[k]?=some z) (hz:okSz z=false):zs.all okSz=false:=by
 rw [List.all_eq_false]
 exact ⟨z,List.mem_of_getElem? h,by simp [hz]⟩
theorem refShape_any (A:Option Addr) (cap:Nat) (zs:List Int) (w:World) (hr:RdI w w.heap.size A zs) (hm:zs.length≤9223372036854775807) :
  Calls Tryz.prog 89 #[.slice A zs.length cap] w fun e w'=>e=.returned (.int .i64 (shCode zs))∧∃ n,w'=w.drewN n:=by
 by_cases h2:zs.length<2
 · go_enter Tryz.func89,Tryz.ntmps89
   go_wp2
   go_ret
   exact ⟨ret_int (by simp [shCode,h2]),0,rfl⟩
 by_cases h16:16<zs.length
 · go_enter Tryz.func89,Tryz.ntmps89
   go_wp2
   go_ret
   exact ⟨ret_int (by simp [shCode,h16]),0,rfl⟩
 have hcode:shCode zs=if zs.all okSz=false then 5 else if 1048576<cnt zs then 4 else 0:=by
  unfold shCode;rw [if_neg (by omega)]
 have Hcode:=K1 hcode
 clear hcode
 obtain ⟨b,off,rfl,hb,hc⟩:=hr.at_ (by omega)
 have Hc:=K1 hc
 clear hc
 go_enter Tryz.func89,Tryz.ntmps89
 go_wp2
 go_loop [3] (fun i=>∃ k:Nat,k≤zs.length∧i=.int .i64 k∧Hid ((zs.take k).all okSz=true)) (fun i=>zs.length-(intOf i).toNat)
 case atStart=>exact ⟨0,Nat.zero_le _,rfl,K1 rfl⟩
 case round =>
  obtain ⟨k,hk,rfl,hall⟩:=hrel
  by_cases hlt:k<zs.length
  · obtain ⟨z,hz⟩:=get_some zs k hlt
    have c1:w.cell? ⟨b,off+k,none⟩=some (.int .i64 z):=Hc.out _ _ hz
    have HZ:=K1 hz
    clear hz
    by_cases l1:z<1
    · go_wp2
      go_ret
      exact ⟨ret_int (by rw [Hcode.out,if_pos (not_all zs k z HZ.out (okSz_no.2 (.inl l1)))]),0,rfl⟩
    by_cases l2:1048576<z
    · go_wp2
      go_ret
      exact ⟨ret_int (by rw [Hcode.out,if_pos (not_all zs k z HZ.out (okSz_no.2 (.inr l2)))]),0,rfl⟩
    · go_wp2
      go_round
      case rel=>exact ⟨k+1,by omega,by go_num,K1 (take_all zs k z HZ.out hall.out (okSz_iff.2 (by omega)))⟩
      case measure=>simp [intOf];omega
  · have hall':Hid (zs.all okSz=true):=by
     have:=hall.out
     rw [List.take_of_length_le (by omega)] at this
     exact K1 this
    clear hall
    by_cases h4:1048576<cnt zs
    all_goals
     go_wp2_with (go_at_call 55;refine (refCount_any _ _ zs _ hr (by omega) hall'.out).mono ?_;rintro e w' ⟨rfl,n,rfl⟩)
     go_ret
     refine ⟨ret_int ?_,_,rfl⟩
     rw [Hcode.out,if_neg (by rw [hall'.out];decide)]
     simp [h4]
theorem add_none (b off j:Nat):(⟨b,off,none⟩:Addr).add j=⟨b,off+j,none⟩:=by
 unfold Addr.add;split <;> simp_all
section
variable {P:Program} (w:World)
theorem run_append_nil (base:Nat) (t ty e:TypeId) (i:TypeInfo) (size:Nat) (ht:P.underlying t=some (.slice e)) (hi:P.info? e=some i)
  (v:Value) (n:Nat) (xs:List Value) (hown:w.ownsRow base e size v n xs) (c:Nat):(Builtin.append_ #[t,t] ty #[v,.slice none 0 c]).run P w=.ok v w:=by
 rcases hown.2 with ⟨rfl,rfl⟩ | ⟨g,cap,cur,rfl,_,_,hnc,_⟩
 · simp [Builtin.append_,run_underlying ht,sizeOf,typeInfo,hi,Builtin.lenOf,Builtin.firstCells]
 · simp [Builtin.append_,run_underlying ht,sizeOf,typeInfo,hi,Builtin.lenOf,Builtin.firstCells,hnc,storeCells]
end
theorem own_cap {w:World} {base e size n cap:Nat} {A:Option Addr} {xs:List Value} (h:w.ownsRow base e size (.slice A n cap) n xs):n≤cap:=by
 rcases h.2 with ⟨hv,hz⟩ | ⟨g,c,cur,hv,hb,hh,hc,_⟩
 · omega
 · injection hv with _ _ e3;omega
theorem own_slice {w:World} {base e size n:Nat} {v:Value} {xs:List Value} (h:w.ownsRow base e size v n xs):∃ A cap,v=.slice A n cap:=by
 rcases h.2 with ⟨rfl,rfl⟩ | ⟨g,c,cur,rfl,_⟩
 · exact ⟨_,_,rfl⟩
 · exact ⟨_,_,rfl⟩
theorem own_nil (w:World) (base e size:Nat):w.ownsRow base e size (.slice none 0 0) 0 []:=⟨by simp,.inl ⟨rfl,rfl⟩⟩
theorem ints_one {k:IntKind} (zs:List Int):∀ u∈zs.map (Value.int k),u.oneCell'=true:=fun u hu=>by
 obtain ⟨z,_,rfl⟩:=List.mem_map.1 hu
 rfl
theorem below_own {w w1 w2:World} {B B' e size n:Nat} {v:Value} {xs:List Value} (hb:Below B w w1) (hB:B≤w.heap.size) (hBB:B≤B') (hown:w1.ownsRow B' e size v n xs) (hg:w1.grownBy w2 v.ownBlock):Below B w w2:=by
 refine hb.grown hg (Nat.le_trans hB hb.size) fun k hk=>?_
 rcases hown.2 with ⟨rfl,_⟩ | ⟨g,cap,cur,rfl,hge,_⟩
 · simp [Value.ownBlock] at hk
 · simp [Value.ownBlock] at hk;omega
end Go.Proofs.YtdpojpcoghcieaaGreat
namespace Go.Proofs.YtdpojpcoghcieaaGreat
open Go.RowKit
theorem own_below {w w':World} {base e size n:Nat} {v:Value} {xs:List Value} (h:w.ownsRow base e size v n xs) (hb:Below w.heap.size w w'):w'.ownsRow base e size v n xs:=by
 rcases h.2 with ⟨rfl,h0⟩ | ⟨g,cap,cur,rfl,hg,hgh,h1⟩
 · exact ⟨h.1,.inl ⟨rfl,h0⟩⟩
 · exact ⟨h.1,.inr ⟨g,cap,cur,rfl,hg,(hb.block g (blk_lt hgh)).trans hgh,h1⟩⟩
end Go.Proofs.YtdpojpcoghcieaaGreat
