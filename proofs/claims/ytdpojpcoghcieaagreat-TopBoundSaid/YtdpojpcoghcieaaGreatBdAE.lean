/- A part of the proof of TopBound: SiEff, SiStep, SiEqA, SiDrawn. Conditions: none. -/
import Derived.TacticsIn
import Derived.OrdersIn
import Derived.Test.YtdpojpcoghcieaaGreatBdAD
set_option maxHeartbeats 8000000
namespace Go.Proofs.YtdpojpcoghcieaaGreat.Si
noncomputable section
open Go.RowKit
def copyA (T:TT) (s:St) (t:TypeId) (x y:AV):Option (AV × St):=match x,y,look T t with
 | .sl id off len _ _ _,.sl id2 off2 len2 _ _ _,some { k:=.slice e,.. }=>(look T e).bind fun te =>
   (readA s id2 off2 (Nat.min len2 len*te.size)).bind fun l=>(writeA s id off l).map fun s'=>(.int .i64 (Nat.min len2 len:Nat),s')
 | .snil,.sl _ _ _ _ _ _,some { k:=.slice e,.. }=>(look T e).bind fun _=>some (.int .i64 0,s)
 | .sl _ _ _ _ _ _,.snil,some { k:=.slice e,.. }=>(look T e).bind fun _=>some (.int .i64 0,s)
 | .snil,.snil,some { k:=.slice e,.. }=>(look T e).bind fun _=>some (.int .i64 0,s)
 | _,_,_=>none
def clearA (T:TT) (s:St) (t:TypeId) (x:AV):Option (AV × St):=match x,look T t with
 | .snil,some { k:=.slice _,.. }=>some (.tup [],s)
 | .sl id off len _ _ _,some { k:=.slice e,.. }=>match len with
   | 0=>some (.tup [],s)
   | n+1=>(look T e).bind fun te=>(writeA s id off (rep (n+1) te.zero)).map fun s'=>(.tup [],s')
 | _,_=>none
def memOp (T:TT) (ρ:Operand→Option AV) (s:St):Op→Option (AV × St)
 | .store t x y=>(ρ x).bind fun a=>(ρ y).bind fun b=>(storeA T s t a b).map fun s'=>(.tup [],s')
 | .call { callee:=.builtin .append,args:=⟨[x,y]⟩,argTypes:=⟨[t,tx]⟩ }=>(ρ x).bind fun a=>(ρ y).bind fun b=>appendA T s t tx a b
 | .call { callee:=.builtin .copy,args:=⟨[x,y]⟩,argTypes:=⟨[t,_]⟩ }=>(ρ x).bind fun a=>(ρ y).bind fun b=>copyA T s t a b
 | .call { callee:=.builtin .clear,args:=⟨[x]⟩,argTypes:=⟨[t]⟩ }=>(ρ x).bind fun a=>clearA T s t a
 | _=>none
section
variable {P:Program} {φ:Phi} {B:Nat} {w0 w:World} {s s':St}
theorem eff_write (hs:Stands B w0 φ s w) {id off:Nat} {L:Loc} (hL:φ id=some L) {l:List AV} (h:writeA s id off l=some s') {us:List Value} (hu:concL φ l=some us) :
  Eff B w0 φ φ s s' (w.setCells L.blk (L.base+off) us)∧(storeCells ⟨L.blk,L.base+off,none⟩ us).run P w=.ok () (w.setCells L.blk (L.base+off) us):=by
 obtain ⟨m1,m2,m3,m4⟩:=hs.write hL h hu
 have hone:∀ u∈us,u.oneCell'=true:=by
  unfold writeA at h
  split at h
  · split at h
    · rename_i hw
      exact allOne_ok hu hw.2
    · cases h
  · cases h
 have hrun:=run_storeCells_cells (P:=P) L.blk (L.base+off) us 0 w (fun j hj=>by simpa using (m2 j hj).1) (fun j hj=>by simpa using (m2 j hj).2) hone
 simp only [Nat.add_zero] at hrun
 exact ⟨⟨φ.le_refl,m1,by omega,fun j hj hjn=>⟨hjn,m4 j (Nat.lt_of_lt_of_le hj hs.room) hjn⟩⟩,hrun⟩
theorem copy_nothing {t tx ty e:TypeId} {te:TI} (ht:P.underlying t=some (.slice e)) (he:TypeOk P e te) (d a:Option Addr) (dl al dc ac:Nat) (h0:Nat.min al dl=0) :
  (Builtin.copy_ #[t,tx] ty #[.slice d dl dc,.slice a al ac]).run P w=.ok (goInt 0) w:=by
 have hf:(Builtin.firstCells te.size 0 (.slice a al ac)).run P w=.ok #[] w:=by
  cases a with
  | none=>exact run_firstCells_none w te.size 0 al ac
  | some x=>exact run_firstCells_some w te.size 0 x al ac [] (by simp) (by simp)
 cases d <;> simp [Builtin.copy_,run_underlying ht,Builtin.lenOf,he.size_run w,h0,hf,storeCells]
theorem copy_ok {T:TT} (hT:TypesOk P T) (hs:Stands B w0 φ s w) {t tx ty:TypeId} {x y r:AV} (h:copyA T s t x y=some (r,s')) {u v:Value} (hx:conc φ x=some u) (hy:conc φ y=some v) :
  ∃ w' q,(Builtin.copy_ #[t,tx] ty #[u,v]).run P w=.ok q w'∧Eff B w0 φ φ s s' w'∧conc φ r=some q:=by
 unfold copyA at h
 split at h
 · rename_i id off len _ _ _ id2 off2 len2 _ _ _ _ _ _ _ e hl
   simp only [Option.bind_eq_some_iff,Option.map_eq_some_iff] at h
   obtain ⟨te,hte,l,hr,s1,hw,h⟩:=h
   obtain ⟨rfl,rfl⟩:AV.int .i64 (Nat.min len2 len:Nat)=r∧s1=s':=by simpa using h
   obtain ⟨d,ht,_,hk⟩:=(hT.at hl).kind
   dsimp only at hk
   subst hk
   obtain ⟨L,c,hL,rfl,_⟩:=conc_sl hx
   obtain ⟨M,c2,hM,rfl,_⟩:=conc_sl hy
   obtain ⟨us,k1,k2,_,k3⟩:=read_ok hs hM hr
   obtain ⟨m1,m2⟩:=eff_write (P:=P) hs hL hw k1
   have hf:=run_firstCells_some (P:=P) w te.size (Nat.min len2 len) ⟨M.blk,M.base+off2,none⟩ len2 c2 us k2 fun j u hj=>by rw [Addr.add_mid];exact k3 j u hj
   refine ⟨_,goInt (Nat.min len2 len:Nat),?_,m1,rfl⟩
   simp [Builtin.copy_,run_underlying ht,Builtin.lenOf,(hT.at hte).size_run w,hf,m2]
 · rename_i hl
   simp only [Option.bind_eq_some_iff] at h
   obtain ⟨te,hte,h⟩:=h
   obtain ⟨rfl,rfl⟩:AV.int .i64 0=r∧s=s':=by simpa using h
   obtain ⟨d,ht,_,hk⟩:=(hT.at hl).kind
   dsimp only at hk
   subst hk
   obtain ⟨M,c2,hM,rfl,_⟩:=conc_sl hy
   injection hx with hx
   subst hx
   exact ⟨w,goInt 0,copy_nothing ht (hT.at hte) none _ 0 _ 0 _ (by simp),Eff.refl hs,rfl⟩
 · rename_i hl
   simp only [Option.bind_eq_some_iff] at h
   obtain ⟨te,hte,h⟩:=h
   obtain ⟨rfl,rfl⟩:AV.int .i64 0=r∧s=s':=by simpa using h
   obtain ⟨d,ht,_,hk⟩:=(hT.at hl).kind
   dsimp only at hk
   subst hk
   obtain ⟨M,c2,hM,rfl,_⟩:=conc_sl hx
   injection hy with hy
   subst hy
   exact ⟨w,goInt 0,copy_nothing ht (hT.at hte) _ none _ 0 _ 0 (by simp),Eff.refl hs,rfl⟩
 · rename_i hl
   simp only [Option.bind_eq_some_iff] at h
   obtain ⟨te,hte,h⟩:=h
   obtain ⟨rfl,rfl⟩:AV.int .i64 0=r∧s=s':=by simpa using h
   obtain ⟨d,ht,_,hk⟩:=(hT.at hl).kind
   dsimp only at hk
   subst hk
   injection hx with hx
   injection hy with hy
   subst hx hy
   exact ⟨w,goInt 0,copy_nothing ht (hT.at hte) none none 0 0 0 0 (by simp),Eff.refl hs,rfl⟩
 · cases h
theorem clear_ok {T:TT} (hT:TypesOk P T) (hs:Stands B w0 φ s w) {t ty:TypeId} {x r:AV} (h:clearA T s t x=some (r,s')) {u:Value} (hx:conc φ x=some u) :
  ∃ w' q,(Builtin.clear_ #[t] ty #[u]).run P w=.ok q w'∧Eff B w0 φ φ s s' w'∧conc φ r=some q:=by
 unfold clearA at h
 split at h
 · rename_i hl
   obtain ⟨rfl,rfl⟩:AV.tup []=r∧s=s':=by simpa using h
   obtain ⟨d,ht,_,hk⟩:=(hT.at hl).kind
   dsimp only at hk
   subst hk
   injection hx with hx
   subst hx
   exact ⟨w,.tuple #[],by simp [Builtin.clear_,run_underlying ht],Eff.refl hs,rfl⟩
 · rename_i id off len _ _ _ _ _ _ _ e hl
   obtain ⟨d,ht,_,hk⟩:=(hT.at hl).kind
   dsimp only at hk
   subst hk
   obtain ⟨L,c,hL,rfl,_⟩:=conc_sl hx
   split at h
   · obtain ⟨rfl,rfl⟩:AV.tup []=r∧s=s':=by simpa using h
     exact ⟨w,.tuple #[],by simp [Builtin.clear_,run_underlying ht],Eff.refl hs,rfl⟩
   · rename_i n
     simp only [Option.bind_eq_some_iff,Option.map_eq_some_iff] at h
     obtain ⟨te,hte,s1,hw,h⟩:=h
     obtain ⟨rfl,rfl⟩:AV.tup []=r∧s1=s':=by simpa using h
     have he:=hT.at hte
     obtain ⟨z,hz,k⟩:=he.zero_run w
     obtain ⟨m1,m2⟩:=eff_write (P:=P) hs hL hw (rep_ok (absCs_conc φ _ _ k) (n+1))
     refine ⟨_,.tuple #[],?_,m1,rfl⟩
     have hzc:(Builtin.zeroCells z.cells (n+1)).toList=rep (n+1) z.cells.toList:=by
      unfold Builtin.zeroCells
      rw [rep_range]
     simp [Builtin.clear_,run_underlying ht,hz,hzc,m2]
 · cases h
variable {ρ:Operand→Option AV} {ρc:Operand→Value}
theorem mem_ok {T:TT} (hT:TypesOk P T) (hρ:∀ x a,ρ x=some a→conc φ a=some (ρc x)) (hs:Stands B w0 φ s w) (o:Oper) {r:AV} (h:memOp T ρ s o.op=some (r,s')) :
  ∃ φ' w' nx v,(execOp ρc o).run P w=.ok nx w'∧(nx=.value v∨nx=.skip∧v=undef)∧Eff B w0 φ φ' s s' w'∧conc φ' r=some v:=by
 obtain ⟨dst,op,ty,pos,af,gd⟩:=o
 dsimp only at h
 unfold memOp at h
 split at h
 · rename_i t x y
   simp only [Option.bind_eq_some_iff,Option.map_eq_some_iff] at h
   obtain ⟨a,ha,b,hb,s1,hst,h⟩:=h
   obtain ⟨rfl,rfl⟩:AV.tup []=r∧s1=s':=by simpa using h
   obtain ⟨w',k1,k2,k3,k4⟩:=store_ok hT hs hst (hρ x a ha) (hρ y b hb)
   exact ⟨φ,w',.skip,undef,by simp [execOp,k1],.inr ⟨rfl,rfl⟩,⟨φ.le_refl,k2,by omega,fun j hj hjn=>⟨hjn,k4 j (Nat.lt_of_lt_of_le hj hs.room) hjn⟩⟩,rfl⟩
 · rename_i x y t tx
   simp only [Option.bind_eq_some_iff] at h
   obtain ⟨a,ha,b,hb,h⟩:=h
   obtain ⟨φ',w',q,k1,k2,k3⟩:=append_ok (ty:=ty) hT hs h (hρ x a ha) (hρ y b hb)
   refine ⟨φ',w',.value q,q,?_,.inl rfl,k2,k3⟩
   rw [BigFrame.execOp_builtin,BigFrame.builtin_append]
   simp only [List.map_toArray,List.map_cons,List.map_nil,Sem.run_bind]
   rw [k1]
   simp
 · rename_i x y t tx
   simp only [Option.bind_eq_some_iff] at h
   obtain ⟨a,ha,b,hb,h⟩:=h
   obtain ⟨w',q,k1,k2,k3⟩:=copy_ok (tx:=tx) (ty:=ty) hT hs h (hρ x a ha) (hρ y b hb)
   refine ⟨φ,w',.value q,q,?_,.inl rfl,k2,k3⟩
   rw [BigFrame.execOp_builtin,BigFrame.builtin_copy]
   simp only [List.map_toArray,List.map_cons,List.map_nil,Sem.run_bind]
   rw [k1]
   simp
 · rename_i x t
   simp only [Option.bind_eq_some_iff] at h
   obtain ⟨a,ha,h⟩:=h
   obtain ⟨w',q,k1,k2,k3⟩:=clear_ok (ty:=ty) hT hs h (hρ x a ha)
   refine ⟨φ,w',.value q,q,?_,.inl rfl,k2,k3⟩
   rw [BigFrame.execOp_builtin,BigFrame.builtin_clear]
   simp only [List.map_toArray,List.map_cons,List.map_nil,Sem.run_bind]
   rw [k1]
   simp
 · cases h
end
end
end Go.Proofs.YtdpojpcoghcieaaGreat.Si
namespace Go.Proofs.YtdpojpcoghcieaaGreat.Si
noncomputable section
open Go.RowKit
def evalA (ts:List AV):Operand→Option AV
 | .tmp t=>some (getQ (.tup []) ts t)
 | .const v=>absV v
 | .global _=>none
 | .func f=>some (.fn (.func f) [] [])
def putA (ts:List AV) (dst:Option Tmp) (v:AV):List AV:=match dst with
 | some d=>setQ ts d v
 | none=>ts
def wantedA (ops:Array Oper) (ts:List AV) (o:Oper):Option Bool:=match o.guard with
 | none=>some true
 | some (j,want)=>match ((atQ ops.toList j).bind (·.dst)).bind (fun d=>atQ ts d) with
   | some (.bool b)=>some (b == want)
   | some (.tup _)=>some false
   | _=>none
abbrev Cal:=(Operand→Option AV)→St→Oper→Option (AV × St)
def effA (T:TT) (cal:Cal) (ρ:Operand→Option AV) (s:St) (o:Oper):Option (AV × St):=match memOp T ρ s o.op with
 | some p=>some p
 | none=>cal ρ s o
def doA (T:TT) (cal:Cal) (ρ:Operand→Option AV) (s:St) (o:Oper):Option (AV × St) :=
 match pureOp T ρ o.op with
 | some r=>some (r,s)
 | none=>match o.op with
   | .load t x=>(ρ x).bind fun a=>(loadA T s t a).map fun r=>(r,s)
   | _=>match newOp T ρ s.next o.op with
     | some (r,cs,t)=>if s.next<2 ^ dep then some (r,s.new (.cells cs t)) else none
     | none=>effA T cal ρ s o
def stepA (T:TT) (cal:Cal) (ops:Array Oper) (ts:List AV) (s:St) (o:Oper):Option (List AV × St):=match wantedA ops ts o with
 | some true=>(doA T cal (evalA ts) s o).map fun p=>(putA ts o.dst p.1,p.2)
 | some false=>some (putA ts o.dst (.tup []),s)
 | none=>none
def Slots (φ:Phi) (ts:List AV) (a:Act):Prop:=concL φ ts=some a.tmps.toList
theorem Slots.eval {φ:Phi} {ts:List AV} {a:Act} (h:Slots φ ts a):∀ x b,evalA ts x=some b→conc φ b=some (a.eval x):=by
 intro x b hx
 cases x with
 | tmp t =>
   injection hx with hx
   subst hx
   simp only [Act.eval,getQ_eq]
   rcases Nat.lt_or_ge t ts.length with ht | ht
   · obtain ⟨v,h1,h2⟩:=concL_at h t ts[t] (by simp [ht])
     have hg:a.tmps.getD t undef=v:=by
      rw [Array.getElem?_toList] at h1
      simp [Array.getD_eq_getD_getElem?,h1]
     rw [hg]
     simpa [List.getD_eq_getElem?_getD,ht] using h2
   · have hl:=concL_len h
     rw [List.getD_eq_getElem?_getD,List.getElem?_eq_none ht,Array.getD_eq_getD_getElem?,Array.getElem?_eq_none (by simp at hl;omega)]
     rfl
 | const v=>exact absV_conc φ v b hx
 | global g=>cases hx
 | func f =>
   injection hx with hx
   subst hx
   rfl
theorem Slots.put {φ:Phi} {ts:List AV} {a:Act} (h:Slots φ ts a) (dst:Option Tmp) {b:AV} {v:Value} (hv:conc φ b=some v):Slots φ (putA ts dst b) (a.put dst v):=by
 cases dst with
 | none=>exact h
 | some d =>
   unfold Slots at h ⊢
   have:=concL_set h d b v hv
   simpa [putA,setQ_eq,Act.put] using this
theorem Slots.mono {φ φ':Phi} {ts:List AV} {a:Act} (h:Slots φ ts a) (hle:φ.le φ'):Slots φ' ts a:=concL_mono hle _ _ h
theorem wanted_ok {φ:Phi} {ops:Array Oper} {ts:List AV} {a:Act} (h:Slots φ ts a) {o:Oper} {b:Bool} (hw:wantedA ops ts o=some b):Region.wanted o (yielded ops a.tmps)=b:=by
 unfold wantedA at hw
 simp only [atQ_eq,Array.getElem?_toList] at hw
 unfold Region.wanted
 split at hw
 · rename_i hg
   injection hw with hw
   subst hw
   rw [hg]
 · rename_i j want hg
   rw [hg]
   dsimp only
   unfold yielded
   cases hd:(ops[j]?).bind (·.dst) with
   | none=>rw [hd] at hw;cases hw
   | some d =>
     rw [hd] at hw
     simp only [Option.bind_some] at hw ⊢
     cases ht:ts[d]? with
     | none=>rw [ht] at hw;cases hw
     | some x =>
       rw [ht] at hw
       obtain ⟨v,h1,h2⟩:=concL_at h d x ht
       rw [Array.getElem?_toList] at h1
       rw [h1]
       cases x <;> dsimp only at hw <;> first
        | (cases hw;done)
        | (injection hw with hw
           subst hw
           injection h2 with h2
           subst h2
           simp)
        | (injection hw with hw
           subst hw
           simp only [conc,Option.map_eq_some_iff] at h2
           obtain ⟨l,_,rfl⟩:=h2
           simp)
section
variable {F:Fence} {n:Nat} {P:Program} {B:Nat} {w0:World}
def CalOk (F:Fence) (n:Nat) (P:Program) (cal:Cal):Prop :=
 ∀ {B:Nat} {w0 w:World} {φ:Phi} {ρ:Operand→Option AV} {s s':St} {o:Oper} {a:Act} {r:AV},(∀ x b,ρ x=some b→conc φ b=some (a.eval x))→Stands B w0 φ s w→cal ρ s o=some (r,s') →
   ∀ (K:Act→World→Prop) (Q:Exit→Act→World→Prop),(∀ φ' w' v,Eff B w0 φ φ' s s' w'→conc φ' r=some v→K (a.put o.dst v) w')→o.wpIn F n P a w K Q
theorem wp_of_run {o:Oper} {a:Act} {w w':World} {nx:Next} {v:Value} (hF:∀ f,F.fn f) (hd:∀ c,o.op≠.defer c) (h:(execOp a.eval o).run P w=.ok nx w') (hn:nx=.value v∨nx=.skip∧v=undef)
  {K:Act→World→Prop} {Q:Exit→Act→World→Prop} (hK:K (a.put o.dst v) w'):o.wpIn F n P a w K Q:=by
 refine ⟨fun f _=>hF f,?_⟩
 rw [Oper.semAt_eq _ _ _ hd,h]
 rcases hn with rfl | ⟨rfl,rfl⟩
 · exact hK
 · exact hK
theorem eff_ok {T:TT} (hT:TypesOk P T) {cal:Cal} (hc:CalOk F n P cal) (hF:∀ f,F.fn f) {w:World} {φ:Phi} {ρ:Operand→Option AV} {s s':St} {o:Oper} {a:Act} {r:AV} (hρ:∀ x b,ρ x=some b→conc φ b=some (a.eval x)) (hs:Stands B w0 φ s w) (h:effA T cal ρ s o=some (r,s'))
  {K:Act→World→Prop} {Q:Exit→Act→World→Prop} (hK:∀ φ' w' v,Eff B w0 φ φ' s s' w'→conc φ' r=some v→K (a.put o.dst v) w'):o.wpIn F n P a w K Q:=by
 unfold effA at h
 split at h
 · rename_i p hm
   injection h with h
   subst h
   obtain ⟨φ',w',nx,v,k1,k2,k3,k4⟩:=mem_ok hT hρ hs o hm
   exact wp_of_run hF (fun c e=>by rw [e] at hm;simp [memOp] at hm) k1 k2 (hK φ' w' v k3 k4)
 · exact hc hρ hs h K Q hK
theorem do_ok {T:TT} (hT:TypesOk P T) {cal:Cal} (hc:CalOk F n P cal) (hF:∀ f,F.fn f) {w:World} {φ:Phi} {ρ:Operand→Option AV} {s s':St} {o:Oper} {a:Act} {r:AV} (hρ:∀ x b,ρ x=some b→conc φ b=some (a.eval x)) (hs:Stands B w0 φ s w) (h:doA T cal ρ s o=some (r,s'))
  {K:Act→World→Prop} {Q:Exit→Act→World→Prop} (hK:∀ φ' w' v,Eff B w0 φ φ' s s' w'→conc φ' r=some v→K (a.put o.dst v) w'):o.wpIn F n P a w K Q:=by
 unfold doA at h
 split at h
 · rename_i r1 hp
   obtain ⟨rfl,rfl⟩:r1=r∧s=s':=by simpa using h
   obtain ⟨v,k1,k2⟩:=pure_ok hT hρ o hp
   exact wp_of_run hF (fun c e=>by rw [e] at hp;simp [pureOp] at hp) (k2 w) (.inl rfl) (hK φ w v (Eff.refl hs) k1)
 · split at h
   · rename_i t x ho
     simp only [Option.bind_eq_some_iff,Option.map_eq_some_iff] at h
     obtain ⟨b,hb,r1,hl,h⟩:=h
     obtain ⟨rfl,rfl⟩:r1=r∧s=s':=by simpa using h
     obtain ⟨u,k1,k2⟩:=load_ok hT hs hl (hρ x b hb)
     exact wp_of_run hF (fun c e=>by rw [e] at ho;cases ho) (nx:=.value u) (by simp [execOp,ho,k2]) (.inl rfl) (hK φ w u (Eff.refl hs) k1)
   · split at h
     · rename_i r1 cs t hn
       split at h
       · rename_i hr
         obtain ⟨rfl,rfl⟩:r1=r∧s.new (.cells cs t)=s':=by simpa using h
         obtain ⟨C,k1,k2⟩:=new_ok hT hρ hn
         obtain ⟨v,k3,k4⟩:=k2 w
         have hnn:=hs.none_next
         have hnx:(s.new (.cells cs t)).next=s.next+1:=rfl
         refine wp_of_run hF (fun c e=>by rw [e] at hn;simp [newOp] at hn) k3 (.inl rfl) (hK _ _ v ⟨Phi.up_le hnn _,?_,by omega,fun j hj hjn=>⟨?_,?_⟩⟩ k4)
         · refine (hs.new (.cells cs t) hr).place hnn (by omega) rfl fun p hp=>?_
           rw [St.get_new hr hr,if_pos rfl] at hp
           injection hp with hp
           subst hp
           exact ⟨C.toArray,C,heap_alloc_new _ _,by simp,by rw [concL_len k1];exact Nat.le_refl _,concL_mono (Phi.up_le hnn _) _ _ k1,fun j v hj=>by simpa using hj⟩
         · unfold Phi.up
           rw [if_neg (by omega)]
           exact hjn
         · rw [St.get_new hr (by omega),if_neg (by omega)]
       · cases h
     · exact eff_ok hT hc hF hρ hs h hK
theorem Eff.trans {φ φ' φ'':Phi} {s s' s'':St} {w' w'':World} (h:Eff B w0 φ φ' s s' w') (k:Eff B w0 φ' φ'' s' s'' w''):Eff B w0 φ φ'' s s'' w'' :=
 ⟨Phi.le_trans h.le k.le,k.stands,Nat.le_trans h.next k.next,fun j hj hjn=>by
  obtain ⟨a1,a2⟩:=h.kept j hj hjn
  obtain ⟨b1,b2⟩:=k.kept j (Nat.lt_of_lt_of_le hj h.next) a1
  exact ⟨b1,b2.trans a2⟩⟩
theorem step_ok {T:TT} (hT:TypesOk P T) {cal:Cal} (hc:CalOk F n P cal) (hF:∀ f,F.fn f) {w:World} {φ:Phi} {ops:Array Oper} {ts ts':List AV} {s s':St} {o:Oper} {a:Act} (ha:Slots φ ts a) (hs:Stands B w0 φ s w) (h:stepA T cal ops ts s o=some (ts',s'))
  {K:Act→World→Prop} {Q:Exit→Act→World→Prop} (hK:∀ φ' w' a',Eff B w0 φ φ' s s' w'→Slots φ' ts' a'→a'.defers=a.defers→K a' w') :
  if Region.wanted o (yielded ops a.tmps) then o.wpIn F n P a w K Q else (∀ f,o.about P w a.eval=some f→F.fn f)∧K (a.put o.dst undef) w:=by
 have hdef:∀ v,(a.put o.dst v).defers=a.defers:=fun v=>by unfold Act.put;split <;> rfl
 unfold stepA at h
 split at h
 · rename_i hw
   simp only [Option.map_eq_some_iff] at h
   obtain ⟨p,hp,h⟩:=h
   obtain ⟨rfl,rfl⟩:putA ts o.dst p.1=ts'∧p.2=s':=by simpa using h
   rw [wanted_ok ha hw,if_pos rfl]
   exact do_ok hT hc hF ha.eval hs hp fun φ' w' v he hv=>hK φ' w' _ he ((ha.mono he.le).put o.dst hv) (hdef v)
 · rename_i hw
   obtain ⟨rfl,rfl⟩:putA ts o.dst (.tup [])=ts'∧s=s':=by simpa using h
   rw [wanted_ok ha hw]
   simp only [Bool.false_eq_true,if_false]
   exact ⟨fun f _=>hF f,hK φ w _ (Eff.refl hs) (ha.put o.dst rfl) (hdef _)⟩
 · cases h
def plainA (T:TT) (cal:Cal) (ops:Array Oper):List Oper→List AV→St→Option (List AV × St)
 | [],ts,s=>some (ts,s)
 | o::r,ts,s=>(stepA T cal ops ts s o).bind fun p=>plainA T cal ops r p.1 p.2
theorem plain_ok {T:TT} (hT:TypesOk P T) {cal:Cal} (hc:CalOk F n P cal) (hF:∀ f,F.fn f) {ops:Array Oper} {Q:Exit→Act→World→Prop}:∀ (l:List Oper) {w:World} {φ:Phi} {ts ts':List AV} {s s':St} {a:Act} (_:Slots φ ts a) (_:Stands B w0 φ s w) (_:plainA T cal ops l ts s=some (ts',s'))
  (_:∀ φ' w' a',Eff B w0 φ φ' s s' w'→Slots φ' ts' a'→a'.defers=a.defers→Q .normal a' w'),wpListIn F n P ops Q l a w
 | [],w,φ,ts,ts',s,s',a,ha,hs,h,hK=>by
   obtain ⟨rfl,rfl⟩:ts=ts'∧s=s':=by simpa [plainA] using h
   exact hK φ w a (Eff.refl hs) ha rfl
 | o::r,w,φ,ts,ts',s,s',a,ha,hs,h,hK=>by
   simp only [plainA,Option.bind_eq_some_iff] at h
   obtain ⟨p,hp,h⟩:=h
   unfold wpListIn
   exact step_ok hT hc hF ha hs (ts':=p.1) (s':=p.2) hp fun φ1 w1 a1 he h1 hd=>plain_ok hT hc hF r h1 he.stands h fun φ2 w2 a2 he2 h2 hd2=>hK φ2 w2 a2 (he.trans he2) h2 (hd2.trans hd)
end
end
end Go.Proofs.YtdpojpcoghcieaaGreat.Si
namespace Go.Proofs.YtdpojpcoghcieaaGreat.Si
noncomputable section
mutual
def beqA:AV→AV→Bool
 | .bool a,.bool b=>a == b
 | .int k a,.int l b=>(k == l) && (a == b)
 | .pnil,.pnil=>true
 | .ptr i o,.ptr j p=>Nat.beq i j && Nat.beq o p
 | .snil,.snil=>true
 | .sl i o l c x e,.sl i' o' l' c' x' e'=>Nat.beq i i' && Nat.beq o o' && Nat.beq l l' && Nat.beq c c' && (x == x') && Nat.beq e e'
 | .fnil,.fnil=>true
 | .fn (.func f) a b,.fn (.func g) c d=>Nat.beq f g && beqL a c && beqL b d
 | .yld i,.yld j=>Nat.beq i j
 | .inil,.inil=>true
 | .ifc t v,.ifc u w=>Nat.beq t u && beqA v w
 | .agg l,.agg m=>beqL l m
 | .tup l,.tup m=>beqL l m
 | _,_=>false
def beqL:List AV→List AV→Bool
 | [],[]=>true
 | a::r,b::s=>beqA a b && beqL r s
 | _,_=>false
end
mutual
theorem beqA_eq:∀ (a b:AV),beqA a b=true→a=b:=by
 intro a b h
 unfold beqA at h
 split at h
 all_goals try (simp only [Bool.and_eq_true,beq_iff_eq] at h)
 all_goals try (cases h;done)
 all_goals first
  | rfl
  | (rw [h])
  | (obtain ⟨h1,h2⟩:=h;rw [h1,h2])
  | (obtain ⟨h1,h2⟩:=h;rw [Nat.eq_of_beq_eq_true h1,Nat.eq_of_beq_eq_true h2])
  | (obtain ⟨⟨⟨⟨⟨h1,h2⟩,h3⟩,h4⟩,h5⟩,h6⟩:=h;rw [Nat.eq_of_beq_eq_true h1,Nat.eq_of_beq_eq_true h2,Nat.eq_of_beq_eq_true h3,Nat.eq_of_beq_eq_true h4,h5,Nat.eq_of_beq_eq_true h6])
  | (obtain ⟨⟨h1,h2⟩,h3⟩:=h;rw [Nat.eq_of_beq_eq_true h1,beqL_eq _ _ h2,beqL_eq _ _ h3])
  | (rw [Nat.eq_of_beq_eq_true h])
  | (obtain ⟨h1,h2⟩:=h;rw [Nat.eq_of_beq_eq_true h1,beqA_eq _ _ h2])
  | (rw [beqL_eq _ _ h])
theorem beqL_eq:∀ (l m:List AV),beqL l m=true→l=m
 | [],[],_=>rfl
 | [],_::_,h=>by simp [beqL] at h
 | _::_,[],h=>by simp [beqL] at h
 | a::r,b::s,h=>by
   simp only [beqL,Bool.and_eq_true] at h
   rw [beqA_eq a b h.1,beqL_eq r s h.2]
end
end
noncomputable section
open Go.RowKit
def writers:List Oper→Nat→List (Nat × Nat)
 | [],_=>[]
 | o::r,i=>match o.dst with
   | some d=>(d,i)::writers r (i+1)
   | none=>writers r (i+1)
def rhoA (ts:List AV) (W:List (Nat × Nat)) (b:List Nat) (V:List (Nat × AV)) (i:Nat):Operand→Option AV
 | .tmp t=>match look W t with
   | none=>some (getQ (.tup []) ts t)
   | some j=>bif (getQ 0 b i).testBit j then look V j else bif (getQ 0 b j).testBit i then some (getQ (.tup []) ts t) else none
 | .const v=>absV v
 | .global _=>none
 | .func f=>some (.fn (.func f) [] [])
def wantedR (ops:Array Oper) (ρ:Operand→Option AV) (o:Oper):Option Bool:=match o.guard with
 | none=>some true
 | some (j,want)=>match ((atQ ops.toList j).bind (·.dst)).bind fun d=>ρ (.tmp d) with
   | some (.bool b)=>some (b == want)
   | some (.tup _)=>some false
   | _=>none
def isEff:Op→Bool
 | .store ..=>true
 | .call { callee:=.builtin .len,.. }=>false
 | .call { callee:=.builtin .min,.. }=>false
 | .call { callee:=.builtin .max,.. }=>false
 | .call _=>true
 | _=>false
abbrev Ent:=Nat × St × St
structure RS where
 V:List (Nat × AV)
 s:St
 log:List Ent
 ids:List (Nat × Nat)
def stepR (T:TT) (cal:Cal) (ops:Array Oper) (ts:List AV) (W:List (Nat × Nat)) (b:List Nat) (x:RS) (i:Nat):Option RS :=
 match atQ ops.toList i,look x.V i with
 | some o,none=>match wantedR ops (rhoA ts W b x.V i) o with
   | none=>none
   | some false=>bif isEff o.op then some ⟨(i,.tup [])::x.V,x.s,(i,x.s,x.s)::x.log,x.ids⟩ else some ⟨(i,.tup [])::x.V,x.s,x.log,x.ids⟩
   | some true=>bif isEff o.op then (effA T cal (rhoA ts W b x.V i) x.s o).map fun p=>⟨(i,p.1)::x.V,p.2,(i,x.s,p.2)::x.log,x.ids⟩
     else match pureOp T (rhoA ts W b x.V i) o.op with
      | some r=>some ⟨(i,r)::x.V,x.s,x.log,x.ids⟩
      | none=>match o.op with
        | .load t p=>(rhoA ts W b x.V i p).bind fun a=>(loadA T x.s t a).map fun r=>⟨(i,r)::x.V,x.s,x.log,x.ids⟩
        | _=>match newOp T (rhoA ts W b x.V i) x.s.next o.op with
          | some (r,cs,t)=>if x.s.next<2 ^ dep then some ⟨(i,r)::x.V,x.s.new (.cells cs t),x.log,(i,x.s.next)::x.ids⟩ else none
          | none=>none
 | _,_=>none
def runR (T:TT) (cal:Cal) (ops:Array Oper) (ts:List AV) (W:List (Nat × Nat)) (b:List Nat):List Nat→RS→Option RS
 | [],x=>some x
 | i::r,x=>(stepR T cal ops ts W b x i).bind (runR T cal ops ts W b r)
def curE (fin:St):List Ent→St
 | []=>fin
 | (_,s,_)::_=>s
def splits (b:List Nat) (i:Nat) (f:St→Bool) (fin:St):List Ent→List Ent→Bool
 | dn,td=>(bif dn.all (fun e=>!(getQ 0 b e.1).testBit i) && td.all (fun e=>!(getQ 0 b i).testBit e.1) then f (curE fin td) else true) && match td with
   | []=>true
   | e::r=>splits b i f fin (e::dn) r
def okR (T:TT) (ops:Array Oper) (ρ:Operand→Option AV) (b:List Nat) (L:List Ent) (fin:St) (ids:List (Nat × Nat)) (i:Nat) (o:Oper) (v:AV):Bool :=
 match wantedR ops ρ o with
 | none=>false
 | some false=>beqA v (.tup [])
 | some true=>match pureOp T ρ o.op with
   | some r=>beqA v r
   | none=>match o.op with
     | .load t p=>match ρ p with
       | some a=>splits b i (fun s=>match loadA T s t a with
         | some r=>beqA v r
         | none=>false) fin [] L
       | none=>false
     | _=>match look ids i with
       | some id=>match newOp T ρ id o.op with
         | some (r,cs,t)=>beqA v r && splits b i (fun s=>Nat.blt id s.next && match s.get id with
           | some (.cells cs' t')=>beqL cs' cs && Nat.beq t' t
           | _=>false) fin [] L
         | none=>false
       | none=>false
def idsOk (L:List Ent):List (Nat × Nat)→Bool
 | []=>true
 | (i,id)::r=>r.all (fun p=>!Nat.beq p.2 id && !Nat.beq p.1 i) && L.all (fun e=>Nat.blt id e.2.1.next || Nat.ble e.2.2.next id) && idsOk L r
def effsOk (b:List Nat):List Ent→Bool
 | []=>true
 | e::r=>r.all (fun f=>(getQ 0 b f.1).testBit e.1 && !Nat.beq f.1 e.1) && effsOk b r
def waits (b:List Nat):List Edge→Nat
 | []=>0
 | e::r=>bif Region.binds .any e then (1 <<< e.on) ||| getQ 0 b e.on ||| waits b r else waits b r
def noneTwice:List (Nat × Nat)→Bool
 | []=>true
 | (t,_)::r=>r.all (fun p=>!Nat.beq p.1 t) && noneTwice r
def chkR (T:TT) (ops:Array Oper) (ts:List AV) (W:List (Nat × Nat)) (b rk:List Nat) (x:RS):List Oper→Nat→Bool
 | [],_=>true
 | o::r,i=>(Nat.beq (getQ 0 b i) (waits b o.after.toList)) && o.after.toList.all (fun e=>!Region.binds .any e || (Nat.blt (getQ 0 rk e.on) (getQ 0 rk i) && Nat.blt e.on ops.size))
     && (match look x.V i with
      | none=>false
      | some v=>bif isEff o.op then x.log.any (fun e=>Nat.beq e.1 i) else okR T ops (rhoA ts W b x.V i) b x.log.reverse x.s x.ids i o v) && (match o.dst with
      | some d=>Nat.blt d ts.length
      | none=>true)
     && chkR T ops ts W b rk x r (i+1)
def endR (V:List (Nat × AV)):List (Nat × Nat)→List AV→List AV
 | [],ts=>ts
 | (t,j)::r,ts=>endR V r (setQ ts t ((look V j).getD (.tup [])))
def drawnA (T:TT) (cal:Cal) (ops:Array Oper) (ord b rk:List Nat) (ts:List AV) (s:St):Option (List AV × St) :=
 (runR T cal ops ts (writers ops.toList 0) b ord ⟨[],s,[],[]⟩).bind fun x =>
  bif noneTwice (writers ops.toList 0) && chkR T ops ts (writers ops.toList 0) b rk x ops.toList 0 && idsOk x.log x.ids && effsOk b x.log.reverse && x.log.all (fun e=>Nat.blt e.1 ops.size) && x.ids.all (fun p=>Nat.ble s.next p.2)
  then some (endR x.V (writers ops.toList 0) ts,x.s) else none
end
end Go.Proofs.YtdpojpcoghcieaaGreat.Si
