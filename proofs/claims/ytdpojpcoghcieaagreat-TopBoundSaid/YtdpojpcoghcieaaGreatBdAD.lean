/- A part of the proof of TopBound: SiNew, SiGrow, SiAppend. Conditions: none. -/
import Derived.IntWalk
import Derived.Deep.AppendSrc
import Derived.Deep.Upon
import Derived.Test.YtdpojpcoghcieaaGreatBdAC
set_option maxHeartbeats 8000000
namespace Go.Proofs.YtdpojpcoghcieaaGreat.Si
noncomputable section
open Go.RowKit
def rep {α:Type}:Nat→List α→List α
 | 0,_=>[]
 | n+1,z=>z++rep n z
def newOp (T:TT) (ρ:Operand→Option AV) (id:Nat):Op→Option (AV × List AV × TypeId)
 | .alloc e=>(look T e).map fun i=>(.ptr id 0,i.zero,e)
 | .box e x=>(ρ x).map fun a=>(.ptr id 0,avCells a,e)
 | .buildSlice t len ps=>match look T t with
   | some { k:=.slice e,.. }=>(look T e).bind fun te=>if len*te.size≤2 ^ 24 then
     (evalP ρ ps.toList).bind fun ps=>(fillA (placeE te.size) (rep len te.zero) ps).map fun cs=>(.sl id 0 len len true te.size,cs,e)
     else none
   | _=>none
 | .makeSlice t l c=>match ρ l,ρ c,look T t with
   | some (.int _ l),some (.int _ c),some { k:=.slice e,.. }=>(look T e).bind fun te=>if 0≤l∧l≤c∧c≤2 ^ 20∧te.bytes*c≤2 ^ 48 then
     some (.sl id 0 l.toNat c.toNat true te.size,rep c.toNat te.zero,e)
     else none
   | _,_,_=>none
 | _=>none
def Phi.up (φ:Phi) (id:Nat) (L:Loc):Phi:=fun j=>if j=id then some L else φ j
theorem Phi.up_le {φ:Phi} {id:Nat} (h:φ id=none) (L:Loc):φ.le (φ.up id L):=fun j M hj=>by
 unfold Phi.up
 rw [if_neg (fun e=>by subst e;rw [h] at hj;cases hj)]
 exact hj
theorem Phi.up_self (φ:Phi) (id:Nat) (L:Loc):(φ.up id L) id=some L:=by simp [Phi.up]
theorem Stands.new {B:Nat} {w0 w:World} {φ:Phi} {s:St} (hs:Stands B w0 φ s w) (o:AO) (hr:s.next<2 ^ dep):Stands B w0 φ (s.new o) w :=
 ⟨hs.below,hs.size,hr,fun i L h=>⟨Nat.lt_succ_of_lt (hs.dom i L h).1,(hs.dom i L h).2⟩,fun i L p h hp=>by
  rw [St.get_new hr (hs.lt h),if_neg (Nat.ne_of_lt (hs.dom i L h).1)] at hp
  exact hs.lies i L p h hp,fun i j L M o p hi hj ho hp he=>by
  rw [St.get_new hr (hs.lt hi),if_neg (Nat.ne_of_lt (hs.dom i L hi).1)] at ho
  rw [St.get_new hr (hs.lt hj),if_neg (Nat.ne_of_lt (hs.dom j M hj).1)] at hp
  exact hs.apart i j L M o p hi hj ho hp he⟩
theorem Stands.place {B:Nat} {w0 w:World} {φ:Phi} {s:St} (hs:Stands B w0 φ s w) {id:Nat} (h0:φ id=none) (h1:id<s.next) {ob:Obj} {L:Loc} (hb:L.blk=w.heap.size)
  (hl:∀ o,s.get id=some o→Lies (φ.up id L) (w.alloc ob) L o):Stands B w0 (φ.up id L) s (w.alloc ob) :=
 have hheap:∀ i M,φ i=some M→(w.alloc ob).heap[M.blk]?=w.heap[M.blk]?:=fun i M h=>by
  have:=(hs.dom i M h).2.2
  rw [show (w.alloc ob).heap=w.heap.push ob from rfl,Array.getElem?_push,if_neg (by omega)]
 ⟨hs.below.alloc hs.size ob,by rw [World.size_alloc];exact Nat.le_succ_of_le hs.size,hs.room,fun i M h=>by
  unfold Phi.up at h
  split at h
  · rename_i e
    subst e
    injection h with h
    subst h
    exact ⟨h1,by rw [hb];exact hs.size,by rw [hb,World.size_alloc];omega⟩
  · have:=hs.dom i M h
    exact ⟨this.1,this.2.1,by rw [World.size_alloc];omega⟩,fun i M o h ho=>by
  by_cases e:i=id
  · subst e
    rw [Phi.up_self] at h
    injection h with h
    subst h
    exact hl o ho
  · have h':φ i=some M:=by unfold Phi.up at h;rwa [if_neg e] at h
    exact ((hs.lies i M o h' ho).heap (hheap i M h')).mono (Phi.up_le h0 L),fun i j M N o p hi hj ho hp he=>by
  unfold Phi.up at hi hj
  split at hi <;> split at hj <;> rename_i e1 e2
  · exact e1.trans e2.symm
  · injection hi with hi
    subst hi
    have:=(hs.dom j N hj).2.2
    omega
  · injection hj with hj
    subst hj
    have:=(hs.dom i M hi).2.2
    omega
  · exact hs.apart i j M N o p hi hj ho hp he⟩
theorem rep_ok {φ:Phi} {z:List AV} {vs:List Value} (h:concL φ z=some vs):∀ n,concL φ (rep n z)=some (rep n vs)
 | 0=>rfl
 | n+1=>concL_append h (rep_ok h n)
theorem rep_len {α:Type} (z:List α):∀ n,(rep n z).length=n*z.length
 | 0=>by simp [rep]
 | n+1=>by rw [rep,List.length_append,rep_len z n,Nat.succ_mul,Nat.add_comm]
theorem rep_at {α:Type} (z:List α):∀ n j,j<n*z.length→(rep n z)[j]?=z[j % z.length]?
 | 0,j,h=>by simp at h
 | n+1,j,h=>by
   rw [rep]
   rcases Nat.lt_or_ge j z.length with hj | hj
   · rw [List.getElem?_append_left hj,Nat.mod_eq_of_lt hj]
   · rw [List.getElem?_append_right hj,rep_at z n _ (by rw [Nat.succ_mul] at h;omega),← Nat.mod_eq_sub_mod hj]
theorem rep_range (z:Array Value) (n:Nat):(Array.range (n*z.size)).map (fun j=>z[j % z.size]!)=(rep n z.toList).toArray:=by
 apply Array.ext'
 apply List.ext_getElem?
 intro j
 by_cases hj:j<n*z.size
 · have hz:0<z.size:=by
    rcases Nat.eq_zero_or_pos z.size with h | h
    · rw [h] at hj;simp at hj
    · exact h
   have hm:=Nat.mod_lt j hz
   rw [show (rep n z.toList).toArray.toList=rep n z.toList from rfl,rep_at _ _ _ (by simpa using hj)]
   simp [hj,hm]
 · rw [show (rep n z.toList).toArray.toList=rep n z.toList from rfl,List.getElem?_eq_none (by simpa using hj),List.getElem?_eq_none (by rw [rep_len];simpa using hj)]
section
variable {P:Program} {φ:Phi} {ρ:Operand→Option AV} {ρc:Operand→Value}
theorem new_ok {T:TT} (hT:TypesOk P T) (hρ:∀ x a,ρ x=some a→conc φ a=some (ρc x)) {id:Nat} {o:Oper} {a:AV} {cs:List AV} {t:TypeId} (h:newOp T ρ id o.op=some (a,cs,t)) :
  ∃ C:List Value,concL φ cs=some C∧∀ w,∃ v,(execOp ρc o).run P w=.ok (.value v) (w.alloc (.cells C.toArray t (0,0)))∧conc (φ.up id ⟨w.heap.size,0,C.length⟩) a=some v:=by
 cases ho:o.op <;> rw [ho] at h <;> simp only [newOp] at h <;> try (cases h;done)
 case alloc e =>
  simp only [Option.map_eq_some_iff] at h
  obtain ⟨i,hi,h⟩:=h
  simp only [Prod.mk.injEq] at h
  obtain ⟨rfl,rfl,rfl⟩:=h
  obtain ⟨z,hz,k⟩:=(hT.at hi).info
  refine ⟨z.cells.toList,absCs_conc φ _ _ k,fun w=>?_⟩
  have hzr:(zeroValue e).run P w=.ok z w:=by
   cases hq:P.info? e with
   | none=>rw [hq] at hz;cases hz
   | some x=>rw [hq] at hz;simp at hz;simp [zeroValue,typeInfo,hq,hz.2.2]
  exact ⟨.pointer (some ⟨w.heap.size,0,none⟩),by simp [execOp,ho,Instr.alloc,Sem.run_bind,hzr,newVar,newRow],by simp [conc,Phi.up_self]⟩
 case box e x =>
  simp only [Option.map_eq_some_iff] at h
  obtain ⟨b,hb,h⟩:=h
  simp only [Prod.mk.injEq] at h
  obtain ⟨rfl,rfl,rfl⟩:=h
  exact ⟨(ρc x).cells.toList,avCells_ok (hρ _ _ hb),fun w=>⟨.pointer (some ⟨w.heap.size,0,none⟩),by simp [execOp,ho,Instr.box,newVar,newRow],by simp [conc,Phi.up_self]⟩⟩
 case buildSlice t' len ps =>
  split at h
  · rename_i ti e hl
    simp only [Option.bind_eq_some_iff] at h
    obtain ⟨te,hte,h⟩:=h
    split at h
    · rename_i hsz
      simp only [Option.bind_eq_some_iff,Option.map_eq_some_iff] at h
      obtain ⟨qs,hq,cs',hf,h⟩:=h
      simp only [Prod.mk.injEq] at h
      obtain ⟨rfl,rfl,rfl⟩:=h
      obtain ⟨d,hd,_,hkk⟩:=(hT.at hl).kind
      dsimp only at hkk
      subst hkk
      have hte':=hT.at hte
      obtain ⟨z,hz,k⟩:=hte'.info
      obtain ⟨e1,e2⟩:=evalP_ok hρ hq
      have e1':qs.map (·.1)=((ps.map fun p=>(p.1,ρc p.2)).toList).map (·.1):=by rw [e1];simp
      have e2':concL φ (qs.map (·.2))=some (((ps.map fun p=>(p.1,ρc p.2)).toList).map (·.2)):=by rw [e2];simp
      obtain ⟨rs,k1,k2⟩:=fill_ok e1' e2' (rep_ok (absCs_conc φ _ _ k) len) hf
      refine ⟨rs,k1,fun w=>?_⟩
      have hzr:(zeroValue e).run P w=.ok z w:=by
       cases hq:P.info? e with
       | none=>rw [hq] at hz;cases hz
       | some x=>rw [hq] at hz;simp at hz;simp [zeroValue,typeInfo,hq,hz.2.2]
      have hzs:z.cells.size=te.size:=by
       have:=concL_len (absCs_conc φ _ _ k)
       rw [hte'.len] at this
       simpa using this
      rw [← rep_range,hzs] at k2
      refine ⟨.slice (some ⟨w.heap.size,0,none⟩) len len,?_,by simp [conc,Phi.up_self]⟩
      simp only [execOp,ho,Instr.buildSlice]
      simp only [Sem.run_bind,run_underlying hd w,Result.andThen_ok,hte'.size_run w,Sem.run_pure]
      rw [if_neg (Nat.not_lt.2 hsz)]
      by_cases hne:len*te.size=0
      · rw [if_pos hne]
        simp only [Sem.run_bind,Result.andThen_ok,Sem.run_pure]
        have hr0:∀ z':Array Value,(Array.range (len*te.size)).map (fun j=>z'[j % z'.size]!)=#[]:=fun z'=>by rw [hne];simp
        have k3:=k2
        rw [show (Array.range (len*te.size)).map (fun j=>z.cells[j % te.size]!)=#[] by rw [hne];simp] at k3
        rw [hr0,show (fun i=>some (i*te.size,te.size))=placeE te.size from rfl,k3]
        simp [newRow]
      · rw [if_neg hne]
        simp only [Sem.run_bind,Result.andThen_ok,Sem.run_pure,hzr,hzs]
        rw [show (fun i=>some (i*te.size,te.size))=placeE te.size from rfl,k2]
        simp [newRow]
    · cases h
  · cases h
 case makeSlice t' l c =>
  split at h
  · rename_i k1 l' k2 c' _ _ _ _ e hl hc ht
    simp only [Option.bind_eq_some_iff] at h
    obtain ⟨te,hte,h⟩:=h
    split at h
    · rename_i hb
      obtain ⟨b0,b1,b2,b3⟩:=hb
      simp only [Option.some.injEq,Prod.mk.injEq] at h
      obtain ⟨rfl,rfl,rfl⟩:=h
      obtain ⟨d,hd,_,hkk⟩:=(hT.at ht).kind
      dsimp only at hkk
      subst hkk
      have hte':=hT.at hte
      obtain ⟨z,hz,k⟩:=hte'.info
      have el:ρc l=.int k1 l':=by have:=hρ _ _ hl;simpa [conc] using this.symm
      have ec:ρc c=.int k2 c':=by have:=hρ _ _ hc;simpa [conc] using this.symm
      have wl:IntKind.i64.wrap l'=l':=IntWalk.i64_in _ (by omega)
      have wc:IntKind.i64.wrap c'=c':=IntWalk.i64_in _ (by omega)
      refine ⟨rep c'.toNat z.cells.toList,rep_ok (absCs_conc φ _ _ k) _,fun w=>?_⟩
      have hzs:z.cells.size=te.size:=by
       have:=concL_len (absCs_conc φ _ _ k)
       rw [hte'.len] at this
       simpa using this
      have hr:=rep_range z.cells c'.toNat
      rw [hzs] at hr
      refine ⟨.slice (some ⟨w.heap.size,0,none⟩) l'.toNat c'.toNat,?_,by simp [conc,Phi.up_self]⟩
      cases hq:P.info? e with
      | none=>rw [hq] at hz;cases hz
      | some x =>
        rw [hq] at hz
        simp at hz
        have hn1:¬ (c'<0):=by omega
        have hn2:¬ (l'<0):=by omega
        have hn3:¬ (c'<l'):=by omega
        have hn4:¬ ((281474976710656:Int)<(te.bytes:Int)*c'):=by omega
        simp only [execOp,ho,Instr.makeSlice,el,ec]
        by_cases hne:c'.toNat*te.size=0
        · have hr2:(rep c'.toNat z.cells.toList).toArray=#[]:=by rw [← hr,hne];simp
          simp [Sem.run_bind,run_underlying hd w,asInt,asIntOf,typeInfo,hq,hz,wl,wc,hn1,hn2,hn3,hn4,sizeOf,hne,newRow,hr2]
          rw [show Array.map (fun (_:Nat)=>(default:Value)) (Array.range 0)=#[] by simp]
        · simp [Sem.run_bind,run_underlying hd w,asInt,asIntOf,typeInfo,hq,hz,wl,wc,hn1,hn2,hn3,hn4,sizeOf,hne,zeroValue,newRow,hzs,hr]
    · cases h
  · cases h
end
end
end Go.Proofs.YtdpojpcoghcieaaGreat.Si
namespace Go.Proofs.YtdpojpcoghcieaaGreat.Si
noncomputable section
open Go.RowKit
def readA (s:St) (id off n:Nat):Option (List AV):=match s.get id with
 | some (.cells cs _)=>if off+n≤cs.length then some ((cs.drop off).take n) else none
 | _=>none
def srcA (T:TT) (s:St) (tx:TypeId) (y:AV) (es:Nat):Option (Nat × List AV):=match y,look T tx with
 | .snil,some { k:=.slice _,.. }=>some (0,[])
 | .sl id off len _ _ _,some { k:=.slice _,.. }=>(readA s id off (len*es)).bind fun l=>if l.all oneA=true then some (len,l) else none
 | _,_=>none
def growA (s:St) (e:TypeId) (te:TI) (x:AV) (n:Nat) (l:List AV):Option (AV × St):=match x with
 | .snil=>if n=0 then some (.snil,s) else if n*te.bytes≤140737488355328∧n≤1048576∧s.next<2 ^ dep then some (.sl s.next 0 n n false te.size,s.new (.cells l e)) else none
 | .sl id off len cap ex es=>if es=te.size∧len≤cap then
   if n=0 then some (.sl id off len cap ex es,s)
   else if len+n≤cap then (writeA s id (off+len*es) l).map fun s'=>(.sl id off (len+n) cap ex es,s')
   else if (len+n)*te.bytes≤140737488355328∧len+n≤1048576∧s.next<2 ^ dep then
    (readA s id off (len*es)).bind fun olds=>bif ex then some (.sl s.next 0 (len+n) (len+n) false es,s.new (.cells (olds++l) e))
     else match s.get id with
      | some (.cells _ ct)=>if ct=e then some (.sl s.next 0 (len+n) (len+n) false es,(s.put id none).new (.cells (olds++l) e)) else none
      | _=>none
   else none
   else none
 | _=>none
def appendA (T:TT) (s:St) (t tx:TypeId) (x y:AV):Option (AV × St):=match look T t with
 | some { k:=.slice e,.. }=>(look T e).bind fun te=>(srcA T s tx y te.size).bind fun p=>growA s e te x p.1 p.2
 | _=>none
structure Eff (B:Nat) (w0:World) (φ φ':Phi) (s s':St) (w':World):Prop where
 le:φ.le φ'
 stands:Stands B w0 φ' s' w'
 next:s.next≤s'.next
 kept:∀ j,j<s.next→φ j=none→φ' j=none∧s'.get j=s.get j
section
variable {P:Program} {φ:Phi} {B:Nat} {w0 w:World} {s s':St}
theorem Stands.drew (hs:Stands B w0 φ s w):Stands B w0 φ s w.drew :=
 ⟨⟨hs.below.os,hs.below.tape,hs.below.output,hs.below.size,hs.below.block⟩,hs.size,hs.room,hs.dom,fun i L o h ho=>(hs.lies i L o h ho).heap rfl,hs.apart⟩
theorem Eff.refl (hs:Stands B w0 φ s w):Eff B w0 φ φ s s w:=⟨φ.le_refl,hs,Nat.le_refl _,fun _ _ h=>⟨h,rfl⟩⟩
theorem Stands.none_next (hs:Stands B w0 φ s w):φ s.next=none:=by
 cases h:φ s.next with
 | none=>rfl
 | some L=>exact absurd (hs.dom _ _ h).1 (Nat.lt_irrefl _)
theorem read_ok (hs:Stands B w0 φ s w) {id off n:Nat} {L:Loc} (hL:φ id=some L) {l:List AV} (h:readA s id off n=some l) :
  ∃ us,concL φ l=some us∧us.length=n∧off+n≤L.size∧∀ j u,us[j]?=some u→w.cell? ⟨L.blk,L.base+off+j,none⟩=some u:=by
 unfold readA at h
 split at h
 · rename_i cs t hg
   split at h
   · rename_i hle
     injection h with h
     subst h
     obtain ⟨C,vs,h1,h2,h3,h4,h5⟩:=hs.lies id L _ hL hg
     have hlv:=concL_len h4
     refine ⟨_,(concL_take (concL_take h4 off).2 n).1,by rw [List.length_take,List.length_drop];omega,by omega,fun j u hj=>?_⟩
     rw [cell_of_row w L.blk _ C t (0,0) h1,Nat.add_assoc]
     rw [List.getElem?_take] at hj
     split at hj
     · rw [List.getElem?_drop] at hj
       exact h5 (off+j) u hj
     · cases hj
   · cases h
 · cases h
theorem src_ok {T:TT} (hT:TypesOk P T) (hs:Stands B w0 φ s w) {tx:TypeId} {y:AV} {es n:Nat} {l:List AV} (h:srcA T s tx y es=some (n,l)) {v:Value} (hy:conc φ y=some v) :
  ∃ us,concL φ l=some us∧us.length=n*es∧Src P es tx v n us w:=by
 unfold srcA at h
 split at h
 · rename_i hl
   obtain ⟨rfl,rfl⟩:0=n∧[]=l:=by simpa using h
   obtain ⟨d,hd,_,hk⟩:=(hT.at hl).kind
   dsimp only at hk
   subst hk
   injection hy with hy
   subst hy
   exact ⟨[],rfl,by simp,Src.ofNil w hd 0⟩
 · rename_i id off len _ _ _ _ _ _ _ _ hl
   simp only [Option.bind_eq_some_iff] at h
   obtain ⟨m,hm,h⟩:=h
   split at h
   · rename_i h1
     obtain ⟨rfl,rfl⟩:len=n∧m=l:=by simpa using h
     obtain ⟨d,hd,_,hk⟩:=(hT.at hl).kind
     dsimp only at hk
     subst hk
     obtain ⟨L,c,hL,rfl,_⟩:=conc_sl hy
     obtain ⟨us,k1,k2,_,k3⟩:=read_ok hs hL hm
     exact ⟨us,k1,k2,Src.ofSlice w hd _ _ _ us k2 (fun j u hj=>by rw [Addr.add_mid];exact k3 j u hj) (allOne_ok k1 h1)⟩
   · cases h
 · cases h
theorem zeroCells_len (z:Array Value) (n:Nat):(Builtin.zeroCells z n).size=n*z.size:=by simp [Builtin.zeroCells]
theorem grow_ok {e:TypeId} {te:TI} (he:TypeOk P e te) (hs:Stands B w0 φ s w) (hr:s.next<2 ^ dep) {l:List AV} {us:List Value} (hl:concL φ l=some us) {need:Nat} (hn:us.length=need*te.size) {g:Nat} (hg:need≤g) {z:Value} (hz:z.cells.size=te.size) :
  Eff B w0 φ (φ.up s.next ⟨w.heap.size,0,g*te.size⟩) s (s.new (.cells l e)) (w.drew.alloc (.cells (us.toArray++Builtin.zeroCells z.cells (g-need)) e)) ∧
   conc (φ.up s.next ⟨w.heap.size,0,g*te.size⟩) (.sl s.next 0 need need false te.size)=some (.slice (some ⟨w.heap.size,0,none⟩) need g):=by
 have hp:=he.pos
 have hnn:=hs.none_next
 have hnew:(s.new (.cells l e)).next=s.next+1:=rfl
 refine ⟨⟨Phi.up_le hnn _,?_,by omega,fun j hj hjn=>⟨?_,?_⟩⟩,?_⟩
 · refine (hs.drew.new (.cells l e) hr).place hnn (by omega) rfl fun o ho=>?_
   rw [St.get_new hr hr,if_pos rfl] at ho
   injection ho with ho
   subst ho
   refine ⟨_,us,heap_alloc_new _ _,?_,?_,concL_mono (Phi.up_le hnn _) _ _ hl,fun j v hj=>?_⟩
   · rw [Array.size_append,zeroCells_len,hz]
     simp only [List.size_toArray,hn,Nat.zero_add]
     rw [← Nat.add_mul]
     congr 1
     omega
   · rw [← concL_len hl,hn]
     exact Nat.mul_le_mul_right _ hg
   · have hjl:j<us.length:=(List.getElem?_eq_some_iff.1 hj).1
     rw [Nat.zero_add,Array.getElem?_append_left (by simpa using hjl)]
     simpa using hj
 · unfold Phi.up
   rw [if_neg (by omega)]
   exact hjn
 · rw [St.get_new hr (by omega),if_neg (by omega)]
 · simp only [conc,Phi.up_self,Option.bind_some,Bool.false_eq_true,if_false,Nat.sub_zero,Nat.add_zero]
   rw [Nat.mul_div_cancel _ hp,if_pos hg]
end
end
end Go.Proofs.YtdpojpcoghcieaaGreat.Si
namespace Go.Proofs.YtdpojpcoghcieaaGreat.Si
noncomputable section
open Go.RowKit
theorem TypeOk.get {P:Program} {t:TypeId} {ti:TI} (h:TypeOk P t ti):∃ i z,P.info? t=some i∧i.size=ti.size∧i.bytes=ti.bytes∧i.zero=some z∧z.cells.size=ti.size:=by
 obtain ⟨z,h1,h2⟩:=h.info
 have h3:=concL_len (absCs_conc (fun _=>none) _ _ h2)
 rw [h.len] at h3
 cases hq:P.info? t with
 | none=>rw [hq] at h1;cases h1
 | some i =>
   rw [hq] at h1
   simp only [Option.map_some,Option.some.injEq,Prod.mk.injEq] at h1
   exact ⟨i,z,rfl,h1.1,h1.2.1,h1.2.2,by simpa using h3⟩
section
variable {P:Program} {φ:Phi} {B:Nat} {w0 w:World} {s s':St}
theorem append_grow {t tx ty e:TypeId} {te:TI} (ht:P.underlying t=some (.slice e)) (he:TypeOk P e te) (hs:Stands B w0 φ s w) (hr:s.next<2 ^ dep)
  {base:Option Addr} {len c n:Nat} {olds us:List Value} {lo l:List AV} (hlo:concL φ lo=some olds) (hl:concL φ l=some us) (hlen:olds.length=len*te.size)
  (hold:(Builtin.firstCells te.size len (.slice base len c)).run P w.drew=.ok olds.toArray w.drew) {v:Value} (hsrc:Src P te.size tx v n us w) (hc:c<len+n) (hb:(len+n)*te.bytes≤140737488355328) (hm:len+n≤1048576) :
  ∃ φ' w' q,(Builtin.append_ #[t,tx] ty #[.slice base len c,v]).run P w=.ok q w'∧Eff B w0 φ φ' s (s.new (.cells (lo++l) e)) w'∧conc φ' (.sl s.next 0 (len+n) (len+n) false te.size)=some q:=by
 obtain ⟨i,z,hi,e1,e2,hz,hzs⟩:=he.get
 have hn:=hsrc.newsLen
 obtain ⟨k1,k2⟩:=grow_ok he hs hr (concL_append hlo hl) (need:=len+n) (by rw [List.length_append,hlen,hn,Nat.add_mul]) (g:=grownCap w (len+n) c e) (grownCap_ge _ _ _ _) hzs
 refine ⟨_,_,_,?_,k1,k2⟩
 rw [← e1] at hold hsrc
 have:=run_append_grow_src w t tx ty e i z ht hi hz base len c olds hold v n us hsrc hc (by omega) (growslice_fits hc (by rw [e2];exact hb))
 exact this
theorem append_ok {T:TT} (hT:TypesOk P T) (hs:Stands B w0 φ s w) {t tx ty:TypeId} {x y r:AV} (h:appendA T s t tx x y=some (r,s')) {u v:Value} (hx:conc φ x=some u) (hy:conc φ y=some v) :
  ∃ φ' w' q,(Builtin.append_ #[t,tx] ty #[u,v]).run P w=.ok q w'∧Eff B w0 φ φ' s s' w'∧conc φ' r=some q:=by
 unfold appendA at h
 split at h
 · rename_i e hl
   simp only [Option.bind_eq_some_iff] at h
   obtain ⟨te,hte,⟨n,l⟩,hsrc,h⟩:=h
   dsimp only at h
   obtain ⟨d,ht,_,hk⟩:=(hT.at hl).kind
   dsimp only at hk
   subst hk
   have he:=hT.at hte
   obtain ⟨i,z,hi,e1,e2,hz,hzs⟩:=he.get
   obtain ⟨us,k1,k2,k3⟩:=src_ok hT hs hsrc hy
   unfold growA at h
   split at h
   ·
    injection hx with hx
    subst hx
    split at h
    · rename_i h0
      subst h0
      obtain rfl:us=[]:=List.eq_nil_of_length_eq_zero (by simpa using k2)
      obtain ⟨rfl,rfl⟩:AV.snil=r∧s=s':=by simpa using h
      rw [← e1] at k3
      exact ⟨φ,w,_,run_append_nothing w t tx ty e i ht hi none 0 0 (Nat.le_refl _) v k3,Eff.refl hs,rfl⟩
    · rename_i h0
      split at h
      · rename_i hb
        obtain ⟨rfl,rfl⟩:AV.sl s.next 0 n n false te.size=r∧s.new (.cells l e)=s':=by simpa using h
        have:=append_grow (ty:=ty) ht he hs hb.2.2 (base:=none) (len:=0) (c:=0) (lo:=[]) (olds:=[]) rfl k1 (by simp) (run_firstCells_none w.drew _ 0 0 0) k3 (by omega) (by rw [Nat.zero_add];exact hb.1) (by omega)
        simpa using this
      · cases h
   · rename_i id off len cap ex es
     obtain ⟨L,c,hL,rfl,hcap,hcc⟩:=conc_sl hx
     split at h
     · rename_i hes
       obtain ⟨rfl,hlc⟩:=hes
       split at h
       · rename_i h0
         subst h0
         obtain rfl:us=[]:=List.eq_nil_of_length_eq_zero (by simpa using k2)
         obtain ⟨rfl,rfl⟩:AV.sl id off len cap ex te.size=r∧s=s':=by simpa using h
         rw [← e1] at k3
         exact ⟨φ,w,_,run_append_nothing w t tx ty e i ht hi _ len c (by omega) v k3,Eff.refl hs,hx⟩
       · split at h
         · rename_i h0 hroom
           simp only [Option.map_eq_some_iff] at h
           obtain ⟨s1,hw,h⟩:=h
           obtain ⟨rfl,rfl⟩:AV.sl id off (len+n) cap ex te.size=r∧s1=s':=by simpa using h
           obtain ⟨m1,m2,m3,m4⟩:=hs.write hL hw k1
           rw [← e1] at k3
           have:=run_append_room_src w t tx ty e i ht hi L.blk (L.base+off) len c v n us k3 (by omega) (fun j hj=>by rw [e1,Nat.add_assoc L.base];exact (m2 j hj).1) (fun j hj=>by rw [e1,Nat.add_assoc L.base];exact (m2 j hj).2)
           refine ⟨φ,_,_,this,⟨φ.le_refl,?_,by omega,fun j hj hjn=>⟨hjn,m4 j (Nat.lt_of_lt_of_le hj hs.room) hjn⟩⟩,?_⟩
           · rw [e1,Nat.add_assoc L.base]
             exact m1
           · simp only [conc,hL,Option.bind_some]
             rw [← hcc,if_pos hcap]
         · rename_i h0 hroom
           split at h
           · rename_i hb
             simp only [Option.bind_eq_some_iff] at h
             obtain ⟨lo,hlo,h⟩:=h
             obtain ⟨olds,o1,o2,o3,o4⟩:=read_ok hs hL hlo
             have hold:(Builtin.firstCells te.size len (.slice (some ⟨L.blk,L.base+off,none⟩) len c)).run P w.drew=.ok olds.toArray w.drew :=
              run_firstCells_some w.drew te.size len _ len c olds o2 fun j u hj=>by rw [Addr.add_mid];simpa using o4 j u hj
             cases hex:ex with
             | true =>
               rw [hex] at h hcc
               obtain ⟨rfl,rfl⟩:AV.sl s.next 0 (len+n) (len+n) false te.size=r∧s.new (.cells (lo++l) e)=s':=by simpa using h
               simp only [if_true] at hcc
               exact append_grow ht he hs hb.2.2 o1 k1 o2 hold k3 (by omega) hb.1 hb.2.1
             | false =>
               rw [hex] at h hcc
               simp only [cond_false] at h
               simp only [Bool.false_eq_true,if_false] at hcc
               split at h
               · rename_i cs ct hg
                 split at h
                 · rename_i hct
                   subst hct
                   obtain ⟨rfl,rfl⟩:AV.sl s.next 0 (len+n) (len+n) false te.size=r∧(s.put id none).new (.cells (lo++l) ct)=s':=by simpa using h
                   have hid:=hs.lt hL
                   have hnn:=hs.none_next
                   have hne:id≠s.next:=fun e=>by rw [e,hnn] at hL;cases hL
                   have hs1:Stands B w0 φ (s.put id none) w:=⟨hs.below,hs.size,hs.room,hs.dom,fun i M o hM ho=>by
                    rw [St.get_put hid (hs.lt hM)] at ho
                    split at ho
                    · cases ho
                    · exact hs.lies i M o hM ho,fun i j M N o p hM hN ho hp he=>by
                    rw [St.get_put hid (hs.lt hM)] at ho
                    rw [St.get_put hid (hs.lt hN)] at hp
                    split at ho
                    · cases ho
                    · split at hp
                      · cases hp
                      · exact hs.apart i j M N o p hM hN ho hp he⟩
                   by_cases hcr:c<len+n
                   · obtain ⟨φ',w',q,r1,r2,r3⟩:=append_grow (ty:=ty) ht he hs1 hb.2.2 o1 k1 o2 hold k3 hcr hb.1 hb.2.1
                     refine ⟨φ',w',q,r1,⟨r2.le,r2.stands,r2.next,fun j hj hjn=>?_⟩,r3⟩
                     obtain ⟨a1,a2⟩:=r2.kept j hj hjn
                     refine ⟨a1,a2.trans ?_⟩
                     rw [St.get_put hid (Nat.lt_of_lt_of_le hj hs.room),if_neg (fun e=>by subst e;rw [hL] at hjn;cases hjn)]
                   · obtain ⟨C,vs,h1,h2,h3,h4,h5⟩:=hs.lies id L _ hL hg
                     have hmul:(len+n)*te.size≤L.size-off:=by
                      have:len+n≤(L.size-off) / te.size:=by omega
                      exact Nat.le_trans (Nat.mul_le_mul_right _ this) (Nat.div_mul_le_self _ _)
                     rw [Nat.add_mul] at hmul
                     have hcell:∀ j,j<us.length→(w.cell? ⟨L.blk,L.base+off+len*te.size+j,none⟩).isSome=true∧w.frozen? ⟨L.blk,L.base+off+len*te.size+j,none⟩=false:=fun j hj=>by
                      refine ⟨?_,by simp [World.frozen?,h1]⟩
                      rw [cell_of_row w L.blk _ C ct (0,0) h1,Array.getElem?_eq_getElem (by omega)]
                      rfl
                     rw [← e1] at k3
                     have hrun:=run_append_room_src w t tx ty ct i ht hi L.blk (L.base+off) len c v n us k3 (by omega) (fun j hj=>by rw [e1];exact (hcell j hj).1) (fun j hj=>by rw [e1];exact (hcell j hj).2)
                     rw [e1] at hrun
                     have hdom:=hs.dom id L hL
                     have hup:∀ i M,(φ.up s.next ⟨L.blk,L.base+off,L.size-off⟩) i=some M→(i=s.next∧M=⟨L.blk,L.base+off,L.size-off⟩)∨(i≠s.next∧φ i=some M):=fun i M hM=>by
                      unfold Phi.up at hM
                      split at hM
                      · rename_i e
                        exact .inl ⟨e,by injection hM with hM;exact hM.symm⟩
                      · rename_i e
                        exact .inr ⟨e,hM⟩
                     have hget:∀ i o,i≠s.next→i<2 ^ dep→((s.put id none).new (.cells (lo++l) ct)).get i=some o→i≠id∧s.get i=some o:=fun i o hi hi2 ho=>by
                      rw [St.get_new (show (s.put id none).next<2 ^ dep from hb.2.2) hi2,if_neg (show ¬ i=(s.put id none).next from hi),St.get_put hid hi2] at ho
                      split at ho
                      · cases ho
                      · rename_i e
                        exact ⟨e,ho⟩
                     have hself:((s.put id none).new (.cells (lo++l) ct)).get s.next=some (.cells (lo++l) ct):=by
                      rw [St.get_new (show (s.put id none).next<2 ^ dep from hb.2.2) hb.2.2,if_pos (show s.next=(s.put id none).next from rfl)]
                     have hnx:((s.put id none).new (.cells (lo++l) ct)).next=s.next+1:=rfl
                     refine ⟨φ.up s.next ⟨L.blk,L.base+off,L.size-off⟩,_,_,hrun,⟨Phi.up_le hnn _,⟨below_setCells hdom.2.1 us _ w0 w hs.below,by rw [size_setCells];exact hs.size,hb.2.2,fun i M hM=>?_,fun i M o hM ho=>?_,fun i j M N o p hM hN ho hp heq=>?_⟩,by omega,fun j hj hjn=>⟨?_,?_⟩⟩,?_⟩
                     · rw [size_setCells,hnx]
                       rcases hup i M hM with ⟨rfl,rfl⟩ | ⟨_,hM⟩
                       · exact ⟨by omega,hdom.2⟩
                       · have:=hs.dom i M hM
                         exact ⟨by omega,this.2⟩
                     · rcases hup i M hM with ⟨rfl,rfl⟩ | ⟨hi,hM⟩
                       · rw [hself] at ho
                         injection ho with ho
                         subst ho
                         have hC:w.heap[L.blk]?=some (.cells C.toList.toArray ct (0,0)):=by simpa using h1
                         refine ⟨_,olds++us,block_setCells L.blk us _ w C.toList ct (0,0) hC,?_,?_,concL_mono (Phi.up_le hnn _) _ _ (concL_append o1 k1),fun j v hj=>?_⟩
                         · simp only [List.size_toArray,setV_len,Array.length_toList,h2]
                           omega
                         · rw [← concL_len (concL_append o1 k1),List.length_append,o2,k2]
                           exact hmul
                         · rw [List.getElem?_toArray,setV_at _ _ _ _ (by simp only [Array.length_toList];omega)]
                           rcases Nat.lt_or_ge j (len*te.size) with hj1 | hj1
                           · rw [if_neg (by dsimp only;omega)]
                             rw [List.getElem?_append_left (by omega)] at hj
                             have:=o4 j v hj
                             rw [cell_of_row w L.blk _ C ct (0,0) h1] at this
                             simpa using this
                           · rw [List.getElem?_append_right (by omega),o2] at hj
                             have hjl:j-len*te.size<us.length:=(List.getElem?_eq_some_iff.1 hj).1
                             rw [if_pos (by dsimp only;omega)]
                             dsimp only
                             rw [show L.base+off+j-(L.base+off+len*te.size)=j-len*te.size by omega]
                             exact hj
                       · obtain ⟨hne2,hg2⟩:=hget i o hi (hs.lt hM) ho
                         have hblk:M.blk≠L.blk:=fun e=>hne2 (hs.apart i id M L _ _ hM hL hg2 hg e)
                         exact ((hs.lies i M o hM hg2).heap (heap_setCells _ us _ w _ hblk)).mono (Phi.up_le hnn _)
                     · rcases hup i M hM with ⟨rfl,rfl⟩ | ⟨hi,hM⟩ <;> rcases hup j N hN with ⟨rfl,rfl⟩ | ⟨hj,hN⟩
                       · rfl
                       · obtain ⟨hne2,hg2⟩:=hget j p hj (hs.lt hN) hp
                         exact absurd (hs.apart j id N L _ _ hN hL hg2 hg heq.symm) hne2
                       · obtain ⟨hne2,hg2⟩:=hget i o hi (hs.lt hM) ho
                         exact absurd (hs.apart i id M L _ _ hM hL hg2 hg heq) hne2
                       · exact hs.apart i j M N o p hM hN (hget i o hi (hs.lt hM) ho).2 (hget j p hj (hs.lt hN) hp).2 heq
                     · unfold Phi.up
                       rw [if_neg (by omega)]
                       exact hjn
                     · have hj2:j<2 ^ dep:=Nat.lt_of_lt_of_le hj hs.room
                       rw [St.get_new (show (s.put id none).next<2 ^ dep from hb.2.2) hj2,if_neg (show ¬ j=(s.put id none).next from Nat.ne_of_lt hj),St.get_put hid hj2,if_neg (fun e=>by subst e;rw [hL] at hjn;cases hjn)]
                     · simp only [conc,Phi.up_self,Option.bind_some,Bool.false_eq_true,if_false,Nat.sub_zero,Nat.add_zero]
                       rw [← hcc,if_pos (by omega)]
                 · cases h
               · cases h
           · cases h
     · cases h
   · cases h
 · cases h
end
end
end Go.Proofs.YtdpojpcoghcieaaGreat.Si
