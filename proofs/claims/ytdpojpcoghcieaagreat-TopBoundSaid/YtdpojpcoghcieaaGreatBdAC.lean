/- A part of the proof of TopBound: SiPureOp, SiMem. Conditions: none. -/
import Derived.BigFrame
import Derived.Laws.NewFold
import Derived.Below
import Derived.Test.YtdpojpcoghcieaaGreatBdAB
set_option maxHeartbeats 8000000
namespace Go.Proofs.YtdpojpcoghcieaaGreat.Si
noncomputable section
open Go.RowKit
def evalP (ρ:Operand→Option AV):List (Nat × Operand)→Option (List (Nat × AV))
 | []=>some []
 | (i,x)::r=>(ρ x).bind fun a=>(evalP ρ r).map fun l=>(i,a)::l
def placeS (fs:List FD) (i:Nat):Option (Nat × Nat):=(atQ fs i).map fun f=>(f.off,f.size)
def placeE (es:Nat) (i:Nat):Option (Nat × Nat):=some (i*es,es)
def minA:AV→AV→Option AV
 | .int k x,.int _ y=>some (.int k (if y<x then y else x))
 | _,_=>none
def maxA:AV→AV→Option AV
 | .int k x,.int _ y=>some (.int k (if y > x then y else x))
 | _,_=>none
def foldA (f:AV→AV→Option AV):AV→List AV→Option AV
 | a,[]=>some a
 | a,b::r=>(f a b).bind fun c=>foldA f c r
def pureOp (T:TT) (ρ:Operand→Option AV):Op→Option AV
 | .move x=>ρ x
 | .assign x=>ρ x
 | .pick c a b=>match ρ c with
   | some (.bool true)=>ρ a
   | some (.bool false)=>ρ b
   | _=>none
 | .fieldAddr s x f=>match ρ x,look T s with
   | some (.ptr id off),some { k:=.struct fs,.. }=>(atQ fs f).map fun fd=>.ptr id (off+fd.off)
   | _,_=>none
 | .field s x f=>match ρ x,look T s with
   | some (.agg cs),some { k:=.struct fs,.. }=>(atQ fs f).bind fun fd=>partA cs fd.off fd.size fd.agg
   | _,_=>none
 | .indexAddr t x i=>match ρ x,ρ i,look T t with
   | some (.sl id off len _ _ _),some (.int _ n),some { k:=.slice e,.. }=>(look T e).bind fun te=>if 0≤n∧n<len then some (.ptr id (off+n.toNat*te.size)) else none
   | some (.ptr id off),some (.int _ n),some { k:=.array m _ es _,.. }=>if 0≤n∧n<m then some (.ptr id (off+n.toNat*es)) else none
   | _,_,_=>none
 | .index t x i=>match ρ x,ρ i,look T t with
   | some (.agg cs),some (.int _ n),some { k:=.array m _ es ea,.. }=>if 0≤n∧n<m then partA cs (n.toNat*es) es ea else none
   | _,_,_=>none
 | .extract x k=>match ρ x with
   | some (.tup l)=>atQ l k
   | _=>none
 | .nilCheck x=>match ρ x with
   | some (.ptr id off)=>some (.ptr id off)
   | some (.fn (.func f) a b)=>some (.fn (.func f) a b)
   | some (.ifc t v)=>some (.ifc t v)
   | _=>none
 | .unOp .not _ x=>match ρ x with
   | some (.bool b)=>some (.bool !b)
   | _=>none
 | .binOp op t x y _=>(ρ x).bind fun a=>(ρ y).bind fun b=>binA T op t a b
 | .convert s d x=>match ρ x,look T s,look T d with
   | some (.int _ n),some _,some { k:=.int k,.. }=>some (.int k (k.wrap n))
   | _,_,_=>none
 | .makeInterface t x=>match look T t with
   | some { k:=.ptr,.. }=>(ρ x).map fun a=>.ifc t a
   | _=>none
 | .makeFunc f a b=>(evalL ρ a.toList).bind fun a=>(evalL ρ b.toList).map fun b=>.fn f a b
 | .slice t x lo hi mx=>match ρ x,look T t with
   | some (.sl id off len cap ex es),some { k:=.slice e,.. }=>(look T e).bind fun te=>if te.size=es then sliceA ρ (.sl id off len cap ex es) lo hi mx else none
   | _,_=>none
 | .build t ps=>match look T t with
   | some { k:=.struct fs,zero:=z,.. }=>(evalP ρ ps.toList).bind fun ps=>(fillA (placeS fs) z ps).map .agg
   | some { k:=.array _ _ es _,zero:=z,.. }=>(evalP ρ ps.toList).bind fun ps=>(fillA (placeE es) z ps).map .agg
   | _=>none
 | .call { callee:=.builtin .len,args:=xs,argTypes:=ts }=>match evalL ρ xs.toList,ts.toList with
   | some [.sl _ _ len _ _ _],[t]=>match look T t with
     | some { k:=.slice _,.. }=>some (.int .i64 len)
     | _=>none
   | some [.snil],[t]=>match look T t with
     | some { k:=.slice _,.. }=>some (.int .i64 0)
     | _=>none
   | some [_],[t]=>match look T t with
     | some { k:=.array n _ _ _,.. }=>some (.int .i64 n)
     | _=>none
   | _,_=>none
 | .call { callee:=.builtin .min,args:=xs,.. }=>match evalL ρ xs.toList with
   | some (a::r)=>foldA minA a r
   | _=>none
 | .call { callee:=.builtin .max,args:=xs,.. }=>match evalL ρ xs.toList with
   | some (a::r)=>foldA maxA a r
   | _=>none
 | _=>none
section
variable {P:Program} {φ:Phi} {ρ:Operand→Option AV} {ρc:Operand→Value}
def Yv (P:Program) (φ:Phi) (ρc:Operand→Value) (o:Oper) (r:AV):Prop:=∃ v,conc φ r=some v∧∀ w,(execOp ρc o).run P w=.ok (.value v) w
theorem evalP_ok (hρ:∀ x a,ρ x=some a→conc φ a=some (ρc x)):∀ {l:List (Nat × Operand)} {m:List (Nat × AV)},evalP ρ l=some m→m.map (·.1)=l.map (·.1)∧concL φ (m.map (·.2))=some (l.map fun p=>ρc p.2)
 | [],_,h=>by cases h;exact ⟨rfl,rfl⟩
 | (i,x)::r,_,h=>by
   simp only [evalP,Option.bind_eq_some_iff,Option.map_eq_some_iff] at h
   obtain ⟨a,h1,l,h2,rfl⟩:=h
   obtain ⟨e1,e2⟩:=evalP_ok hρ h2
   exact ⟨by simp [e1],by simp [concL_cons,hρ x a h1,e2]⟩
theorem agg_of {cs:List AV} {v:Value} (h:conc φ (.agg cs)=some v):∃ vs,v=.agg vs.toArray∧concL φ cs=some vs:=by
 simp only [conc,Option.map_eq_some_iff] at h
 obtain ⟨vs,h1,h2⟩:=h
 exact ⟨vs,h2.symm,h1⟩
theorem ptr_of {id off:Nat} {v:Value} (h:conc φ (.ptr id off)=some v):∃ L,φ id=some L∧v=.pointer (some ⟨L.blk,L.base+off,none⟩):=by
 simp only [conc,Option.map_eq_some_iff] at h
 obtain ⟨L,h1,h2⟩:=h
 exact ⟨L,h1,h2.symm⟩
theorem foldMin_ok:∀ {r:List AV} {us:List Value} {a:AV} {u:Value} {b:AV},concL φ r=some us→conc φ a=some u→foldA minA a r=some b→∃ v,conc φ b=some v∧∀ w,(us.foldlM Builtin.min2 u).run P w=.ok v w
 | [],us,a,u,b,h,ha,hb=>by cases h;injection hb with hb;subst hb;exact ⟨u,ha,fun w=>rfl⟩
 | x::r,us,a,u,b,h,ha,hb=>by
   rw [concL_cons] at h
   simp only [Option.bind_eq_some_iff,Option.map_eq_some_iff] at h
   obtain ⟨y,h1,l,h2,rfl⟩:=h
   simp only [foldA,Option.bind_eq_some_iff] at hb
   obtain ⟨c,hc,hb⟩:=hb
   unfold minA at hc
   split at hc
   · injection hc with hc
     subst hc
     injection ha with ha
     injection h1 with h1
     subst ha h1
     obtain ⟨v,k1,k2⟩:=foldMin_ok (u:=.int _ _) h2 rfl hb
     exact ⟨v,k1,fun w=>by simp only [List.foldlM_cons];rw [Sem.run_bind];simp only [Builtin.min2,Sem.run_pure,Result.andThen_ok];exact k2 w⟩
   · cases hc
theorem foldMax_ok:∀ {r:List AV} {us:List Value} {a:AV} {u:Value} {b:AV},concL φ r=some us→conc φ a=some u→foldA maxA a r=some b→∃ v,conc φ b=some v∧∀ w,(us.foldlM Builtin.max2 u).run P w=.ok v w
 | [],us,a,u,b,h,ha,hb=>by cases h;injection hb with hb;subst hb;exact ⟨u,ha,fun w=>rfl⟩
 | x::r,us,a,u,b,h,ha,hb=>by
   rw [concL_cons] at h
   simp only [Option.bind_eq_some_iff,Option.map_eq_some_iff] at h
   obtain ⟨y,h1,l,h2,rfl⟩:=h
   simp only [foldA,Option.bind_eq_some_iff] at hb
   obtain ⟨c,hc,hb⟩:=hb
   unfold maxA at hc
   split at hc
   · injection hc with hc
     subst hc
     injection ha with ha
     injection h1 with h1
     subst ha h1
     obtain ⟨v,k1,k2⟩:=foldMax_ok (u:=.int _ _) h2 rfl hb
     exact ⟨v,k1,fun w=>by simp only [List.foldlM_cons];rw [Sem.run_bind];simp only [Builtin.max2,Sem.run_pure,Result.andThen_ok];exact k2 w⟩
   · cases hc
theorem mapL_run {α β:Type} (f:α→Sem β) (g:α→β) (w:World):∀ (l:List α) (_:∀ x∈l,(f x).run P w=.ok (g x) w),(l.mapM f).run P w=.ok (l.map g) w
 | [],_=>by simp
 | x::r,h=>by
   rw [List.mapM_cons,Sem.run_bind,h x (by simp)]
   simp only [Result.andThen_ok]
   rw [Sem.run_bind,mapL_run f g w r fun y hy=>h y (by simp [hy])]
   simp
theorem mapM_run {α β:Type} (f:α→Sem β) (g:α→β) (xs:Array α) (w:World) (hf:∀ x∈xs.toList,(f x).run P w=.ok (g x) w):(xs.mapM f).run P w=.ok (xs.toList.map g).toArray w:=by
 obtain ⟨l⟩:=xs
 rw [List.mapM_toArray,map_eq_pure_bind,Sem.run_bind,mapL_run f g w l hf]
 simp
theorem build_ok {T:TT} (hT:TypesOk P T) (hρ:∀ x a,ρ x=some a→conc φ a=some (ρc x)) {t:TypeId} {ti:TI} (hl:look T t=some ti) {ps:Array (Nat × Operand)} {qs:List (Nat × AV)} (hq:evalP ρ ps.toList=some qs) {r:List AV}
  (h:(∃ fs,ti.k=.struct fs∧fillA (placeS fs) ti.zero qs=some r)∨∃ n e es ea,ti.k=.array n e es ea∧fillA (placeE es) ti.zero qs=some r) :
  ∃ v,conc φ (.agg r)=some v∧∀ w,(Instr.build t (ps.map fun p=>(p.1,ρc p.2))).run P w=.ok v w:=by
 have hok:=hT.at hl
 obtain ⟨d,hd,_,hkk⟩:=hok.kind
 obtain ⟨e1,e2⟩:=evalP_ok hρ hq
 have e1':qs.map (·.1)=((ps.map fun p=>(p.1,ρc p.2)).toList).map (·.1):=by rw [e1];simp
 have e2':concL φ (qs.map (·.2))=some (((ps.map fun p=>(p.1,ρc p.2)).toList).map (·.2)):=by rw [e2];simp
 obtain ⟨z,hz1,hz2⟩:=hok.info
 have hz:∀ w,(zeroValue t).run P w=.ok z w:=fun w=>by
  cases hq:P.info? t with
  | none=>rw [hq] at hz1;cases hz1
  | some x=>rw [hq] at hz1;simp at hz1;simp [zeroValue,typeInfo,hq,hz1.2.2]
 have hzz:z.cells=z.cells.toList.toArray:=by simp
 rcases h with ⟨fs,hk,hf⟩ | ⟨n,e,es,ea,hk,hf⟩
 · rw [hk] at hkk
   dsimp only at hkk
   obtain ⟨F,rfl,hm,hs⟩:=hkk
   obtain ⟨rs,k1,k2⟩:=fill_ok e1' e2' (absCs_conc φ _ _ hz2) hf
   refine ⟨.agg rs.toArray,by simp [conc,show conc.concL φ r=_ from k1],fun w=>?_⟩
   have hpl:(F.mapM fun f=>(do pure (f.offset,← sizeOf f.type):Sem (Nat × Nat))).run P w=.ok (fs.map fun f=>(f.off,f.size)).toArray w:=by
    rw [mapM_run _ (fun f=>(f.offset,((P.info? f.type).map (·.size)).getD 0)) F w]
    · congr 2
      have hlen:F.toList.length=fs.length:=by have:=congrArg List.length hm;simpa using this
      apply List.ext_getElem?
      intro j
      rcases Nat.lt_or_ge j fs.length with hj | hj
      · have hfj:fs[j]?=some fs[j]:=by simp [hj]
        have h1:(fs.map (fun f=>(f.type,f.off)))[j]?=some (fs[j].type,fs[j].off):=by simp [hj]
        rw [← hm] at h1
        simp only [List.getElem?_map,Option.map_eq_some_iff] at h1
        obtain ⟨g,hg,he⟩:=h1
        injection he with he1 he2
        have hs':=(hs _ (List.mem_of_getElem? hfj)).1
        simp only [List.getElem?_map,hg,hfj,Option.map_some]
        rw [he1,he2,hs']
        rfl
      · simp only [List.getElem?_map]
        rw [List.getElem?_eq_none (by omega),List.getElem?_eq_none hj]
        rfl
    · intro x hx
      obtain ⟨j,hj⟩:=List.getElem?_of_mem hx
      have h1:(F.toList.map (fun f=>(f.type,f.offset)))[j]?=some (x.type,x.offset):=by simp [hj]
      rw [hm] at h1
      simp only [List.getElem?_map,Option.map_eq_some_iff] at h1
      obtain ⟨g,hg,he⟩:=h1
      injection he with he1 he2
      have hs':=(hs _ (List.mem_of_getElem? hg)).1
      rw [he1] at hs'
      rw [Sem.run_bind,size_of hs' w]
      simp [hs']
   unfold Instr.build
   rw [Sem.run_bind,hz w]
   simp only [Result.andThen_ok]
   rw [Sem.run_bind,run_underlying hd w]
   simp only [Result.andThen_ok]
   rw [Sem.run_bind,hpl]
   simp only [Result.andThen_ok]
   have hplace:(fun i=>((fs.map fun f=>(f.off,f.size)).toArray)[i]?)=placeS fs:=by
    funext i
    simp [placeS,atQ_eq]
   rw [hplace,hzz,k2]
   simp
 · rw [hk] at hkk
   dsimp only at hkk
   obtain ⟨rfl,he,_⟩:=hkk
   obtain ⟨rs,k1,k2⟩:=fill_ok e1' e2' (absCs_conc φ _ _ hz2) hf
   refine ⟨.agg rs.toArray,by simp [conc,show conc.concL φ r=_ from k1],fun w=>?_⟩
   unfold Instr.build
   rw [Sem.run_bind,hz w]
   simp only [Result.andThen_ok]
   rw [Sem.run_bind,run_underlying hd w]
   simp only [Result.andThen_ok]
   rw [Sem.run_bind,size_of he w]
   simp only [Result.andThen_ok]
   have hplace:(fun i=>some (i*es,es))=placeE es:=rfl
   rw [hplace,hzz,k2]
   simp
theorem evalL_one {xs:Array Operand} {a:AV} (h:evalL ρ xs.toList=some [a]):∃ x,xs=#[x]∧ρ x=some a:=by
 obtain ⟨l⟩:=xs
 cases l with
 | nil=>cases h
 | cons x r =>
   simp only [evalL,Option.bind_eq_some_iff,Option.map_eq_some_iff] at h
   obtain ⟨b,h1,m,h2,h3⟩:=h
   injection h3 with h3 h4
   subst h3 h4
   cases r with
   | nil=>exact ⟨x,rfl,h1⟩
   | cons y s =>
     simp only [evalL,Option.bind_eq_some_iff,Option.map_eq_some_iff] at h2
     obtain ⟨_,_,_,_,h2⟩:=h2
     cases h2
theorem arr_one {ts:Array TypeId} {t:TypeId} (h:ts.toList=[t]):ts=#[t]:=by
 obtain ⟨l⟩:=ts
 dsimp only at h
 rw [h]
theorem len_ok (dst:Option Tmp) (x:Operand) (t:TypeId) (ty:TypeId) (pos:String) (af:Array Edge) (gd:Option (Nat × Bool)) {v:Value} {d:TypeDesc} (hd:P.underlying t=some d) (n:Nat)
  (h:(∃ e a c,d=.slice e∧ρc x=.slice a n c)∨∃ e,d=.array n e) (hv:v=.int .i64 n) (w:World) :
  (execOp ρc { dst,op:=.call { callee:=.builtin .len,args:=#[x],argTypes:=#[t] },type:=ty,pos,after:=af,guard:=gd }).run P w=.ok (.value v) w:=by
 rw [BigFrame.execOp_builtin,BigFrame.builtin_len]
 subst hv
 rcases h with ⟨e,a,c,rfl,hx⟩ | ⟨e,rfl⟩
 · simp [Builtin.len_,Sem.run_bind,run_underlying hd w,hx,goInt]
 · simp only [Builtin.len_,List.map_toArray,List.map_cons,List.map_nil,Sem.run_bind]
   simp only [List.getElem?_toArray,List.getElem?_cons_zero,Sem.run_bind,run_underlying hd w,Result.andThen_ok]
   cases ρc x <;> simp [goInt]
theorem pure_ok {T:TT} (hT:TypesOk P T) (hρ:∀ x a,ρ x=some a→conc φ a=some (ρc x)) (o:Oper) {r:AV} (h:pureOp T ρ o.op=some r):Yv P φ ρc o r:=by
 obtain ⟨dst,op,ty,pos,af,gd⟩:=o
 dsimp only at h
 cases op with
 | move x=>exact ⟨_,hρ x r h,fun w=>by simp [execOp]⟩
 | assign x=>exact ⟨_,hρ x r h,fun w=>by simp [execOp]⟩
 | pick c a b =>
   simp only [pureOp] at h
   split at h
   · rename_i hc
     have e:=hρ c _ hc
     injection e with e
     exact ⟨_,hρ a r h,fun w=>by simp [execOp,← e,asBool]⟩
   · rename_i hc
     have e:=hρ c _ hc
     injection e with e
     exact ⟨_,hρ b r h,fun w=>by simp [execOp,← e,asBool]⟩
   · cases h
 | fieldAddr s x f =>
   simp only [pureOp] at h
   split at h
   · rename_i id off s1 s2 s3 s4 fs hx hl
     simp only [Option.map_eq_some_iff] at h
     obtain ⟨fd,hf,rfl⟩:=h
     rw [atQ_eq] at hf
     obtain ⟨L,hL,e⟩:=ptr_of (hρ x _ hx)
     refine ⟨.pointer (some ⟨L.blk,L.base+off+fd.off,none⟩),by simp [conc,hL,Nat.add_assoc],fun w=>?_⟩
     simp only [execOp,e,Sem.run_bind,fieldAddr_ok (hT.at hl) rfl hf,Result.andThen_ok,Sem.run_pure]
   · cases h
 | field s x f =>
   simp only [pureOp] at h
   split at h
   · rename_i cs s1 s2 s3 s4 fs hx hl
     simp only [Option.bind_eq_some_iff] at h
     obtain ⟨fd,hf,hp⟩:=h
     rw [atQ_eq] at hf
     obtain ⟨vs,e,hc⟩:=agg_of (hρ x _ hx)
     obtain ⟨v,h1,h2⟩:=field_ok (hT.at hl) rfl hf hc hp
     exact ⟨v,h1,fun w=>by simp only [execOp,e,Sem.run_bind,h2 w,Result.andThen_ok,Sem.run_pure]⟩
   · cases h
 | indexAddr t x i =>
   simp only [pureOp] at h
   split at h
   · rename_i id off len cap ex es k n s1 s2 s3 s4 e hx hi hl
     simp only [Option.bind_eq_some_iff] at h
     obtain ⟨te,he,h⟩:=h
     split at h
     · rename_i hn
       injection h with h
       subst h
       obtain ⟨L,c,hL,ev,_⟩:=conc_sl (hρ x _ hx)
       have ei:=hρ i _ hi
       injection ei with ei
       refine ⟨.pointer (some ⟨L.blk,L.base+off+n.toNat*te.size,none⟩),by simp [conc,hL,Nat.add_assoc],fun w=>?_⟩
       simp only [execOp,ev,← ei,Sem.run_bind,index_sl (hT.at hl) rfl (hT.at he).info_size _ _ _ _ _ hn,Result.andThen_ok,Sem.run_pure]
     · cases h
   · rename_i id off k n s1 s2 s3 s4 m e es ea hx hi hl
     split at h
     · rename_i hn
       injection h with h
       subst h
       obtain ⟨L,hL,ev⟩:=ptr_of (hρ x _ hx)
       have ei:=hρ i _ hi
       injection ei with ei
       refine ⟨.pointer (some ⟨L.blk,L.base+off+n.toNat*es,none⟩),by simp [conc,hL,Nat.add_assoc],fun w=>?_⟩
       simp only [execOp,ev,← ei,Sem.run_bind,index_arr (hT.at hl) rfl _ _ _ hn,Result.andThen_ok,Sem.run_pure]
     · cases h
   · cases h
 | index t x i =>
   simp only [pureOp] at h
   split at h
   · rename_i cs k n s1 s2 s3 s4 m e es ea hx hi hl
     split at h
     · rename_i hn
       obtain ⟨vs,ev,hc⟩:=agg_of (hρ x _ hx)
       have ei:=hρ i _ hi
       injection ei with ei
       obtain ⟨v,h1,h2⟩:=index_ok (hT.at hl) rfl k hn hc h
       exact ⟨v,h1,fun w=>by simp only [execOp,ev,← ei,Sem.run_bind,h2 w,Result.andThen_ok,Sem.run_pure]⟩
     · cases h
   · cases h
 | extract x k =>
   simp only [pureOp] at h
   split at h
   · rename_i l hx
     have e:=hρ x _ hx
     simp only [conc,Option.map_eq_some_iff] at e
     obtain ⟨vs,h1,h2⟩:=e
     obtain ⟨v,h3,h4⟩:=concL_at h1 k r (by rwa [atQ_eq] at h)
     exact ⟨v,h4,fun w=>by simp [execOp,← h2,Instr.extract,h3]⟩
   · cases h
 | nilCheck x =>
   simp only [pureOp] at h
   split at h
   · rename_i id off hx
     injection h with h
     subst h
     obtain ⟨L,hL,e⟩:=ptr_of (hρ x _ hx)
     exact ⟨_,hρ x _ hx,fun w=>by simp [execOp,e]⟩
   · rename_i f a b hx
     injection h with h
     subst h
     have e:=hρ x _ hx
     have e0:=e
     simp only [conc,Option.bind_eq_some_iff,Option.map_eq_some_iff] at e
     obtain ⟨_,_,_,_,e⟩:=e
     exact ⟨_,e0,fun w=>by simp [execOp,← e]⟩
   · rename_i t v hx
     injection h with h
     subst h
     have e:=hρ x _ hx
     have e0:=e
     simp only [conc,Option.map_eq_some_iff] at e
     obtain ⟨_,_,e⟩:=e
     exact ⟨_,e0,fun w=>by simp [execOp,← e]⟩
   · cases h
 | unOp op t x =>
   cases op <;> simp only [pureOp] at h <;> first | (cases h;done) | skip
   split at h
   · rename_i b hx
     injection h with h
     subst h
     have e:=hρ x _ hx
     injection e with e
     exact ⟨_,rfl,fun w=>by simp [execOp,← e,Op.unary]⟩
   · cases h
 | binOp op t x y yt =>
   simp only [pureOp,Option.bind_eq_some_iff] at h
   obtain ⟨a,ha,b,hb,h⟩:=h
   obtain ⟨v,h1,h2⟩:=bin_ok hT h (hρ x a ha) (hρ y b hb) x y
   exact ⟨v,h1,fun w=>by simp only [execOp,Sem.run_bind,(h2 w).1,(h2 w).2,Result.andThen_ok,Sem.run_pure]⟩
 | convert s d x =>
   simp only [pureOp] at h
   split at h
   · rename_i k n ti s1 s2 s3 s4 k2 hx hs hd
     injection h with h
     subst h
     have e:=hρ x _ hx
     injection e with e
     obtain ⟨ds,hds,_⟩:=(hT.at hs).under
     obtain ⟨dd,hdd,_,hk⟩:=(hT.at hd).kind
     dsimp only at hk
     subst hk
     refine ⟨_,rfl,fun w=>?_⟩
     simp only [execOp,← e,convert,Sem.run_bind,run_underlying hds w,run_underlying hdd w,Result.andThen_ok]
     cases ds <;> simp [Conv.intToInt]
   · cases h
 | makeInterface t x =>
   simp only [pureOp] at h
   split at h
   · rename_i hl
     simp only [Option.map_eq_some_iff] at h
     obtain ⟨a,ha,rfl⟩:=h
     obtain ⟨d,hd,_,hk⟩:=(hT.at hl).kind
     dsimp only at hk
     obtain ⟨e,rfl,_⟩:=hk
     refine ⟨.iface t (ρc x),by simp [conc,hρ x a ha],fun w=>?_⟩
     simp only [execOp,Instr.makeInterface,Sem.run_bind,run_underlying hd w,Result.andThen_ok,Sem.run_pure]
   · cases h
 | makeFunc f a b =>
   simp only [pureOp,Option.bind_eq_some_iff,Option.map_eq_some_iff] at h
   obtain ⟨u,hu,v,hv,rfl⟩:=h
   have h1:=evalL_ok hρ hu
   have h2:=evalL_ok hρ hv
   have e1:(a.toList.map ρc).toArray=a.map ρc:=by rw [← Array.toList_map]
   have e2:(b.toList.map ρc).toArray=b.map ρc:=by rw [← Array.toList_map]
   exact ⟨.func f (a.map ρc) (b.map ρc),by simp [conc,show conc.concL φ u=_ from h1,show conc.concL φ v=_ from h2,e1,e2],fun w=>by simp [execOp,Instr.makeFunc]⟩
 | slice t x lo hi mx =>
   simp only [pureOp] at h
   split at h
   · rename_i id off len cap ex es s1 s2 s3 s4 e hx hl
     simp only [Option.bind_eq_some_iff] at h
     obtain ⟨te,he,h⟩:=h
     split at h
     · rename_i hes
       subst hes
       obtain ⟨v,h1,h2⟩:=slice_ok hT hρ hl rfl he hx h
       exact ⟨v,h1,fun w=>by simp only [execOp,Sem.run_bind,h2 w,Result.andThen_ok,Sem.run_pure]⟩
     · cases h
   · cases h
 | build t ps =>
   simp only [pureOp] at h
   split at h
   · rename_i hl
     simp only [Option.bind_eq_some_iff,Option.map_eq_some_iff] at h
     obtain ⟨qs,hq,rr,hf,rfl⟩:=h
     obtain ⟨v,h1,h2⟩:=build_ok hT hρ hl hq (.inl ⟨_,rfl,hf⟩)
     exact ⟨v,h1,fun w=>by simp only [execOp,Sem.run_bind,h2 w,Result.andThen_ok,Sem.run_pure]⟩
   · rename_i hl
     simp only [Option.bind_eq_some_iff,Option.map_eq_some_iff] at h
     obtain ⟨qs,hq,rr,hf,rfl⟩:=h
     obtain ⟨v,h1,h2⟩:=build_ok hT hρ hl hq (.inr ⟨_,_,_,_,rfl,hf⟩)
     exact ⟨v,h1,fun w=>by simp only [execOp,Sem.run_bind,h2 w,Result.andThen_ok,Sem.run_pure]⟩
   · cases h
 | call c =>
   obtain ⟨cal,xs,ts⟩:=c
   cases cal with
   | builtin b =>
     cases b <;> simp only [pureOp] at h <;> first | (cases h;done) | skip
     case len =>
      split at h
      · rename_i id off len cap ex es t h1 h2
        obtain ⟨x,rfl,hx⟩:=evalL_one h1
        obtain rfl:=arr_one h2
        split at h
        · rename_i hl
          injection h with h
          subst h
          obtain ⟨d,hd,_,hk⟩:=(hT.at hl).kind
          dsimp only at hk
          subst hk
          obtain ⟨L,c,_,e,_⟩:=conc_sl (hρ x _ hx)
          exact ⟨_,rfl,len_ok dst x t ty pos af gd hd len (.inl ⟨_,_,_,rfl,e⟩) rfl⟩
        · cases h
      · rename_i t h1 h2
        obtain ⟨x,rfl,hx⟩:=evalL_one h1
        obtain rfl:=arr_one h2
        split at h
        · rename_i hl
          injection h with h
          subst h
          obtain ⟨d,hd,_,hk⟩:=(hT.at hl).kind
          dsimp only at hk
          subst hk
          have e:=hρ x _ hx
          injection e with e
          exact ⟨_,rfl,len_ok dst x t ty pos af gd hd 0 (.inl ⟨_,_,_,rfl,e.symm⟩) rfl⟩
        · cases h
      · rename_i a t _ _ h1 h2
        obtain ⟨x,rfl,hx⟩:=evalL_one h1
        obtain rfl:=arr_one h2
        split at h
        · rename_i hl
          injection h with h
          subst h
          obtain ⟨d,hd,_,hk⟩:=(hT.at hl).kind
          dsimp only at hk
          obtain ⟨rfl,_⟩:=hk
          exact ⟨_,rfl,len_ok dst x t ty pos af gd hd _ (.inr ⟨_,rfl⟩) rfl⟩
        · cases h
      · cases h
     case min =>
      split at h
      · rename_i a r h1
        have e:=evalL_ok hρ h1
        rw [concL_cons] at e
        simp only [Option.bind_eq_some_iff,Option.map_eq_some_iff] at e
        obtain ⟨u,hu,us,hus,e⟩:=e
        obtain ⟨v,k1,k2⟩:=foldMin_ok (P:=P) hus hu h
        refine ⟨v,k1,fun w=>?_⟩
        have e3:(xs.map ρc).toList=u::us:=by rw [Array.toList_map];exact e.symm
        rw [BigFrame.execOp_builtin,BigFrame.builtin_min]
        simp only [Builtin.min_,e3,Sem.run_bind,k2 w,Result.andThen_ok,Sem.run_pure]
      · cases h
     case max =>
      split at h
      · rename_i a r h1
        have e:=evalL_ok hρ h1
        rw [concL_cons] at e
        simp only [Option.bind_eq_some_iff,Option.map_eq_some_iff] at e
        obtain ⟨u,hu,us,hus,e⟩:=e
        obtain ⟨v,k1,k2⟩:=foldMax_ok (P:=P) hus hu h
        refine ⟨v,k1,fun w=>?_⟩
        have e3:(xs.map ρc).toList=u::us:=by rw [Array.toList_map];exact e.symm
        rw [BigFrame.execOp_builtin,BigFrame.builtin_max]
        simp only [Builtin.max_,e3,Sem.run_bind,k2 w,Result.andThen_ok,Sem.run_pure]
      · cases h
   | _=>simp only [pureOp] at h;cases h
 | _=>simp only [pureOp] at h;cases h
end
end
end Go.Proofs.YtdpojpcoghcieaaGreat.Si
namespace Go.Proofs.YtdpojpcoghcieaaGreat.Si
noncomputable section
open Go.RowKit
def oneA:AV→Bool
 | .agg _=>false
 | .tup _=>false
 | _=>true
def loadA (T:TT) (s:St) (t:TypeId) (x:AV):Option AV:=match x,look T t with
 | .ptr id off,some ti=>match s.get id with
   | some (.cells cs _)=>partA cs off ti.size ti.agg
   | _=>none
 | _,_=>none
def writeA (s:St) (id off:Nat) (l:List AV):Option St:=match s.get id with
 | some (.cells cs t)=>if off+l.length≤cs.length∧l.all oneA=true then some (s.put id (some (.cells (setL cs off l) t))) else none
 | _=>none
def storeA (T:TT) (s:St) (t:TypeId) (x y:AV):Option St:=match x,look T t with
 | .ptr id off,some ti=>if (avCells y).length=ti.size then writeA s id off (avCells y) else none
 | _,_=>none
theorem oneA_ok {φ:Phi} {a:AV} {v:Value} (h:conc φ a=some v) (h1:oneA a=true):v.oneCell'=true:=by
 cases a <;> simp only [oneA] at h1 <;> first
  | (cases h1;done)
  | (injection h with h;subst h;rfl)
  | (obtain ⟨_,_,_,rfl,_⟩:=conc_sl h;rfl)
  | (simp only [conc,Option.map_eq_some_iff,Option.bind_eq_some_iff] at h
     first
      | (obtain ⟨_,_,rfl⟩:=h;rfl)
      | (obtain ⟨_,_,_,_,rfl⟩:=h;rfl))
theorem allOne_ok {φ:Phi}:∀ {l:List AV} {us:List Value},concL φ l=some us→l.all oneA=true→∀ u∈us,u.oneCell'=true
 | [],_,h,_=>by cases h;simp
 | a::r,_,h,h1=>by
   rw [concL_cons] at h
   simp only [Option.bind_eq_some_iff,Option.map_eq_some_iff] at h
   obtain ⟨x,k1,y,k2,rfl⟩:=h
   simp only [List.all_cons,Bool.and_eq_true] at h1
   intro u hu
   rcases List.mem_cons.1 hu with rfl | hu
   · exact oneA_ok k1 h1.1
   · exact allOne_ok k2 h1.2 u hu
theorem heap_setCells (b:Nat):∀ (vs:List Value) (o:Nat) (w:World) (i:Nat),i≠b→(w.setCells b o vs).heap[i]?=w.heap[i]?
 | [],_,_,_,_=>rfl
 | v::r,o,w,i,h=>(heap_setCells b r (o+1) _ i h).trans (Below.heap_setCell w ⟨b,o,none⟩ v i h)
theorem below_setCells {B b:Nat} (hb:B≤b):∀ (vs:List Value) (o:Nat) (w0 w:World),Below B w0 w→Below B w0 (w.setCells b o vs)
 | [],_,_,_,h=>h
 | v::r,o,w0,_,h=>below_setCells hb r (o+1) w0 _ (h.setCell (p:=⟨b,o,none⟩) hb v)
theorem size_setCells (b:Nat):∀ (vs:List Value) (o:Nat) (w:World),(w.setCells b o vs).heap.size=w.heap.size
 | [],_,_=>rfl
 | v::r,o,w=>(size_setCells b r (o+1) _).trans (by simp [World.setCell])
theorem setV_len (l:List Value):∀ (cs:List Value) (off:Nat),(setV cs off l).length=cs.length:=by
 induction l with
 | nil=>intro cs off;rfl
 | cons a r ih=>intro cs off;rw [setV,ih,List.length_set]
theorem setV_at:∀ (us cs:List Value) (off j:Nat),off+us.length≤cs.length→(setV cs off us)[j]?=if off≤j∧j<off+us.length then us[j-off]? else cs[j]?
 | [],cs,off,j,_=>by
   rw [if_neg (by simp)]
   rfl
 | u::r,cs,off,j,h=>by
   rw [List.length_cons] at h
   rw [setV,setV_at r _ _ _ (by rw [List.length_set];omega)]
   rcases Nat.lt_trichotomy j off with hj | hj | hj
   · rw [if_neg (by omega),if_neg (by rw [List.length_cons];omega),List.getElem?_set_ne (by omega)]
   · subst hj
     rw [if_neg (by omega),if_pos (by rw [List.length_cons];omega),List.getElem?_set_self (by omega)]
     simp
   · by_cases hk:j<off+(r.length+1)
     · rw [if_pos (by omega),if_pos (by rw [List.length_cons];omega),show j-off=(j-(off+1))+1 by omega]
       simp
     · rw [if_neg (by omega),if_neg (by rw [List.length_cons];omega),List.getElem?_set_ne (by omega)]
theorem block_setCells (b:Nat):∀ (us:List Value) (o:Nat) (w:World) (cs:List Value) (t:TypeId) (fr:Nat × Nat),w.heap[b]?=some (.cells cs.toArray t fr)→(w.setCells b o us).heap[b]?=some (.cells (setV cs o us).toArray t fr)
 | [],_,_,_,_,_,h=>h
 | u::r,o,w,cs,t,fr,h=>by
   rw [World.setCells,setV]
   refine block_setCells b r (o+1) _ _ t fr ?_
   simp [World.setCell,Array.getElem?_modify,h]
section
variable {P:Program} {φ:Phi}
theorem load_ok {T:TT} (hT:TypesOk P T) {B:Nat} {w0 w:World} {s:St} (hs:Stands B w0 φ s w) {t:TypeId} {x a:AV} (h:loadA T s t x=some a) {v:Value} (hx:conc φ x=some v) :
  ∃ u,conc φ a=some u∧(Instr.loadAt t v).run P w=.ok u w:=by
 unfold loadA at h
 split at h
 · rename_i id off ti hl
   split at h
   · rename_i cs ct hg
     obtain ⟨L,hL,rfl⟩:=ptr_of hx
     obtain ⟨C,vs,h1,h2,h3,h4,h5⟩:=hs.lies id L _ hL hg
     have ht:=hT.at hl
     unfold partA at h
     simp only [atQ_eq] at h
     split at h
     · rename_i hag
       split at h
       · rename_i hle
         injection h with h
         subst h
         have k1:=(concL_take (concL_take h4 off).2 ti.size).1
         obtain ⟨d,hd,hr⟩:=ht.under
         have hlen:=concL_len k1
         have hle':=concL_len h4
         refine ⟨.agg ((vs.drop off).take ti.size).toArray,by simp [conc,show conc.concL φ _=_ from k1],?_⟩
         refine run_loadAt_mid w L.blk (L.base+off) t _ d (fun j u hj=>?_) hd (by rw [← hag];exact hr) (by rw [ht.info_size,hlen,List.length_take,List.length_drop];congr 1;omega)
         rw [cell_of_row w L.blk _ C ct (0,0) h1,Nat.add_assoc]
         refine h5 (off+j) u ?_
         rw [List.getElem?_take] at hj
         split at hj
         · rwa [List.getElem?_drop] at hj
         · cases hj
       · cases h
     · rename_i hag
       obtain ⟨u,k1,k2⟩:=concL_at h4 off a h
       refine ⟨u,k2,?_⟩
       have hc:w.cell? ⟨L.blk,L.base+off,none⟩=some u:=by rw [cell_of_row w L.blk _ C ct (0,0) h1];exact h5 off u k1
       have hag':ti.agg=false:=by simpa using hag
       simp [Instr.loadAt,Instr.sureAddr,loadVar,Sem.run_bind,ht.agg_run w,hag',hc]
   · cases h
 · cases h
theorem Stands.write {B:Nat} {w0 w:World} {s s':St} (hs:Stands B w0 φ s w) {id off:Nat} {L:Loc} (hL:φ id=some L) {l:List AV} (h:writeA s id off l=some s') {us:List Value} (hu:concL φ l=some us) :
  Stands B w0 φ s' (w.setCells L.blk (L.base+off) us)∧(∀ j,j<us.length→(w.cell? ⟨L.blk,L.base+off+j,none⟩).isSome=true∧w.frozen? ⟨L.blk,L.base+off+j,none⟩=false)∧s'.next=s.next∧(∀ j,j<2 ^ dep→φ j=none→s'.get j=s.get j):=by
 unfold writeA at h
 split at h
 · rename_i cs t hg
   split at h
   · rename_i hc
     injection h with h
     subst h
     obtain ⟨C,vs,h1,h2,h3,h4,h5⟩:=hs.lies id L _ hL hg
     have hlu:=concL_len hu
     have hlv:=concL_len h4
     have hid:=hs.lt hL
     refine ⟨⟨below_setCells (hs.dom id L hL).2.1 us _ w0 w hs.below,by rw [size_setCells];exact hs.size,hs.room,fun i M hM=>by rw [size_setCells];exact hs.dom i M hM,fun i M o hM ho=>?_,fun i j M N o p hM hN ho hp he=>?_⟩,fun j hj=>⟨?_,?_⟩,rfl,fun j hj hn=>?_⟩
     · rw [St.get_put hid (hs.lt hM)] at ho
       split at ho
       · rename_i he
         subst he
         rw [hL] at hM
         injection hM with hM
         subst hM
         injection ho with ho
         subst ho
         refine ⟨_,setV vs off us,block_setCells L.blk us _ w C.toList t (0,0) (by simpa using h1),by simp [setV_len,h2],by rw [setL_len];exact h3,setL_ok hu h4 off,fun j v hj=>?_⟩
         rw [setV_at _ _ _ _ (by omega)] at hj
         rw [List.getElem?_toArray,setV_at _ _ _ _ (by simp;omega)]
         split at hj
         · rename_i hr
           rw [if_pos (by omega),show L.base+j-(L.base+off)=j-off by omega]
           exact hj
         · rename_i hr
           rw [if_neg (by omega)]
           simpa using h5 j v hj
       · rename_i hne
         have hb:M.blk≠L.blk:=fun he=>hne (hs.apart i id M L _ _ hM hL ho hg he)
         exact (hs.lies i M o hM ho).heap (heap_setCells _ us _ w _ hb)
     · rw [St.get_put hid (hs.lt hM)] at ho
       rw [St.get_put hid (hs.lt hN)] at hp
       split at ho <;> split at hp <;> rename_i e1 e2
       · exact e1.trans e2.symm
       · subst e1
         exact hs.apart _ j M N _ _ hM hN hg hp he
       · subst e2
         exact hs.apart i _ M N _ _ hM hN ho hg he
       · exact hs.apart i j M N _ _ hM hN ho hp he
     · rw [cell_of_row w L.blk _ C t (0,0) h1,Array.getElem?_eq_getElem (by omega)]
       rfl
     · simp [World.frozen?,h1]
     · rw [St.get_put hid hj,if_neg (fun e=>by subst e;rw [hL] at hn;cases hn)]
   · cases h
 · cases h
theorem store_ok {T:TT} (hT:TypesOk P T) {B:Nat} {w0 w:World} {s s':St} (hs:Stands B w0 φ s w) {t:TypeId} {x y:AV} (h:storeA T s t x y=some s') {u v:Value} (hx:conc φ x=some u) (hy:conc φ y=some v) :
  ∃ w',(Instr.storeAt t u v).run P w=.ok () w'∧Stands B w0 φ s' w'∧s'.next=s.next∧∀ j,j<2 ^ dep→φ j=none→s'.get j=s.get j:=by
 unfold storeA at h
 split at h
 · rename_i id off ti hl
   split at h
   · rename_i hlen
     obtain ⟨L,hL,rfl⟩:=ptr_of hx
     have hc:=avCells_ok hy
     obtain ⟨k1,k2,k3,k4⟩:=hs.write hL h hc
     have hone:∀ u∈v.cells.toList,u.oneCell'=true:=by
      unfold writeA at h
      split at h
      · split at h
        · rename_i hw
          exact allOne_ok hc hw.2
        · cases h
      · cases h
     refine ⟨_,?_,k1,k3,k4⟩
     have hsz:v.cells.size=ti.size:=by have:=concL_len hc;simp at this;omega
     have hrun:=run_storeCells_cells (P:=P) L.blk (L.base+off) v.cells.toList 0 w (fun j hj=>by simpa using (k2 j hj).1) (fun j hj=>by simpa using (k2 j hj).2) hone
     simp only [Nat.add_zero] at hrun
     simp [Instr.storeAt,Instr.sureAddr,storeVar,Sem.run_bind,(hT.at hl).size_run w,hsz,hrun]
   · cases h
 · cases h
end
end
end Go.Proofs.YtdpojpcoghcieaaGreat.Si
