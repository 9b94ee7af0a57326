/- A part of the proof of TopBound: SiRange, SiAll. Conditions: none. -/
import Derived.RangeFuncLeaves
import Derived.RangeFuncOwn
import Derived.ScopeJumps
import Derived.Test.YtdpojpcoghcieaaGreatBdAG
set_option maxHeartbeats 8000000
namespace Go.Proofs.YtdpojpcoghcieaaGreat.Si
noncomputable section
open Go.RowKit
def setPs:List Tmp→List AV→List AV→List AV
 | t::r,v::l,ts=>setPs r l (setQ ts t v)
 | _,_,ts=>ts
def exJump:Ex→Option Code
 | .normal=>none
 | .exit id=>some (.exit id)
 | .goto l=>some (.goto l)
 | .ret=>some .ret
def jumpEx:Option Code→Option Ex
 | none=>some .normal
 | some (.exit id)=>some (.exit id)
 | some (.goto l)=>some (.goto l)
 | some .ret=>some .ret
 | _=>none
def isBusy:LoopState→Bool
 | .busy=>true
 | _=>false
def rangeA (cf:CF) (rno:Nat) (g:Operand) (ps:Array Tmp) (assign body:Code) (ts:List AV) (s:St):Option (Ex × List AV × St × List Nat):=match evalA ts g with
 | some (.fn (.func f) first cap)=>if s.next+1<2 ^ dep then
   (match cf f (first++[.yld (s.next+1)]++cap) ((s.new .dfr).new (.loop .ready none ts ps assign body s.next rno)) with
   | some (_,s2)=>match s2.get (s.next+1) with
     | some (.loop st pend _ _ _ _ _ _)=>bif isBusy st then none else (jumpEx pend).map fun e=>(e,ts,s2.put (s.next+1) none,[s.next])
     | _=>none
   | none=>none)
   else none
 | _=>none
def yieldA (exec:Nat→Code→List AV→St→Option (Ex × List AV × St)) (id:Nat) (args:List AV) (s:St):Option (AV × St):=match s.get id with
 | some (.loop .ready _ ts ps assign body _ rno)=>if args.length=ps.size then (match exec rno assign (setPs ps.toList args ts) s with
   | some (.normal,ts1,s1)=>match s1.get id with
     | some (.loop .ready pend1 tmps1 ps1 as1 bo1 dfr1 rno1)=>match exec rno body ts1 (s1.put id (some (.loop .busy pend1 tmps1 ps1 as1 bo1 dfr1 rno1))) with
       | some (e,_,s3)=>match s3.get id with
         | some (.loop _ _ tmps3 ps3 as3 bo3 dfr3 rno3)=>some (.bool (exJump e).isNone,s3.put id (some (.loop (if (exJump e).isNone then .ready else .done) (exJump e) tmps3 ps3 as3 bo3 dfr3 rno3)))
         | _=>none
       | none=>none
     | _=>none
   | _=>none) else none
 | _=>none
def calY (yf:Nat→List AV→St→Option (AV × St)):Cal:=fun ρ s o=>match o.op with
 | .call { callee:=.value g,args:=xs,.. }=>match ρ g with
   | some (.yld id)=>(evalL ρ xs.toList).bind fun qs=>yf id qs s
   | _=>none
 | _=>none
def markL (φ:Phi):List Nat→Option (List Deferred)
 | []=>some []
 | i::r=>(φ i).bind fun L=>(markL φ r).map fun l=>{ target:=.collected L.blk,args:=#[] }::l
theorem markL_mono {φ φ':Phi} (h:φ.le φ'):∀ {l:List Nat} {m:List Deferred},markL φ l=some m→markL φ' l=some m
 | [],_,e=>e
 | i::r,_,e=>by
   simp only [markL,Option.bind_eq_some_iff,Option.map_eq_some_iff] at e ⊢
   obtain ⟨L,h1,l,h2,h3⟩:=e
   exact ⟨L,h _ _ h1,l,markL_mono h h2,h3⟩
theorem markL_append {φ:Phi}:∀ {l m:List Nat} {a b:List Deferred},markL φ l=some a→markL φ m=some b→markL φ (l++m)=some (a++b)
 | [],_,_,_,e,h=>by cases e;simpa using h
 | i::r,m,_,b,e,h=>by
   simp only [markL,Option.bind_eq_some_iff,Option.map_eq_some_iff] at e
   obtain ⟨L,h1,l,h2,rfl⟩:=e
   simp [markL,h1,markL_append h2 h]
section
variable {P:Program} {B:Nat} {w0 w:World} {φ:Phi} {s:St}
theorem Eff.turn (hs:Stands B w0 φ s w) {id:Nat} {L:Loc} (hL:φ id=some L) {o:AO} (hg:s.get id=some o) {o':Option AO} {ob:Obj} (hl:∀ p,o'=some p→Lies φ (w.putObj L.blk ob) L p):Eff B w0 φ φ s (s.put id o') (w.putObj L.blk ob):=by
 have hd:=hs.dom id L hL
 have hid:=hs.lt hL
 refine ⟨φ.le_refl,⟨hs.below.grown (grownBy_putObj' w L.blk ob) hs.size (fun k e=>by injection e with e;subst e;exact hd.2.1),?_,hs.room,fun i M hM=>?_,fun i M p hM hp=>?_,fun i j M N p q hM hN hp hq he=>?_⟩,Nat.le_refl _,fun j hj hn=>⟨hn,?_⟩⟩
 · have:=hs.size
   simpa [World.putObj] using this
 · have:=hs.dom i M hM
   exact ⟨this.1,this.2.1,by simpa [World.putObj] using this.2.2⟩
 · rw [St.get_put hid (hs.lt hM)] at hp
   split at hp
   · rename_i he
     subst he
     rw [hL] at hM
     injection hM with hM
     subst hM
     exact hl p hp
   · rename_i hne
     have hb:M.blk≠L.blk:=fun he=>hne (hs.apart i id M L _ _ hM hL hp hg he)
     exact (hs.lies i M p hM hp).heap (World.putObj_heap_other hb)
 · rw [St.get_put hid (hs.lt hM)] at hp
   rw [St.get_put hid (hs.lt hN)] at hq
   split at hp <;> split at hq <;> rename_i e1 e2
   · exact e1.trans e2.symm
   · subst e1
     exact hs.apart _ j M N _ _ hM hN hg hq he
   · subst e2
     exact hs.apart i _ M N _ _ hM hN hp hg he
   · exact hs.apart i j M N _ _ hM hN hp hq he
 · rw [St.get_put hid (Nat.lt_of_lt_of_le hj hs.room),if_neg (fun e=>by subst e;rw [hL] at hn;cases hn)]
theorem Eff.make (hs:Stands B w0 φ s w) (hr:s.next<2 ^ dep) {o:AO} {ob:Obj} {L:Loc} (hb:L.blk=w.heap.size) (hl:Lies (φ.up s.next L) (w.alloc ob) L o):Eff B w0 φ (φ.up s.next L) s (s.new o) (w.alloc ob):=by
 have hnn:=hs.none_next
 have hnx:(s.new o).next=s.next+1:=rfl
 refine ⟨Phi.up_le hnn _,(hs.new o hr).place hnn (by omega) hb fun p hp=>?_,by omega,fun j hj hjn=>⟨?_,?_⟩⟩
 · rw [St.get_new hr hr,if_pos rfl] at hp
   injection hp with hp
   subst hp
   exact hl
 · unfold Phi.up
   rw [if_neg (by omega)]
   exact hjn
 · rw [St.get_new hr (by omega),if_neg (by omega)]
theorem setPs_ok:∀ {ps:List Tmp} {args ts:List AV} {qs tv:List Value} (_:concL φ args=some qs) (_:concL φ ts=some tv),
  concL φ (setPs ps args ts)=some ((ps.zip qs).foldl (fun t (p:Tmp × Value)=>t.set p.1 p.2) tv)
 | [],_,_,_,_,_,h=>by simpa [setPs] using h
 | t::r,[],ts,qs,tv,h,k=>by cases h;simpa [setPs] using k
 | t::r,v::l,ts,qs,tv,h,k=>by
   rw [concL_cons] at h
   simp only [Option.bind_eq_some_iff,Option.map_eq_some_iff] at h
   obtain ⟨x,h1,y,h2,rfl⟩:=h
   simp only [setPs,setQ_eq,List.zip_cons_cons,List.foldl_cons]
   exact setPs_ok h2 (concL_set k t v x h1)
theorem foldl_sets:∀ (l:List (Tmp × Value)) (tv:List Value),l.foldl (fun (t:Array Value) (p:Tmp × Value)=>t.setIfInBounds p.1 p.2) tv.toArray=(l.foldl (fun t (p:Tmp × Value)=>t.set p.1 p.2) tv).toArray
 | [],_=>rfl
 | p::r,tv=>by
   simp only [List.foldl_cons,List.setIfInBounds_toArray]
   exact foldl_sets r _
end
section
variable {F:Fence} {n:Nat} {P:Program}
def RunsM (F:Fence) (n:Nat) (P:Program) (c:Code) (ts:List AV) (s:St) (e:Ex) (ts':List AV) (s':St) (ms:List Nat):Prop :=
 ∀ (B:Nat) (w0 w:World) (φ:Phi) (a:Act),Slots φ ts a→Stands B w0 φ s w→∀ Q:Exit→Act→World→Prop,
   (∀ φ' w' a' m,Eff B w0 φ φ' s s' w'→Slots φ' ts' a'→markL φ' ms=some m→a'.defers=m++a.defers→Q e.toExit a' w')→c.wpIn F n P Q a w
theorem Runs.marks {c:Code} {ts ts':List AV} {s s':St} {e:Ex} (h:Runs F n P c ts s e ts' s'):RunsM F n P c ts s e ts' s' [] :=
 fun B w0 w φ a ha hs Q hQ=>h B w0 w φ a ha hs Q fun φ' w' a' hE hsl hd=>hQ φ' w' a' [] hE hsl rfl hd
theorem range_ok {cf:CF} (h:CallOk F P cf) (hF:∀ f,F.fn f) (hD:F.depth=none) (hro:F.round=none) {rno:Nat} {g:Operand} {ps:Array Tmp} {assign body:Code} {ts ts':List AV} {s s':St} {e:Ex} {ms:List Nat} (hr:rangeA cf rno g ps assign body ts s=some (e,ts',s',ms)) :
  RunsM F n P (.rangeFunc g ps assign body) ts s e ts' s' ms:=by
 intro B w0 w φ a ha hs Q hQ
 unfold rangeA at hr
 split at hr
 · rename_i f first cap hg
   split at hr
   · rename_i hroom
     split at hr
     · rename_i r s2 hcf
       split at hr
       · rename_i st pend ts2 ps2 as2 bo2 dfr2 rno2 hl2
         cases hbusy:isBusy st with
         | true=>rw [hbusy] at hr;cases hr
         | false =>
           rw [hbusy] at hr
           simp only [cond_false,Option.map_eq_some_iff] at hr
           obtain ⟨e1,he1,hr⟩:=hr
           simp only [Prod.mk.injEq] at hr
           obtain ⟨rfl,rfl,rfl,rfl⟩:=hr
           obtain ⟨hen,hcall⟩:=h _ _ _ _ _ hcf
           have hgv:=ha.eval _ _ hg
           simp only [conc,Option.bind_eq_some_iff,Option.map_eq_some_iff] at hgv
           obtain ⟨fs,k1,cs,k2,k3⟩:=hgv
           refine wpIn_rangeFunc fun fn hfn=>?_
           rw [hro]
           have hnx:(s.new .dfr).next=s.next+1:=rfl
           have E1:Eff B w0 φ (φ.up s.next ⟨w.heap.size,0,0⟩) s (s.new .dfr) (w.alloc (.deferred (some []))):=Eff.make hs (by omega) rfl (heap_alloc_new _ _)
           have E2:=Eff.make (o:=.loop .ready none ts ps assign body s.next rno) (ob:=.loop { state:=.ready,pending:=none,fn,tmps:=a.tmps,params:=ps,assign,body,defers:=w.heap.size }) (L:=⟨(w.alloc (.deferred (some []))).heap.size,0,0⟩) E1.stands (by omega) rfl (by
            refine ⟨fn,a.tmps.toList,⟨w.heap.size,0,0⟩,heap_alloc_new _ _,?_,?_⟩
            · exact concL_mono (Phi.up_le E1.stands.none_next _) _ _ (concL_mono E1.le _ _ ha)
            · rw [hnx]
              unfold Phi.up
              rw [if_neg (by omega),if_pos rfl])
           rw [hnx,World.size_alloc] at E2
           have E:=E1.trans E2
           have hD':((φ.up s.next ⟨w.heap.size,0,0⟩).up (s.next+1) ⟨w.heap.size+1,0,0⟩) s.next=some ⟨w.heap.size,0,0⟩:=by
            unfold Phi.up
            rw [if_neg (by omega),if_pos rfl]
           have hL':((φ.up s.next ⟨w.heap.size,0,0⟩).up (s.next+1) ⟨w.heap.size+1,0,0⟩) (s.next+1)=some ⟨w.heap.size+1,0,0⟩:=Phi.up_self _ _ _
           have hargs:concL ((φ.up s.next ⟨w.heap.size,0,0⟩).up (s.next+1) ⟨w.heap.size+1,0,0⟩) (first++[.yld (s.next+1)]++cap)=some (fs++[.func (.yield (w.heap.size+1)) #[] #[]]++cs):=by
            refine concL_append (concL_append (concL_mono E.le _ _ k1) ?_) (concL_mono E.le _ _ k2)
            rw [concL_cons,concL_nil]
            simp [conc,hL']
           refine ⟨w.heap.size+1,_,(w.alloc (.deferred (some []))).alloc (.loop { state:=.ready,pending:=none,fn,tmps:=a.tmps,params:=ps,assign,body,defers:=w.heap.size }),{ target:=.fn (.func f) cs.toArray,args:=fs.toArray++#[Value.func (.yield (w.heap.size+1)) #[] #[]] },(w.alloc (.deferred (some []))).alloc (.loop { state:=.ready,pending:=none,fn,tmps:=a.tmps,params:=ps,assign,body,defers:=w.heap.size }),f,(fs++[Value.func (.yield (w.heap.size+1)) #[] #[]]++cs).toArray,(w.alloc (.deferred (some []))).alloc (.loop { state:=.ready,pending:=none,fn,tmps:=a.tmps,params:=ps,assign,body,defers:=w.heap.size }),run_enterLoop_outer _ _ _ _ _,?_,fun f' _=>hF f',?_,fun hd=>by rw [hD] at hd;simp at hd,?_⟩
           · have e0:resolve a.eval (rangeCall g (w.heap.size+1)) 0=Deferred.ofValue (a.eval g) #[Value.func (.yield (w.heap.size+1)) #[] #[]]:=by
              simp only [resolve,List.map_toArray,List.map_cons,List.map_nil]
              rfl
             rw [e0,← k3]
             simp [Deferred.ofValue]
           · simp only [invoke]
             rw [show (fs.toArray++#[Value.func (.yield (w.heap.size+1)) #[] #[]]++cs.toArray)=(fs++[Value.func (.yield (w.heap.size+1)) #[] #[]]++cs).toArray by simp]
             exact hen _ _
           · refine hcall (n-1) B w0 _ _ _ hargs E.stands _ fun φ2 w2 v hE2 _=>?_
             have hLL:=hE2.le _ _ hL'
             obtain ⟨fn2,tv2,D2,hh,_,_⟩:=hE2.stands.lies _ _ _ hLL hl2
             dsimp only at hh
             have hT:=hE2.trans (Eff.turn hE2.stands hLL hl2 (o':=none) (ob:=.loop { state:=.exhausted,pending:=pend,fn:=fn2,tmps:=tv2.toArray,params:=ps2,assign:=as2,body:=bo2,defers:=D2.blk }) (fun p hp=>by cases hp))
             have hfin:=hQ φ2 _ { a with defers:=[{ target:=.collected w.heap.size,args:=#[] }]++a.defers } [{ target:=.collected w.heap.size,args:=#[] }] (E.trans hT) (concL_mono (E.trans hT).le _ _ ha) (by simp [markL,hE2.le _ _ hD']) rfl
             have hbz:st≠.busy:=fun e=>by rw [e] at hbusy;cases hbusy
             refine ⟨pend,_,run_endLoop hh hbz,?_⟩
             dsimp only
             unfold jumpEx at he1
             split at he1
             · injection he1 with he1
               subst he1
               exact hfin
             · injection he1 with he1
               subst he1
               exact wpIn_exit hfin
             · injection he1 with he1
               subst he1
               exact wpIn_goto hfin
             · injection he1 with he1
               subst he1
               exact wpIn_ret hfin
             · cases he1
       · cases hr
     · cases hr
   · cases hr
 · cases hr
def YOk (F:Fence) (P:Program) (yf:Nat→List AV→St→Option (AV × St)):Prop:=∀ id args s r s',yf id args s=some (r,s')→∃ st pend ts ps assign body dfr rno,s.get id=some (.loop st pend ts ps assign body dfr rno)∧args.length=ps.size ∧
 ∀ (n B:Nat) (w0 w:World) (φ:Phi) (qs tv:List Value) (L:Loc) (fn:FuncId),concL φ args=some qs→concL φ ts=some tv→φ id=some L→Stands B w0 φ s w→∀ R:Ending→World→Prop,
   (∀ φ' w' v,Eff B w0 φ φ' s s' w'→conc φ' r=some v→R (.returned v) w')→RoundIn F n P L.blk fn ((ps.zip qs.toArray).foldl (fun t (p:Tmp × Value)=>t.setIfInBounds p.1 p.2) tv.toArray) assign body w R
theorem yield_ok (hF:∀ f,F.fn f) {exec:Nat→Code→List AV→St→Option (Ex × List AV × St)} (hx:∀ rno c ts s e ts' s',exec rno c ts s=some (e,ts',s')→∀ l n,Runs (F.inRound l) n P c ts s e ts' s'):YOk F P (yieldA exec):=by
 intro id args s r s' h
 unfold yieldA at h
 split at h
 · rename_i pend ts ps assign body dfr rno hg
   split at h
   · rename_i hlen
     refine ⟨_,_,_,_,_,_,_,_,hg,hlen,fun n B w0 w φ qs tv L fn hq ht hL hs R hR=>?_⟩
     split at h
     · rename_i ts1 s1 h1
       split at h
       · rename_i pend1 tmps1 ps1 as1 bo1 dfr1 rno1 hg1
         split at h
         · rename_i e ts3 s3 h3
           split at h
           · rename_i st3 pend3 tmps3 ps3 as3 bo3 dfr3 rno3 hg3
             simp only [Option.some.injEq,Prod.mk.injEq] at h
             obtain ⟨rfl,rfl⟩:=h
             refine roundIn_of_wpIn (hF fn) ?_
             refine hx _ _ _ _ _ _ _ h1 L.blk n B w0 w φ _ ?_ hs _ fun φ1 w1 a1 hE1 ha1 _=>?_
             · have:=setPs_ok (ps:=ps.toList) hq ht
               have e1:(ps.zip qs.toArray).foldl (fun t (p:Tmp × Value)=>t.setIfInBounds p.1 p.2) tv.toArray=((ps.toList.zip qs).foldl (fun t (p:Tmp × Value)=>t.set p.1 p.2) tv).toArray:=by
                rw [← foldl_sets,← Array.foldl_toList]
                simp
               show concL φ _=_
               rw [this]
               simp only [e1]
             · have hL1:=hE1.le _ _ hL
               obtain ⟨fn1,tv1,D1,hh1,ht1,hd1⟩:=hE1.stands.lies _ _ _ hL1 hg1
               refine ⟨_,run_beginRound hh1 rfl,?_⟩
               have E2:=Eff.turn hE1.stands hL1 hg1 (o':=some (.loop .busy pend1 tmps1 ps1 as1 bo1 dfr1 rno1)) (ob:=.loop { state:=.busy,pending:=pend1,fn:=fn1,tmps:=tv1.toArray,params:=ps1,assign:=as1,body:=bo1,defers:=D1.blk }) (fun p hp=>by
                injection hp with hp
                subst hp
                exact ⟨fn1,tv1,D1,World.putObj_heap_same (Array.getElem?_eq_some_iff.1 hh1).1,ht1,hd1⟩)
               refine hx _ _ _ _ _ _ _ h3 L.blk n B w0 _ φ1 _ ha1 E2.stands _ fun φ3 w3 a3 hE3 ha3 _=>?_
               have hL3:=hE3.le _ _ hL1
               obtain ⟨fn3,tv3,D3,hh3,ht3,hd3⟩:=hE3.stands.lies _ _ _ hL3 hg3
               have E4:=Eff.turn hE3.stands hL3 hg3 (o':=some (.loop (if (exJump e).isNone then .ready else .done) (exJump e) tmps3 ps3 as3 bo3 dfr3 rno3)) (ob:=.loop { state:=if (exJump e).isNone then .ready else .done,pending:=exJump e,fn:=fn3,tmps:=tv3.toArray,params:=ps3,assign:=as3,body:=bo3,defers:=D3.blk }) (fun p hp=>by
                injection hp with hp
                subst hp
                exact ⟨fn3,tv3,D3,World.putObj_heap_same (Array.getElem?_eq_some_iff.1 hh3).1,ht3,hd3⟩)
               have hfin:=hR φ3 _ (.bool (exJump e).isNone) (hE1.trans (E2.trans (hE3.trans E4))) rfl
               cases e with
               | normal=>exact ⟨_,_,run_endRound none hh3,hfin⟩
               | exit id=>exact ⟨_,_,run_endRound (some (.exit id)) hh3,hfin⟩
               | goto l=>exact ⟨_,_,run_endRound (some (.goto l)) hh3,hfin⟩
               | ret=>exact ⟨_,_,run_endRound (some .ret) hh3,hfin⟩
           · cases h
         · cases h
       · cases h
     · cases h
   · cases h
 · cases h
theorem calY_ok {yf:Nat→List AV→St→Option (AV × St)} (h:YOk F P yf) (hF:∀ f,F.fn f) (hD:F.depth=none):CalOk F n P (calY yf):=by
 intro B w0 w φ ρ s s' o a r hρ hs hcal K Q hK
 unfold calY at hcal
 split at hcal
 · rename_i g xs ats ho
   split at hcal
   · rename_i id hg
     simp only [Option.bind_eq_some_iff] at hcal
     obtain ⟨qs,has,hyf⟩:=hcal
     obtain ⟨st,pend,ts,ps,assign,body,dfr,rno,hgt,hlen,hround⟩:=h _ _ _ _ _ hyf
     have hgv:=hρ _ _ hg
     simp only [conc,Option.map_eq_some_iff] at hgv
     obtain ⟨L,hL,k3⟩:=hgv
     have k4:=evalL_ok hρ has
     have k5:=concL_len k4
     obtain ⟨fn,tv,D,hh,ht,hd⟩:=hs.lies id L _ hL hgt
     have hrun:(execOp a.eval o).run P w=.ok (.round L.blk fn ((ps.zip (xs.toList.map a.eval).toArray).foldl (fun t (p:Tmp × Value)=>t.setIfInBounds p.1 p.2) tv.toArray) assign body) w:=by
      have e1:execOp a.eval o=(do let d ← resolve a.eval { callee:=.value g,args:=xs,argTypes:=ats } o.type;invoke d.target d.args):=by unfold execOp;rw [ho]
      rw [e1]
      simp only [resolve,← k3,Deferred.ofValue,Sem.run_bind,Sem.run_pure,Result.andThen_ok,invoke]
      have e2:(#[]++xs.map a.eval++(#[]:Array Value))=(xs.toList.map a.eval).toArray:=by apply Array.ext';simp
      first
       | rw [e2]
       | rw [show (#[]++xs.map a.eval)=(xs.toList.map a.eval).toArray by apply Array.ext';simp]
      exact run_yield hh (by rw [List.size_toArray,k5,hlen])
     refine ⟨fun f _=>hF f,?_⟩
     rw [Oper.semAt_eq _ _ _ (fun c e=>by rw [e] at ho;cases ho),hrun]
     rw [Oper.uponIn_round]
     exact ⟨fun hd=>by rw [hD] at hd;simp at hd,hround (n-1) B w0 w φ _ tv L fn k4 ht hL hs _ hK⟩
   · cases hcal
 · cases hcal
def execB (cf:CF) (rno:Nat) (ex:Code→List AV→St→Option (Ex × List AV × St)):Code→List AV→St→Option (Ex × List AV × St × List Nat)
 | .seq x y,ts,s=>match execB cf rno ex x ts s with
   | some (.normal,ts1,s1,m)=>(execB cf rno ex y ts1 s1).map fun p=>(p.1,p.2.1,p.2.2.1,p.2.2.2++m)
   | r=>r
 | .block id c,ts,s=>match execB cf rno ex c ts s with
   | some (.exit k,ts,s,m)=>if k=id then some (.normal,ts,s,m) else some (.exit k,ts,s,m)
   | r=>r
 | .rangeFunc g ps assign body,ts,s=>rangeA cf rno g ps assign body ts s
 | c,ts,s=>(ex c ts s).map fun p=>(p.1,p.2.1,p.2.2,[])
theorem execB_ok {cf:CF} (h:CallOk F P cf) (hF:∀ f,F.fn f) (hD:F.depth=none) (hro:F.round=none) {rno:Nat} {ex:Code→List AV→St→Option (Ex × List AV × St)} (hx:∀ c ts s e ts' s',ex c ts s=some (e,ts',s')→Runs F n P c ts s e ts' s') :
  ∀ (c:Code) (ts:List AV) (s:St) (e:Ex) (ts':List AV) (s':St) (ms:List Nat),execB cf rno ex c ts s=some (e,ts',s',ms)→RunsM F n P c ts s e ts' s' ms:=by
 have base:∀ (c:Code) (ts:List AV) (s:St) (e:Ex) (ts':List AV) (s':St) (ms:List Nat),(ex c ts s).map (fun p=>(p.1,p.2.1,p.2.2,([]:List Nat)))=some (e,ts',s',ms)→RunsM F n P c ts s e ts' s' ms:=by
  intro c ts s e ts' s' ms h
  simp only [Option.map_eq_some_iff] at h
  obtain ⟨⟨e1,t1,s1⟩,hp,h⟩:=h
  simp only [Prod.mk.injEq] at h
  obtain ⟨rfl,rfl,rfl,rfl⟩:=h
  exact (hx c ts s _ _ _ hp).marks
 intro c
 induction c with
 | seq x y ihx ihy =>
   intro ts s e ts' s' ms hc B w0 w φ a ha hs Q hQ
   simp only [execB] at hc
   refine wpIn_seq ?_
   split at hc
   · rename_i ts1 s1 m1 h1
     simp only [Option.map_eq_some_iff] at hc
     obtain ⟨⟨e2,t2,s2,m2⟩,h2,hc⟩:=hc
     simp only [Prod.mk.injEq] at hc
     obtain ⟨rfl,rfl,rfl,rfl⟩:=hc
     refine ihx ts s _ ts1 s1 m1 h1 B w0 w φ a ha hs _ fun φ1 w1 a1 d1 hE1 ha1 hm1 hd1=>?_
     refine ihy ts1 s1 _ _ _ _ h2 B w0 w1 φ1 a1 ha1 hE1.stands Q fun φ2 w2 a2 d2 hE2 ha2 hm2 hd2=>?_
     exact hQ φ2 w2 a2 (d2++d1) (hE1.trans hE2) ha2 (markL_append hm2 (markL_mono hE2.le hm1)) (by rw [hd2,hd1,List.append_assoc])
   · rename_i hne
     refine ihx ts s e ts' s' ms hc B w0 w φ a ha hs _ fun φ1 w1 a1 d1 hE1 ha1 hm1 hd1=>?_
     have:=hQ φ1 w1 a1 d1 hE1 ha1 hm1 hd1
     cases e with
     | normal=>exact absurd hc (hne ts' s' ms)
     | exit id=>exact this
     | goto l=>exact this
     | ret=>exact this
 | block id c ih =>
   intro ts s e ts' s' ms hc B w0 w φ a ha hs Q hQ
   simp only [execB] at hc
   refine wpIn_block ?_
   split at hc
   · rename_i k ts1 s1 m1 h1
     refine ih ts s _ ts1 s1 m1 h1 B w0 w φ a ha hs _ fun φ1 w1 a1 d1 hE1 ha1 hm1 hd1=>?_
     split at hc
     · rename_i hk
       simp only [Option.some.injEq,Prod.mk.injEq] at hc
       obtain ⟨rfl,rfl,rfl,rfl⟩:=hc
       have:=hQ φ1 w1 a1 d1 hE1 ha1 hm1 hd1
       simp only [Ex.toExit,Exit.inBlock,hk,if_true]
       exact this
     · rename_i hk
       simp only [Option.some.injEq,Prod.mk.injEq] at hc
       obtain ⟨rfl,rfl,rfl,rfl⟩:=hc
       have:=hQ φ1 w1 a1 d1 hE1 ha1 hm1 hd1
       simp only [Ex.toExit,Exit.inBlock,hk,if_false]
       exact this
   · rename_i hne
     refine ih ts s e ts' s' ms hc B w0 w φ a ha hs _ fun φ1 w1 a1 d1 hE1 ha1 hm1 hd1=>?_
     have:=hQ φ1 w1 a1 d1 hE1 ha1 hm1 hd1
     cases e with
     | normal=>exact this
     | exit k=>exact absurd hc (hne k ts' s' ms)
     | goto l=>exact this
     | ret=>exact this
 | rangeFunc g ps assign body _ _ =>
   intro ts s e ts' s' ms hc
   exact range_ok h hF hD hro hc
 | _ =>
   intro ts s e ts' s' ms hc
   exact base _ ts s e ts' s' ms hc
def dropA:List Nat→St→Option St
 | [],s=>some s
 | i::r,s=>match s.get i with
   | some .dfr=>dropA r (s.put i none)
   | _=>none
theorem drop_ok (hT:True) {B:Nat} {w0:World} {fn:Func} {tmps:Array Value} {R:Ending→World→Prop}:∀ {ms:List Nat} {m:List Deferred} {s s':St} {w:World} {φ:Phi},markL φ ms=some m→Stands B w0 φ s w→dropA ms s=some s' →
  (∀ w',Eff B w0 φ φ s s' w'→∃ v,(results fn tmps).run P w'=.ok v w'∧R (.returned v) w')→LeavesInM F n P fn tmps R m .returning w
 | [],m,s,s',w,φ,hm,hs,hd,hR=>by
   cases hm
   injection hd with hd
   subst hd
   exact hR w (Eff.refl hs)
 | i::r,m,s,s',w,φ,hm,hs,hd,hR=>by
   simp only [markL,Option.bind_eq_some_iff,Option.map_eq_some_iff] at hm
   obtain ⟨L,hL,l,hl,rfl⟩:=hm
   unfold dropA at hd
   split at hd
   · rename_i hg
     have hh:w.heap[L.blk]?=some (.deferred (some [])):=hs.lies i L _ hL hg
     have E:=Eff.turn hs hL hg (o':=none) (ob:=.deferred none) (fun p hp=>by cases hp)
     refine ⟨by simp,.inl ⟨L.blk,_,rfl,run_takeDeferred hh,drop_ok hT hl E.stands hd fun w' hE=>hR w' (E.trans hE)⟩⟩
   · cases hd
theorem funM_ok {T:TT} (hT:TypesOk P T) {f:FuncId} {fn:Func} {c:Code} (hf:P.funcs[f]?=some fn) (hb:fn.body=some c) (hF:F.fn f) (hro:F.round=none) {args ts':List AV} {s s' s'':St} {e:Ex} {rs:List AV} {ms:List Nat}
  (hrun:RunsM F n P c (args++List.replicate (fn.ntmps-args.length) (.tup [])) s e ts' s' ms) (he:e=.normal∨e=.ret) (hdrop:dropA ms s'=some s'') (hres:resA T s'' ts' fn.results.toList=some rs)
  {B:Nat} {w0 w:World} {φ:Phi} {qs:List Value} (hq:concL φ args=some qs) (hs:Stands B w0 φ s w) {R:Ending→World→Prop} (hR:∀ φ' w' v,Eff B w0 φ φ' s s'' w'→conc φ' (oneOf rs)=some v→R (.returned v) w'):CallsIn F n P f qs.toArray w R:=by
 have hl:=concL_len hq
 have hrep:∀ k,concL φ (List.replicate k (.tup []))=some (List.replicate k undef):=fun k=>by
  induction k with
  | zero=>rfl
  | succ k ih=>rw [List.replicate_succ,List.replicate_succ,concL_cons,ih];rfl
 refine callsIn_of_wp_marks hf hb hF ?_ hro
 refine hrun B w0 w φ _ (by
  have:=concL_append hq (hrep (fn.ntmps-args.length))
  simpa [Slots,hl] using this) hs _ fun φ' w' a' m hE hsl hm hd=>?_
 have hd':a'.defers=m:=by rw [hd];simp
 have key:LeavesInM F n P fn a'.tmps R a'.defers .returning w':=by
  rw [hd']
  refine drop_ok trivial hm hE.stands hdrop fun w'' hE2=>?_
  obtain ⟨v,k1,k2⟩:=results_ok hT (hsl.mono hE2.le) hE2.stands hres
  exact ⟨v,k2,hR φ' w'' v (hE.trans hE2) k1⟩
 rcases he with rfl | rfl
 · exact key
 · exact key
end
end
end Go.Proofs.YtdpojpcoghcieaaGreat.Si
namespace Go.Proofs.YtdpojpcoghcieaaGreat.Si
noncomputable section
open Go.RowKit
def scopeA (run:Code→List AV→St→Option (Ex × List AV × St)) (c:Code):Nat→Code→List AV→St→Option (Ex × List AV × St)
 | 0,_,_,_=>none
 | m+1,cur,ts,s=>match run cur ts s with
   | some (.goto l,ts1,s1)=>match findLabel c l with
     | some rest=>scopeA run c m rest ts1 s1
     | none=>none
   | r=>r
def Jumps (P:Program) (c:Code) (Q:Exit→Act→World→Prop):Nat→Code→Act→World→Prop
 | 0,_,_,_=>False
 | m+1,cur,a,w=>cur.wp P (fun e a' w'=>match e with
   | .goto l=>∃ rest,findLabel c l=some rest∧Jumps P c Q m rest a' w'
   | e=>Q e a' w') a w
theorem wp_scope_fuel {P:Program} {c:Code} {Q:Exit→Act→World→Prop} {m:Nat} {a:Act} {w:World} (h:Jumps P c Q m c a w):(Code.scope c).wp P Q a w:=by
 intro b k cs
 have key:∀ m cur a w,Jumps P c Q m cur a w→∃ e a' w',Q e a' w'∧Arrives P (lone (b.at a (.code cur::.inScope c::k)) cs w) b k cs e a' w':=by
  intro m
  induction m with
  | zero=>intro cur a w h;exact h.elim
  | succ m ih =>
    intro cur a w h
    obtain ⟨e,a₁,w₁,hq,harr⟩:=h b (.inScope c::k) cs
    cases e with
    | normal=>exact ⟨.normal,a₁,w₁,hq,Steps.trans harr (.one step_inScope)⟩
    | exit id=>exact ⟨.exit id,a₁,w₁,hq,fun k' hk=>harr k' (by simp [exitTo,hk])⟩
    | goto l =>
      obtain ⟨rest,hf,hJ⟩:=hq
      obtain ⟨e₂,a₂,w₂,hq₂,harr₂⟩:=ih rest a₁ w₁ hJ
      exact ⟨e₂,a₂,w₂,hq₂,.of_steps (harr _ (by simp [gotoIn,hf])) harr₂⟩
    | ret=>exact ⟨_,a₁,w₁,hq,harr⟩
    | panic ch=>exact ⟨_,a₁,w₁,hq,harr⟩
    | outgrown=>exact ⟨_,a₁,w₁,hq,harr⟩
 obtain ⟨e₂,a₂,w₂,hq₂,harr₂⟩:=key m c a w h
 exact ⟨e₂,a₂,w₂,hq₂,.of_steps (.one step_scope) harr₂⟩
theorem scope_ok {n:Nat} {P:Program} {run:Code→List AV→St→Option (Ex × List AV × St)} (hx:∀ c ts s e ts' s',run c ts s=some (e,ts',s')→Runs Fence.wide n P c ts s e ts' s') {c:Code} {m:Nat} {ts ts':List AV} {s s':St} {e:Ex} (h:scopeA run c m c ts s=some (e,ts',s')) :
  Runs Fence.wide n P (.scope c) ts s e ts' s':=by
 intro B w0 w φ a ha hs Q hQ
 refine wpIn_wide.2 (wp_scope_fuel (m:=m) ?_)
 have key:∀ m cur ts s w φ a,scopeA run c m cur ts s=some (e,ts',s')→Slots φ ts a→Stands B w0 φ s w→(∀ φ' w' a',Eff B w0 φ φ' s s' w'→Slots φ' ts' a'→a'.defers=a.defers→Q e.toExit a' w')→Jumps P c Q m cur a w:=by
  intro m
  induction m with
  | zero=>intro cur ts s w φ a h;simp [scopeA] at h
  | succ m ih =>
    intro cur ts s w φ a h ha hs hQ
    simp only [scopeA] at h
    refine (wpIn_wide (n:=n)).1 ?_
    split at h
    · rename_i l ts1 s1 h1
      split at h
      · rename_i rest hf
        refine hx _ _ _ _ _ _ h1 B w0 w φ a ha hs _ fun φ1 w1 a1 hE1 ha1 hd1=>?_
        exact ⟨rest,hf,ih rest ts1 s1 w1 φ1 a1 h ha1 hE1.stands fun φ2 w2 a2 hE2 ha2 hd2=>hQ φ2 w2 a2 (hE1.trans hE2) ha2 (hd2.trans hd1)⟩
      · cases h
    · rename_i hne
      refine hx _ _ _ _ _ _ h B w0 w φ a ha hs _ fun φ1 w1 a1 hE1 ha1 hd1=>?_
      have:=hQ φ1 w1 a1 hE1 ha1 hd1
      cases e with
      | normal=>exact this
      | exit id=>exact this
      | goto l=>exact absurd h (hne l ts' s')
      | ret=>exact this
 exact key m c ts s w φ a h ha hs hQ
abbrev FTabR:=List (Nat × Func × List (Nat × RI) × Bool)
def FTabOk (P:Program) (FT:FTabR):Prop:=∀ p∈FT,P.funcs[p.1]?=some p.2.1∧∀ qs w,(callFunc p.1 qs).run P w=.ok (.enter p.1 qs) w
def calAll (MT:List (Nat × String × Nat)) (E:Cal) (cf:CF) (yf:Nat→List AV→St→Option (AV × St)):Cal:=orCal E (orCal (calV cf) (orCal (calI cf MT) (calY yf)))
def runK (T:TT) (MT:List (Nat × String × Nat)) (FT:FTabR) (E:Cal):Nat→Bool→Nat→List AV→St→Option (AV × St)
 | 0,_,_,_,_=>none
 | k+1,true,id,args,s=>yieldA (fun rno c ts s=>match look FT rno with
     | some p=>execA T (calAll MT E (runK T MT FT E k false) (runK T MT FT E k true)) (look p.2.1) (fun _ _ _=>none) k c ts s
     | none=>none) id args s
 | k+1,false,f,args,s=>match look FT f with
   | none=>none
   | some p=>match p.1.body with
     | none=>none
     | some c=>match execB (runK T MT FT E k false) f (fun c ts s=>execA T (calAll MT E (runK T MT FT E k false) (runK T MT FT E k true)) (look p.2.1) (fun c' ts s=>match c' with
        | .scope c2=>scopeA (execA T (calAll MT E (runK T MT FT E k false) (runK T MT FT E k true)) (look p.2.1) (fun _ _ _=>none) k) c2 k c2 ts s
        | _=>none) k c ts s) c (args++List.replicate (p.1.ntmps-args.length) (.tup [])) s with
       | some (.normal,ts',s',ms)=>(dropA ms s').bind fun s2=>(resA T s2 ts' p.1.results.toList).map fun rs=>(oneOf rs,s2)
       | some (.ret,ts',s',ms)=>(dropA ms s').bind fun s2=>(resA T s2 ts' p.1.results.toList).map fun rs=>(oneOf rs,s2)
       | _=>none
section
variable {P:Program} {T:TT}
theorem calAll_ok {F:Fence} {n:Nat} {MT:List (Nat × String × Nat)} {E:Cal} {cf:CF} {yf:Nat→List AV→St→Option (AV × St)} (hM:MTOk P MT) (hE:CalOk F n P E) (hc:CallOk F P cf) (hy:YOk F P yf) (hF:∀ f,F.fn f) (hD:F.depth=none):CalOk F n P (calAll MT E cf yf) :=
 orCal_ok hE (orCal_ok (calV_ok hc hF hD) (orCal_ok (calI_ok hM hc hF hD) (calY_ok hy hF hD)))
theorem runK_ok (hT:TypesOk P T) {MT:List (Nat × String × Nat)} (hM:MTOk P MT) {FT:FTabR} (hFT:FTabOk P FT) {E:Cal} (hE:∀ F,(F=Fence.wide∨∃ l,F=Fence.wide.inRound l)→∀ n,CalOk F n P E) (hm:P.follows .mixedOrders=true) :
  ∀ k,CallOk Fence.wide P (runK T MT FT E k false)∧YOk Fence.wide P (runK T MT FT E k true)
 | 0=>⟨fun f args s r s' h=>by simp [runK] at h,fun id args s r s' h=>by simp [runK] at h⟩
 | k+1=>by
   obtain ⟨ihc,ihy⟩:=runK_ok hT hM hFT hE hm k
   have hW:∀ f,Fence.wide.fn f:=fun _=>trivial
   refine ⟨fun f args s r s' h=>?_,?_⟩
   · simp only [runK] at h
     split at h
     · cases h
     · rename_i p hl
       obtain ⟨hf,hen⟩:=hFT _ (look_mem hl)
       dsimp only at hf hen
       split at h
       · cases h
       · rename_i c hb
         refine ⟨hen,fun n B w0 w φ qs hq hs R hR=>?_⟩
         have hcal:CalOk Fence.wide n P (calAll MT E (runK T MT FT E k false) (runK T MT FT E k true)):=calAll_ok hM (hE _ (.inl rfl) _) ihc ihy hW rfl
         have hnone:OthOk Fence.wide n P (fun _ _ _=>none):=fun _ _ _ _ _ _ h=>by cases h
         have hoth:OthOk Fence.wide n P (fun c' ts s=>match c' with
          | .scope c2=>scopeA (execA T (calAll MT E (runK T MT FT E k false) (runK T MT FT E k true)) (look p.2.1) (fun _ _ _=>none) k) c2 k c2 ts s
          | _=>none):=fun c' ts s e ts' s' h=>by
          dsimp only at h
          split at h
          · exact scope_ok (fun c ts s e ts' s' h=>exec_ok hT hcal hW hm hnone k c ts s e ts' s' h) h
          · cases h
         have hx:=exec_ok (ri:=look p.2.1) hT hcal hW hm hoth k
         split at h
         · rename_i ts' s1 ms hex
           simp only [Option.bind_eq_some_iff,Option.map_eq_some_iff] at h
           obtain ⟨s2,hdrop,rs,hrs,h⟩:=h
           obtain ⟨rfl,rfl⟩:oneOf rs=r∧s2=s':=by simpa using h
           exact funM_ok hT hf hb trivial rfl (execB_ok ihc hW rfl rfl hx _ _ _ _ _ _ _ hex) (.inl rfl) hdrop hrs hq hs hR
         · rename_i ts' s1 ms hex
           simp only [Option.bind_eq_some_iff,Option.map_eq_some_iff] at h
           obtain ⟨s2,hdrop,rs,hrs,h⟩:=h
           obtain ⟨rfl,rfl⟩:oneOf rs=r∧s2=s':=by simpa using h
           exact funM_ok hT hf hb trivial rfl (execB_ok ihc hW rfl rfl hx _ _ _ _ _ _ _ hex) (.inr rfl) hdrop hrs hq hs hR
         · cases h
   · have e:runK T MT FT E (k+1) true=yieldA (fun rno c ts s=>match look FT rno with
      | some p=>execA T (calAll MT E (runK T MT FT E k false) (runK T MT FT E k true)) (look p.2.1) (fun _ _ _=>none) k c ts s
      | none=>none):=by funext id args s;simp only [runK]
     rw [e]
     refine yield_ok hW fun rno c ts s e ts' s' h l n=>?_
     split at h
     · have ihc':CallOk (Fence.wide.inRound l) P (runK T MT FT E k false):=ihc
       have ihy':YOk (Fence.wide.inRound l) P (runK T MT FT E k true):=ihy
       have hcal:CalOk (Fence.wide.inRound l) n P (calAll MT E (runK T MT FT E k false) (runK T MT FT E k true)):=calAll_ok (F:=Fence.wide.inRound l) hM (hE (Fence.wide.inRound l) (.inr ⟨l,rfl⟩) n) ihc' ihy' hW rfl
       have hnone:OthOk (Fence.wide.inRound l) n P (fun _ _ _=>none):=fun _ _ _ _ _ _ h=>by cases h
       exact exec_ok hT hcal hW hm hnone k c ts s e ts' s' h
     · cases h
end
end
end Go.Proofs.YtdpojpcoghcieaaGreat.Si
