/- A part of the proof of TopBound: SiRegion, SiCode, SiCall, SiFun. Conditions: none. -/
import Derived.LoopNIn
import Derived.RangeFuncCalls
import Derived.Test.YtdpojpcoghcieaaGreatBdAF
set_option maxHeartbeats 8000000
namespace Go.Proofs.YtdpojpcoghcieaaGreat.Si
noncomputable section
open Go.RowKit
theorem concL_of {φ:Phi}:∀ {l:List AV} {vs:List Value},l.length=vs.length→(∀ (j:Nat) (c:AV) (v:Value),l[j]?=some c→vs[j]?=some v→conc φ c=some v)→concL φ l=some vs
 | [],[],_,_=>rfl
 | [],_::_,h,_=>by cases h
 | _::_,[],h,_=>by cases h
 | a::r,v::vs,h,hc=>by
   rw [concL_cons,hc 0 a v rfl rfl,concL_of (l:=r) (vs:=vs) (by simpa using h) fun j c u h1 h2=>hc (j+1) c u (by simpa using h1) (by simpa using h2)]
   rfl
theorem count_set_true {l:Array Bool} {i:Nat} (h:l[i]?=some false):(l.setIfInBounds i true).toList.count false+1=l.toList.count false:=by
 obtain ⟨hi,hv⟩:=Array.getElem?_eq_some_iff.1 h
 have hc:0<l.toList.count false:=List.count_pos_iff.2 (by rw [← hv];simp)
 rw [Array.toList_setIfInBounds,List.count_set (by simpa using hi)]
 simp [hv]
 have hc':0<Array.count false l:=by simpa using hc
 omega
section
variable {F:Fence} {n:Nat} {P:Program} {B:Nat} {w0:World} {T:TT} {cal:Cal} {ops:Array Oper} {ts:List AV} {b rk:List Nat} {x:RS} {φ0:Phi} {s0:St} {a0:Act}
theorem getD_true {l:Array Bool} {i:Nat}:l.getD i false=true↔l[i]?=some true:=by
 rw [Array.getD_eq_getD_getElem?]
 cases h:l[i]? with
 | none=>simp
 | some c=>simp
theorem getD_false {l:Array Bool} {i:Nat}:l.getD i true=false↔l[i]?=some false:=by
 rw [Array.getD_eq_getD_getElem?]
 cases h:l[i]? with
 | none=>simp
 | some c=>simp
theorem ready_nil (C:Ctx T cal ops ts b rk x s0) {listed:Array Bool} (hz:listed.size=ops.size) (hr:Region.ready .any ops listed=[]):∀ m i,rk.getD i 0<m→i<ops.size→listed[i]?=some true
 | 0,i,h,_=>absurd h (Nat.not_lt_zero _)
 | m+1,i,h,hi=>by
   have hex:listed[i]?=some listed[i]:=Array.getElem?_eq_getElem (by omega)
   cases hv:listed[i] with
   | true=>rw [hex,hv]
   | false =>
     rw [hv] at hex
     have ho:ops[i]?=some ops[i]:=Array.getElem?_eq_getElem hi
     have hmem:i∈Region.ready .any ops listed:=by
      rw [mem_ready]
      refine ⟨getD_false.2 hex,ops[i],ho,fun e he hb=>getD_true.2 ?_⟩
      obtain ⟨h1,h2⟩:=(C.good i _ ho).rank e (by simpa using he) hb
      exact ready_nil C hz hr m e.on (by omega) h2
     rw [hr] at hmem
     cases hmem
theorem any_ok (hT:TypesOk P T) (hc:CalOk F n P cal) (hF:∀ f,F.fn f) (C:Ctx T cal ops ts b rk x s0) {Q:Exit→Act→World→Prop}
  (hend:∀ (listed:Array Bool) (a:Act) (w:World) (φ:Phi) (dn td:List Ent),Inv ops ts b x B w0 φ0 s0 a0 listed a w φ dn td→(∀ i,i<ops.size→listed[i]?=some true)→Q .normal a w) :
  ∀ (fuel:Nat) (listed:Array Bool) (a:Act) (w:World) (φ:Phi) (dn td:List Ent),Inv ops ts b x B w0 φ0 s0 a0 listed a w φ dn td→listed.toList.count false≤fuel→wpAnyIn F n P .any ops Q fuel listed a w
 | 0,listed,a,w,φ,dn,td,I,hcnt=>by
   have hall:∀ i,i<ops.size→listed[i]?=some true:=fun i hi=>by
    have hsz:i<listed.size:=by rw [I.size];exact hi
    have hex:listed[i]?=some listed[i]:=Array.getElem?_eq_getElem hsz
    cases hv:listed[i] with
    | true=>rw [hex,hv]
    | false =>
      have:0<listed.toList.count false:=List.count_pos_iff.2 (by rw [← hv];simp)
      omega
   refine ⟨?_,hend listed a w φ dn td I hall⟩
   refine List.eq_nil_iff_forall_not_mem.2 fun i hi=>?_
   have h1:=getD_false.1 (mem_ready.1 hi).1
   have h2:i<ops.size:=by rw [← I.size];exact (Array.getElem?_eq_some_iff.1 h1).1
   rw [hall i h2] at h1
   cases h1
 | fuel+1,listed,a,w,φ,dn,td,I,hcnt=>by
   refine ⟨fun hr=>hend listed a w φ dn td I fun i hi=>ready_nil C I.size hr _ i (Nat.lt_succ_self _) hi,fun i hi=>?_⟩
   obtain ⟨h1,o,ho,h2⟩:=mem_ready.1 hi
   have hi0:=getD_false.1 h1
   have hcs:=count_set_true hi0
   have G:=C.good i o ho
   unfold wpOpIn
   simp only [ho]
   refine one_ok hT hc hF C I ho hi0 (fun j hj=>?_) fun φ' w' v dn' td' I'=>any_ok hT hc hF C hend fuel _ _ _ φ' dn' td' I' (by omega)
   rw [G.bits] at hj
   obtain ⟨e,he,hb,hj⟩:=(waits_bit b j _).1 hj
   have hon:=getD_true.1 (h2 e (by simpa using he) hb)
   rcases hj with rfl | hj
   · exact hon
   · exact I.closed _ _ hon hj
theorem drawn_ok (hT:TypesOk P T) (hc:CalOk F n P cal) (hF:∀ f,F.fn f) (hm:P.follows .mixedOrders=true) {id:Nat} {ord:List Nat} {ts':List AV} {s s':St} (h:drawnA T cal ops ord b rk ts s=some (ts',s')) {φ:Phi} {a:Act} {w:World} (ha:Slots φ ts a) (hs:Stands B w0 φ s w) {Q:Exit→Act→World→Prop}
  (hK:∀ φ' w' a',Eff B w0 φ φ' s s' w'→Slots φ' ts' a'→a'.defers=a.defers→Q .normal a' w'):(Code.region id ops true).wpIn F n P Q a w:=by
 simp only [drawnA,Option.bind_eq_some_iff] at h
 obtain ⟨x,hx,h⟩:=h
 cases hch:(noneTwice (writers ops.toList 0) && chkR T ops ts (writers ops.toList 0) b rk x ops.toList 0 && idsOk x.log x.ids && effsOk b x.log.reverse && x.log.all (fun e=>Nat.blt e.1 ops.size) && x.ids.all (fun p=>Nat.ble s.next p.2)) with
 | false=>rw [hch] at h;cases h
 | true =>
   rw [hch] at h
   obtain ⟨rfl,rfl⟩:endR x.V (writers ops.toList 0) ts=ts'∧x.s=s':=by simpa using h
   simp only [Bool.and_eq_true,List.all_eq_true] at hch
   obtain ⟨⟨⟨⟨⟨h1,h2⟩,h3⟩,h4⟩,h5⟩,h6⟩:=hch
   have C:Ctx T cal ops ts b rk x s:=⟨h1,fun i o ho=>by
    have:=chk_at h2 i o (by simpa using ho)
    rwa [Nat.zero_add] at this,h3,h4,run_chain hx (fun _ _ e=>e) (Grow.refl s),fun e he=>Nat.le_of_ble_eq_true (h5 e he),fun p hp=>Nat.le_of_ble_eq_true (h6 p hp)⟩
   have hgrow:Grow s (curE x.s x.log.reverse):=by
    have:=C.chain
    rw [← List.append_nil x.log] at this
    exact Chain.at this
   refine wpIn_region_any hm (any_ok (φ0:=φ) (s0:=s) (a0:=a) hT hc hF C (fun listed a' w' φ' dn td I hall=>?_) ops.size _ a w.drew φ [] x.log.reverse ⟨by simp,by simp,fun e he=>(by cases he),fun e he=>?_,fun i j hi _=>?_,hgrow.2.2 _ _ _ _ hs.drew,fun t j _ hj=>?_,fun t _=>?_,?_,fun i jd hj _=>?_,φ.le_refl,hgrow.1,fun j hj hn=>⟨hn,hgrow.2.1 j hj⟩,rfl⟩ (by simp))
   · have htd:td=[]:=by
      cases td with
      | nil=>rfl
      | cons e r =>
        have h7:=I.todo e (by simp)
        rw [hall e.1 (C.range e (by rw [I.log];simp))] at h7
        cases h7
     subst htd
     refine hK φ' w' a' ⟨I.le,I.stands,I.next,I.kept⟩ (concL_of (by rw [end_len];simpa using I.tsize.symm) fun t c v hc1 hv=>?_) I.defers
     have ht:t<ts.length:=by rw [← end_len x.V (writers ops.toList 0) ts];exact (List.getElem?_eq_some_iff.1 hc1).1
     rw [end_at x.V C.twice t ht] at hc1
     rw [Array.getElem?_toList] at hv
     have hev:a'.eval (.tmp t)=v:=by simp [Act.eval,hv]
     split at hc1
     · rename_i j hl
       obtain ⟨o,ho,_⟩:=(writer_iff C.twice t j).1 hl
       obtain ⟨c',k1,k2⟩:=I.slotW t j hl (hall j (Array.getElem?_eq_some_iff.1 ho).1)
       rw [k1] at hc1
       injection hc1 with hc1
       simp only [Option.getD_some] at hc1
       subst hc1
       rw [← hev]
       exact k2
     · rename_i hl
       have:=I.slot0 t fun j hj=>by rw [hl] at hj;cases hj
       rw [List.getD_eq_getElem?_getD,hc1,hev] at this
       exact this
   · have:=C.range e (by simpa using he)
     simp [this]
   · exfalso
     rw [Array.getElem?_replicate] at hi
     split at hi <;> simp at hi
   · exfalso
     rw [Array.getElem?_replicate] at hj
     split at hj <;> simp at hj
   · exact ha.eval (.tmp t) _ (by rw [← getQ_eq];rfl)
   · have:=concL_len ha
     simpa using this
   · cases hq:φ jd with
     | none=>rfl
     | some L =>
       have h7:=(hs.dom jd L hq).1
       have h8:=C.base _ hj
       dsimp only at h8
       omega
end
end
end Go.Proofs.YtdpojpcoghcieaaGreat.Si
namespace Go.Proofs.YtdpojpcoghcieaaGreat.Si
noncomputable section
open Go.RowKit
inductive Ex where
 | normal
 | exit (id:Nat)
 | goto (l:Nat)
 | ret
def Ex.toExit:Ex→Exit
 | .normal=>.normal
 | .exit id=>.exit id
 | .goto l=>.goto l
 | .ret=>.ret
structure RI where
 ord:List Nat
 b:List Nat
 rk:List Nat
def execA (T:TT) (cal:Cal) (ri:Nat→Option RI) (oth:Code→List AV→St→Option (Ex × List AV × St)):Nat→Code→List AV→St→Option (Ex × List AV × St)
 | 0,_,_,_=>none
 | _+1,.skip,ts,s=>some (.normal,ts,s)
 | _+1,.label _,ts,s=>some (.normal,ts,s)
 | _+1,.exit id,ts,s=>some (.exit id,ts,s)
 | _+1,.goto l,ts,s=>some (.goto l,ts,s)
 | _+1,.ret,ts,s=>some (.ret,ts,s)
 | f+1,.seq x y,ts,s=>match execA T cal ri oth f x ts s with
   | some (.normal,ts,s)=>execA T cal ri oth f y ts s
   | r=>r
 | f+1,.cond c x y,ts,s=>match evalA ts c with
   | some (.bool true)=>execA T cal ri oth f x ts s
   | some (.bool false)=>execA T cal ri oth f y ts s
   | _=>none
 | f+1,.block id c,ts,s=>match execA T cal ri oth f c ts s with
   | some (.exit k,ts,s)=>if k=id then some (.normal,ts,s) else some (.exit k,ts,s)
   | r=>r
 | f+1,.loop c,ts,s=>match execA T cal ri oth f c ts s with
   | some (.normal,ts,s)=>execA T cal ri oth f (.loop c) ts s
   | r=>r
 | _+1,.region _ ops false,ts,s=>(plainA T cal ops ops.toList ts s).map fun p=>(.normal,p.1,p.2)
 | _+1,.region id ops true,ts,s=>match ri id with
   | some r=>(drawnA T cal ops r.ord r.b r.rk ts s).map fun p=>(.normal,p.1,p.2)
   | none=>none
 | _+1,c,ts,s=>oth c ts s
section
variable {F:Fence} {n:Nat} {P:Program} {T:TT} {cal:Cal} {ri:Nat→Option RI} {oth:Code→List AV→St→Option (Ex × List AV × St)}
def Runs (F:Fence) (n:Nat) (P:Program) (c:Code) (ts:List AV) (s:St) (e:Ex) (ts':List AV) (s':St):Prop :=
 ∀ (B:Nat) (w0 w:World) (φ:Phi) (a:Act),Slots φ ts a→Stands B w0 φ s w→∀ Q:Exit→Act→World→Prop,
   (∀ φ' w' a',Eff B w0 φ φ' s s' w'→Slots φ' ts' a'→a'.defers=a.defers→Q e.toExit a' w')→c.wpIn F n P Q a w
def OthOk (F:Fence) (n:Nat) (P:Program) (oth:Code→List AV→St→Option (Ex × List AV × St)):Prop:=∀ c ts s e ts' s',oth c ts s=some (e,ts',s')→Runs F n P c ts s e ts' s'
theorem exec_ok (hT:TypesOk P T) (hc:CalOk F n P cal) (hF:∀ f,F.fn f) (hm:P.follows .mixedOrders=true) (ho:OthOk F n P oth):∀ (f:Nat) (c:Code) (ts:List AV) (s:St) (e:Ex) (ts':List AV) (s':St),execA T cal ri oth f c ts s=some (e,ts',s')→Runs F n P c ts s e ts' s'
 | 0,_,_,_,_,_,_,h=>by simp [execA] at h
 | f+1,c,ts,s,e,ts',s',h=>by
   intro B w0 w φ a ha hs Q hQ
   cases c with
   | skip =>
     obtain ⟨rfl,rfl,rfl⟩:Ex.normal=e∧ts=ts'∧s=s':=by simpa [execA] using h
     exact wpIn_skip (hQ φ w a (Eff.refl hs) ha rfl)
   | label l =>
     obtain ⟨rfl,rfl,rfl⟩:Ex.normal=e∧ts=ts'∧s=s':=by simpa [execA] using h
     exact wpIn_label (hQ φ w a (Eff.refl hs) ha rfl)
   | exit id =>
     obtain ⟨rfl,rfl,rfl⟩:Ex.exit id=e∧ts=ts'∧s=s':=by simpa [execA] using h
     exact wpIn_exit (hQ φ w a (Eff.refl hs) ha rfl)
   | goto l =>
     obtain ⟨rfl,rfl,rfl⟩:Ex.goto l=e∧ts=ts'∧s=s':=by simpa [execA] using h
     exact wpIn_goto (hQ φ w a (Eff.refl hs) ha rfl)
   | ret =>
     obtain ⟨rfl,rfl,rfl⟩:Ex.ret=e∧ts=ts'∧s=s':=by simpa [execA] using h
     exact wpIn_ret (hQ φ w a (Eff.refl hs) ha rfl)
   | seq x y =>
     simp only [execA] at h
     refine wpIn_seq ?_
     split at h
     · rename_i ts1 s1 hx
       refine exec_ok hT hc hF hm ho f x ts s _ ts1 s1 hx B w0 w φ a ha hs _ fun φ1 w1 a1 he h1 hd=>?_
       exact exec_ok hT hc hF hm ho f y ts1 s1 e ts' s' h B w0 w1 φ1 a1 h1 he.stands Q fun φ2 w2 a2 he2 h2 hd2=>hQ φ2 w2 a2 (he.trans he2) h2 (hd2.trans hd)
     · rename_i hne
       refine exec_ok hT hc hF hm ho f x ts s e ts' s' h B w0 w φ a ha hs _ fun φ1 w1 a1 he h1 hd=>?_
       have:=hQ φ1 w1 a1 he h1 hd
       cases e with
       | normal=>exact absurd h (hne ts' s')
       | exit id=>exact this
       | goto l=>exact this
       | ret=>exact this
   | cond c x y =>
     simp only [execA] at h
     split at h
     · rename_i hb
       have hv:=ha.eval _ _ hb
       injection hv with hv
       exact wpIn_cond_true hv.symm (exec_ok hT hc hF hm ho f x ts s e ts' s' h B w0 w φ a ha hs Q hQ)
     · rename_i hb
       have hv:=ha.eval _ _ hb
       injection hv with hv
       exact wpIn_cond_false hv.symm (exec_ok hT hc hF hm ho f y ts s e ts' s' h B w0 w φ a ha hs Q hQ)
     · cases h
   | block id c =>
     simp only [execA] at h
     refine wpIn_block ?_
     split at h
     · rename_i k ts1 s1 hx
       refine exec_ok hT hc hF hm ho f c ts s _ ts1 s1 hx B w0 w φ a ha hs _ fun φ1 w1 a1 he h1 hd=>?_
       split at h
       · rename_i hk
         obtain ⟨rfl,rfl,rfl⟩:Ex.normal=e∧ts1=ts'∧s1=s':=by simpa using h
         have:=hQ φ1 w1 a1 he h1 hd
         simp only [Ex.toExit,Exit.inBlock,hk,if_true]
         exact this
       · rename_i hk
         obtain ⟨rfl,rfl,rfl⟩:Ex.exit k=e∧ts1=ts'∧s1=s':=by simpa using h
         have:=hQ φ1 w1 a1 he h1 hd
         simp only [Ex.toExit,Exit.inBlock,hk,if_false]
         exact this
     · rename_i hne
       refine exec_ok hT hc hF hm ho f c ts s e ts' s' h B w0 w φ a ha hs _ fun φ1 w1 a1 he h1 hd=>?_
       have:=hQ φ1 w1 a1 he h1 hd
       cases e with
       | normal=>exact this
       | exit k=>exact absurd h (hne k ts' s')
       | goto l=>exact this
       | ret=>exact this
   | loop c =>
     have key:∀ (f2:Nat) (hf2:f2≤f+1) (ts:List AV) (s:St) (w:World) (φ:Phi) (a:Act),execA T cal ri oth f2 (.loop c) ts s=some (e,ts',s')→Slots φ ts a→Stands B w0 φ s w →
       (∀ φ' w' a',Eff B w0 φ φ' s s' w'→Slots φ' ts' a'→a'.defers=a.defers→Q e.toExit a' w')→Code.roundsIn F n P c Q f2 a w:=by
      intro f2
      induction f2 with
      | zero=>intro _ ts s w φ a h;simp [execA] at h
      | succ f2 ih =>
        intro hf2 ts s w φ a h ha hs hQ
        simp only [execA] at h
        show c.wpIn F n P (Exit.then (Code.roundsIn F n P c Q f2) Q) a w
        split at h
        · rename_i ts1 s1 hx
          refine exec_ok hT hc hF hm ho f2 c ts s _ ts1 s1 hx B w0 w φ a ha hs _ fun φ1 w1 a1 he h1 hd=>?_
          exact ih (by omega) ts1 s1 w1 φ1 a1 h h1 he.stands fun φ2 w2 a2 he2 h2 hd2=>hQ φ2 w2 a2 (he.trans he2) h2 (hd2.trans hd)
        · rename_i hne
          refine exec_ok hT hc hF hm ho f2 c ts s e ts' s' h B w0 w φ a ha hs _ fun φ1 w1 a1 he h1 hd=>?_
          have:=hQ φ1 w1 a1 he h1 hd
          cases e with
          | normal=>exact absurd h (hne ts' s')
          | exit id=>exact this
          | goto l=>exact this
          | ret=>exact this
     exact wpIn_loop_rounds (f+1) (key (f+1) (Nat.le_refl _) ts s w φ a h ha hs hQ)
   | region id ops d =>
     cases d with
     | false =>
       simp only [execA,Option.map_eq_some_iff] at h
       obtain ⟨p,hp,h⟩:=h
       obtain ⟨rfl,rfl,rfl⟩:Ex.normal=e∧p.1=ts'∧p.2=s':=by simpa using h
       exact wpIn_region_list (plain_ok hT hc hF ops.toList ha hs (ts':=p.1) (s':=p.2) hp hQ)
     | true =>
       simp only [execA] at h
       split at h
       · simp only [Option.map_eq_some_iff] at h
         obtain ⟨p,hp,h⟩:=h
         obtain ⟨rfl,rfl,rfl⟩:Ex.normal=e∧p.1=ts'∧p.2=s':=by simpa using h
         exact drawn_ok hT hc hF hm (ts':=p.1) (s':=p.2) hp ha hs hQ
       · cases h
   | _ =>
     simp only [execA] at h
     exact ho _ ts s e ts' s' h B w0 w φ a ha hs Q hQ
 termination_by f=>f
 decreasing_by all_goals omega
end
end
end Go.Proofs.YtdpojpcoghcieaaGreat.Si
namespace Go.Proofs.YtdpojpcoghcieaaGreat.Si
noncomputable section
open Go.RowKit
abbrev CF:=Nat→List AV→St→Option (AV × St)
def CallOk (F:Fence) (P:Program) (cf:CF):Prop:=∀ f args s r s',cf f args s=some (r,s')→(∀ qs w,(callFunc f qs).run P w=.ok (.enter f qs) w) ∧
 ∀ (n B:Nat) (w0 w:World) (φ:Phi) (qs:List Value),concL φ args=some qs→Stands B w0 φ s w→∀ R:Ending→World→Prop,
   (∀ φ' w' v,Eff B w0 φ φ' s s' w'→conc φ' r=some v→R (.returned v) w')→CallsIn F n P f qs.toArray w R
def calV (cf:CF):Cal:=fun ρ s o=>match o.op with
 | .call { callee:=.value g,args:=xs,.. }=>match ρ g with
   | some (.fn (.func f) first cap)=>(evalL ρ xs.toList).bind fun qs=>cf f (first++qs++cap) s
   | _=>none
 | _=>none
def resA (T:TT) (s:St) (ts:List AV):List ResultVar→Option (List AV)
 | []=>some []
 | .tmp t::r=>(resA T s ts r).map fun l=>getQ (.tup []) ts t::l
 | .cell a t::r=>(loadA T s t (getQ (.tup []) ts a)).bind fun v=>(resA T s ts r).map fun l=>v::l
def oneOf:List AV→AV
 | [v]=>v
 | l=>.tup l
section
variable {F:Fence} {n:Nat} {P:Program} {T:TT}
theorem calV_ok {cf:CF} (h:CallOk F P cf) (hF:∀ f,F.fn f) (hD:F.depth=none):CalOk F n P (calV cf):=by
 intro B w0 w φ ρ s s' o a r hρ hs hcal K Q hK
 unfold calV at hcal
 split at hcal
 · rename_i g xs ats ho
   split at hcal
   · rename_i f first cap hg
     simp only [Option.bind_eq_some_iff] at hcal
     obtain ⟨qs,has,hcf⟩:=hcal
     obtain ⟨hen,hcall⟩:=h _ _ _ _ _ hcf
     have hgv:=hρ _ _ hg
     simp only [conc,Option.bind_eq_some_iff,Option.map_eq_some_iff] at hgv
     obtain ⟨fs,k1,cs,k2,k3⟩:=hgv
     have k4:=evalL_ok hρ has
     have hargs:=concL_append (concL_append (show concL φ first=some fs from k1) k4) (show concL φ cap=some cs from k2)
     have hrun:(execOp a.eval o).run P w=.ok (.enter f (fs++xs.toList.map a.eval++cs).toArray) w:=by
      have e1:execOp a.eval o=(do let d ← resolve a.eval { callee:=.value g,args:=xs,argTypes:=ats } o.type;invoke d.target d.args):=by unfold execOp;rw [ho]
      rw [e1]
      simp only [resolve,← k3,Deferred.ofValue,Sem.run_bind,Sem.run_pure,Result.andThen_ok,invoke]
      rw [hen]
      congr 2
      apply Array.ext'
      simp
     refine ⟨fun f _=>hF f,?_⟩
     rw [Oper.semAt_eq _ _ _ (fun c e=>by rw [e] at ho;cases ho),hrun]
     rw [Oper.uponIn_enter]
     exact ⟨fun hd=>by rw [hD] at hd;simp at hd,hcall (n-1) B w0 w φ _ hargs hs _ hK⟩
   · cases hcal
 · cases hcal
def resOne (tmps:Array Value):ResultVar→Sem Value
 | .tmp t=>pure (tmps.getD t undef)
 | .cell c t=>do loadVar t (← asAddr (tmps.getD c undef))
theorem res_ok (hT:TypesOk P T) {B:Nat} {w0 w:World} {φ:Phi} {s:St} {ts:List AV} {a:Act} (ha:Slots φ ts a) (hs:Stands B w0 φ s w):∀ {l:List ResultVar} {rs:List AV},resA T s ts l=some rs →
  ∃ vs,concL φ rs=some vs∧(l.mapM (resOne a.tmps)).run P w=.ok vs w
 | [],rs,h=>by
   injection h with h
   subst h
   exact ⟨[],rfl,by simp⟩
 | .tmp t::r,rs,h=>by
   simp only [resA,Option.map_eq_some_iff] at h
   obtain ⟨l,hl,rfl⟩:=h
   obtain ⟨vs,k1,k2⟩:=res_ok hT ha hs hl
   refine ⟨a.eval (.tmp t)::vs,by rw [concL_cons,ha.eval (.tmp t) _ rfl,k1];rfl,?_⟩
   rw [List.mapM_cons,Sem.run_bind]
   simp only [resOne,Sem.run_pure,Result.andThen_ok]
   rw [Sem.run_bind,k2]
   simp [Act.eval]
 | .cell c t::r,rs,h=>by
   simp only [resA,Option.bind_eq_some_iff,Option.map_eq_some_iff] at h
   obtain ⟨v,hv,l,hl,rfl⟩:=h
   obtain ⟨vs,k1,k2⟩:=res_ok hT ha hs hl
   obtain ⟨u,m1,m2⟩:=load_ok hT hs hv (ha.eval (.tmp c) _ rfl)
   refine ⟨u::vs,by rw [concL_cons,m1,k1];rfl,?_⟩
   have hp:∃ id off,getQ (.tup []) ts c=.ptr id off:=by
    unfold loadA at hv
    split at hv
    · rename_i id off ti h1 _
      exact ⟨id,off,h1⟩
    · cases hv
   obtain ⟨id,off,hp⟩:=hp
   have he:=ha.eval (.tmp c) _ rfl
   rw [hp] at he
   obtain ⟨L,_,he⟩:=ptr_of he
   have he':a.tmps.getD c undef=.pointer (some ⟨L.blk,L.base+off,none⟩):=he
   rw [he] at m2
   rw [List.mapM_cons,Sem.run_bind]
   simp only [resOne,he',asAddr,Sem.run_bind,Sem.run_pure,Result.andThen_ok]
   simp only [Instr.loadAt,Instr.sureAddr,Sem.run_bind,Sem.run_pure,Result.andThen_ok] at m2
   rw [m2]
   simp only [Result.andThen_ok]
   rw [k2]
   simp
theorem oneOf_ok {φ:Phi} {rs:List AV} {vs:List Value} (h:concL φ rs=some vs):conc φ (oneOf rs)=some (if h:vs.toArray.size=1 then vs.toArray[0] else .tuple vs.toArray):=by
 have hl:=concL_len h
 unfold oneOf
 split
 · rename_i v
   rw [concL_cons] at h
   simp only [Option.bind_eq_some_iff,Option.map_eq_some_iff,concL_nil] at h
   obtain ⟨x,h1,y,h2,rfl⟩:=h
   injection h2 with h2
   subst h2
   simpa using h1
 · rename_i hne
   have h1:¬ vs.length=1:=fun e=>by
    rw [hl] at e
    obtain ⟨v,rfl⟩:=List.length_eq_one_iff.1 e
    exact hne v rfl
   simp only [List.size_toArray,h1,dif_neg,not_false_eq_true]
   simp [conc,show conc.concL φ rs=_ from h]
theorem results_ok (hT:TypesOk P T) {B:Nat} {w0 w:World} {φ:Phi} {s:St} {ts:List AV} {a:Act} (ha:Slots φ ts a) (hs:Stands B w0 φ s w) {fn:Func} {rs:List AV} (h:resA T s ts fn.results.toList=some rs) :
  ∃ v,conc φ (oneOf rs)=some v∧(results fn a.tmps).run P w=.ok v w:=by
 obtain ⟨vs,k1,k2⟩:=res_ok hT ha hs h
 refine ⟨_,oneOf_ok k1,?_⟩
 have e:(fn.results.mapM (resOne a.tmps)).run P w=.ok vs.toArray w:=by
  obtain ⟨l⟩:∃ l,fn.results=⟨l⟩:=⟨fn.results.toList,rfl⟩
  rename_i hl
  rw [hl] at k2 ⊢
  rw [List.mapM_toArray,map_eq_pure_bind,Sem.run_bind,k2]
  simp
 have e2:results fn a.tmps=(do let vs ← fn.results.mapM (resOne a.tmps);pure (if h:vs.size=1 then vs[0] else .tuple vs)):=by
  unfold results
  congr 1
 rw [e2,Sem.run_bind,e]
 rfl
end
end
end Go.Proofs.YtdpojpcoghcieaaGreat.Si
namespace Go.Proofs.YtdpojpcoghcieaaGreat.Si
noncomputable section
open Go.RowKit
def lookM:List (Nat × String × Nat)→Nat→String→Option Nat
 | [],_,_=>none
 | (t,m,f)::r,u,name=>if t=u∧m=name then some f else lookM r u name
theorem lookM_mem:∀ {l:List (Nat × String × Nat)} {t f:Nat} {m:String},lookM l t m=some f→(t,m,f)∈l
 | [],_,_,_,h=>by cases h
 | (u,n,g)::r,t,f,m,h=>by
   unfold lookM at h
   split at h
   · rename_i e
     injection h with h
     obtain ⟨rfl,rfl⟩:=e
     subst h
     exact List.mem_cons_self
   · exact List.mem_cons_of_mem _ (lookM_mem h)
def calI (cf:CF) (MT:List (Nat × String × Nat)):Cal:=fun ρ s o=>match o.op with
 | .call { callee:=.invoke x name,args:=xs,.. }=>match ρ x with
   | some (.ifc t v)=>(lookM MT t name).bind fun f=>(evalL ρ xs.toList).bind fun qs=>cf f (v::qs) s
   | _=>none
 | _=>none
def orCal (c d:Cal):Cal:=fun ρ s o=>match c ρ s o with
 | some p=>some p
 | none=>d ρ s o
def MTOk (P:Program) (MT:List (Nat × String × Nat)):Prop:=∀ p∈MT,∀ v w,(method (P.types.size+Made.depth) p.1 v p.2.1).run P w=.ok (p.2.2,v) w
section
variable {F:Fence} {n:Nat} {P:Program} {T:TT}
theorem orCal_ok {c d:Cal} (h:CalOk F n P c) (k:CalOk F n P d):CalOk F n P (orCal c d):=by
 intro B w0 w φ ρ s s' o a r hρ hs hcal K Q hK
 unfold orCal at hcal
 split at hcal
 · rename_i p hp
   injection hcal with hcal
   subst hcal
   exact h hρ hs hp K Q hK
 · exact k hρ hs hcal K Q hK
theorem calI_ok {cf:CF} {MT:List (Nat × String × Nat)} (hM:MTOk P MT) (h:CallOk F P cf) (hF:∀ f,F.fn f) (hD:F.depth=none):CalOk F n P (calI cf MT):=by
 intro B w0 w φ ρ s s' o a r hρ hs hcal K Q hK
 unfold calI at hcal
 split at hcal
 · rename_i x name xs ats ho
   split at hcal
   · rename_i t v hg
     simp only [Option.bind_eq_some_iff] at hcal
     obtain ⟨f,hf,qs,has,hcf⟩:=hcal
     obtain ⟨hen,hcall⟩:=h _ _ _ _ _ hcf
     have hgv:=hρ _ _ hg
     simp only [conc,Option.map_eq_some_iff] at hgv
     obtain ⟨u,k1,k3⟩:=hgv
     have k4:=evalL_ok hρ has
     have hargs:concL φ (v::qs)=some (u::xs.toList.map a.eval):=by rw [concL_cons,k1,k4];rfl
     have hmeth:=hM _ (lookM_mem hf) u w
     dsimp only at hmeth
     have hrun:(execOp a.eval o).run P w=.ok (.enter f (u::xs.toList.map a.eval).toArray) w:=by
      have e1:execOp a.eval o=(do let d ← resolve a.eval { callee:=.invoke x name,args:=xs,argTypes:=ats } o.type;invoke d.target d.args):=by unfold execOp;rw [ho]
      rw [e1]
      simp only [resolve,← k3,Sem.run_bind,Sem.run_pure,Result.andThen_ok,invoke]
      have e2:(#[Value.iface t u]++xs.map a.eval)[0]?=some (.iface t u):=by rw [Array.getElem?_append_left (Nat.lt_succ_self 0)];rfl
      simp only [e2,callMethod,Sem.run_bind,run_program,Result.andThen_ok,hmeth]
      rw [hen]
      congr 2
      apply Array.ext'
      simp [List.take_of_length_le]
     refine ⟨fun f _=>hF f,?_⟩
     rw [Oper.semAt_eq _ _ _ (fun c e=>by rw [e] at ho;cases ho),hrun]
     rw [Oper.uponIn_enter]
     exact ⟨fun hd=>by rw [hD] at hd;simp at hd,hcall (n-1) B w0 w φ _ hargs hs _ hK⟩
   · cases hcal
 · cases hcal
end
end
end Go.Proofs.YtdpojpcoghcieaaGreat.Si
