/- A part of the proof of TopBound: SiRun, SiLook, SiAny, SiAnyOk. Conditions: none. -/
import Derived.Test.YtdpojpcoghcieaaGreatBdAE
set_option maxHeartbeats 8000000
namespace Go.Proofs.YtdpojpcoghcieaaGreat.Si
noncomputable section
open Go.RowKit
theorem look_cons {α:Type} (i:Nat) (x:α) (l:List (Nat × α)) (j:Nat):look ((i,x)::l) j=if i=j then some x else look l j:=by
 have e:look ((i,x)::l) j=bif Nat.beq i j then some x else look l j:=look_step i x l j
 rw [e]
 cases h:Nat.beq i j with
 | true=>rw [if_pos (Nat.eq_of_beq_eq_true h)];rfl
 | false=>rw [if_neg (fun e=>by subst e;rw [show Nat.beq i i=true from Nat.beq_refl i] at h;cases h)];rfl
def VLe (V V':List (Nat × AV)):Prop:=∀ j v,look V j=some v→look V' j=some v
theorem VLe.cons {V:List (Nat × AV)} {i:Nat} (h:look V i=none) (r:AV):VLe V ((i,r)::V):=fun j v hj=>by
 rw [look_cons,if_neg (fun e=>by subst e;rw [h] at hj;cases hj)]
 exact hj
theorem VLe.trans {V V' V'':List (Nat × AV)} (h:VLe V V') (k:VLe V' V''):VLe V V'':=fun j v e=>k j v (h j v e)
theorem rho_mono {ts:List AV} {W:List (Nat × Nat)} {b:List Nat} {V V':List (Nat × AV)} (h:VLe V V') (i:Nat):∀ y c,rhoA ts W b V i y=some c→rhoA ts W b V' i y=some c:=by
 intro y c hy
 cases y with
 | tmp t =>
   simp only [rhoA,getQ_eq] at hy ⊢
   cases hl:look W t with
   | none=>rw [hl] at hy;exact hy
   | some j =>
     rw [hl] at hy
     dsimp only at hy ⊢
     cases h1:(b.getD i 0).testBit j with
     | true=>rw [h1] at hy;exact h j c hy
     | false=>rw [h1] at hy;exact hy
 | const v=>exact hy
 | global g=>exact hy
 | func f=>exact hy
def Grow (s s':St):Prop:=s.next≤s'.next∧(∀ j,j<s.next→s'.get j=s.get j)∧∀ (B:Nat) (w0 w:World) (φ:Phi),Stands B w0 φ s w→Stands B w0 φ s' w
theorem Grow.refl (s:St):Grow s s:=⟨Nat.le_refl _,fun _ _=>rfl,fun _ _ _ _ h=>h⟩
theorem Grow.new {s s':St} (h:Grow s s') (o:AO) (hr:s'.next<2 ^ dep):Grow s (s'.new o):=⟨Nat.le_succ_of_le h.1,fun j hj=>by
 have h1:=h.1
 rw [St.get_new hr (by omega),if_neg (by omega)]
 exact h.2.1 j hj,fun B w0 w φ hs=>(h.2.2 B w0 w φ hs).new o hr⟩
section
variable (T:TT) (cal:Cal) (ops:Array Oper) (ts:List AV) (W:List (Nat × Nat)) (b:List Nat) (V:List (Nat × AV))
def Fact (e:Ent):Prop:=∃ o ρ,ops[e.1]?=some o∧isEff o.op=true∧(∀ y c,ρ y=some c→rhoA ts W b V e.1 y=some c) ∧
 ((wantedR ops ρ o=some false∧e.2.2=e.2.1∧look V e.1=some (.tup []))∨(wantedR ops ρ o=some true∧∃ r,effA T cal ρ e.2.1 o=some (r,e.2.2)∧look V e.1=some r))
def Chain (s0:St):List Ent→St→Prop
 | [],s=>Grow s0 s
 | e::r,s=>Fact T cal ops ts W b V e∧Grow e.2.2 s∧Chain s0 r e.2.1
variable {T cal ops ts W b V}
theorem Chain.grow {s0 s s':St} {log:List Ent} (h:Chain T cal ops ts W b V s0 log s) (g:∀ s1,Grow s1 s→Grow s1 s'):Chain T cal ops ts W b V s0 log s':=by
 cases log with
 | nil=>exact g _ h
 | cons e r=>exact ⟨h.1,g _ h.2.1,h.2.2⟩
theorem step_le {x x':RS} {i:Nat} (h:stepR T cal ops ts W b x i=some x'):VLe x.V x'.V∧∃ v,look x'.V i=some v:=by
 unfold stepR at h
 simp only [atQ_eq,Array.getElem?_toList] at h
 split at h
 · rename_i o ho hl
   have fin:∀ r,VLe x.V ((i,r)::x.V)∧∃ v,look ((i,r)::x.V) i=some v:=fun r=>⟨VLe.cons hl r,r,by rw [look_cons,if_pos rfl]⟩
   split at h
   · cases h
   · cases he:isEff o.op <;> rw [he] at h <;> (injection h with h;subst h;exact fin _)
   · cases he:isEff o.op with
     | true =>
       rw [he] at h
       simp only [cond_true,Option.map_eq_some_iff] at h
       obtain ⟨p,_,rfl⟩:=h
       exact fin _
     | false =>
       rw [he] at h
       simp only [cond_false] at h
       split at h
       · injection h with h
         subst h
         exact fin _
       · split at h
         · simp only [Option.bind_eq_some_iff,Option.map_eq_some_iff] at h
           obtain ⟨_,_,_,_,rfl⟩:=h
           exact fin _
         · split at h
           · split at h
             · injection h with h
               subst h
               exact fin _
             · cases h
           · cases h
 · cases h
theorem run_le:∀ {ord:List Nat} {x x':RS},runR T cal ops ts W b ord x=some x'→VLe x.V x'.V
 | [],x,x',h=>by injection h with h;subst h;exact fun _ _ e=>e
 | i::r,x,x',h=>by
   simp only [runR,Option.bind_eq_some_iff] at h
   obtain ⟨x1,h1,h2⟩:=h
   exact (step_le h1).1.trans (run_le h2)
theorem step_chain {x x':RS} {i:Nat} (h:stepR T cal ops ts W b x i=some x') (hV:VLe x'.V V) {s0:St} (hc:Chain T cal ops ts W b V s0 x.log x.s):Chain T cal ops ts W b V s0 x'.log x'.s:=by
 have hle:=(step_le h).1.trans hV
 unfold stepR at h
 simp only [atQ_eq,Array.getElem?_toList] at h
 split at h
 · rename_i o ho hl
   split at h
   · cases h
   · rename_i hw
     cases he:isEff o.op with
     | true =>
       rw [he] at h
       simp only [cond_true] at h
       injection h with h
       subst h
       exact ⟨⟨o,_,ho,he,rho_mono hle i,.inl ⟨hw,rfl,hV i _ (by rw [look_cons,if_pos rfl])⟩⟩,Grow.refl _,hc⟩
     | false =>
       rw [he] at h
       simp only [cond_false] at h
       injection h with h
       subst h
       exact hc
   · rename_i hw
     cases he:isEff o.op with
     | true =>
       rw [he] at h
       simp only [cond_true,Option.map_eq_some_iff] at h
       obtain ⟨p,hp,rfl⟩:=h
       exact ⟨⟨o,_,ho,he,rho_mono hle i,.inr ⟨hw,p.1,hp,hV i _ (by rw [look_cons,if_pos rfl])⟩⟩,Grow.refl _,hc⟩
     | false =>
       rw [he] at h
       simp only [cond_false] at h
       split at h
       · injection h with h
         subst h
         exact hc
       · split at h
         · simp only [Option.bind_eq_some_iff,Option.map_eq_some_iff] at h
           obtain ⟨_,_,_,_,rfl⟩:=h
           exact hc
         · split at h
           · split at h
             · rename_i hr
               injection h with h
               subst h
               exact hc.grow fun s1 g=>g.new _ hr
             · cases h
           · cases h
 · cases h
theorem run_chain:∀ {ord:List Nat} {x x':RS} (_:runR T cal ops ts W b ord x=some x') (_:VLe x'.V V) {s0:St} (_:Chain T cal ops ts W b V s0 x.log x.s),Chain T cal ops ts W b V s0 x'.log x'.s
 | [],x,x',h,_,s0,hc=>by injection h with h;subst h;exact hc
 | i::r,x,x',h,hV,s0,hc=>by
   simp only [runR,Option.bind_eq_some_iff] at h
   obtain ⟨x1,h1,h2⟩:=h
   exact run_chain h2 hV (step_chain h1 ((run_le h2).trans hV) hc)
theorem cur_append (fin:St) (l:List Ent) (e:Ent):curE fin (l++[e])=curE e.2.1 l:=by
 cases l with
 | nil=>rfl
 | cons x r=>rfl
theorem Chain.at {s0:St}:∀ {rt dn:List Ent} {fin:St},Chain T cal ops ts W b V s0 (rt++dn) fin→Chain T cal ops ts W b V s0 dn (curE fin rt.reverse)
 | [],dn,fin,h=>h
 | e::rt,dn,fin,h=>by
   rw [List.reverse_cons,cur_append]
   exact Chain.at h.2.2
end
end
end Go.Proofs.YtdpojpcoghcieaaGreat.Si
namespace Go.Proofs.YtdpojpcoghcieaaGreat.Si
noncomputable section
open Go.RowKit
theorem writers_mem:∀ (l:List Oper) (k t j:Nat),(t,j)∈writers l k↔∃ m o,j=k+m∧l[m]?=some o∧o.dst=some t
 | [],k,t,j=>by simp [writers]
 | o::r,k,t,j=>by
   have ih:=writers_mem r (k+1) t j
   have key:((t,j)∈writers (o::r) k)↔((o.dst=some t∧j=k)∨(t,j)∈writers r (k+1)):=by
    have e:writers (o::r) k=match o.dst with
      | some d=>(d,k)::writers r (k+1)
      | none=>writers r (k+1):=rfl
    rw [e]
    cases hd:o.dst with
    | none=>simp
    | some d=>simp [eq_comm]
   rw [key,ih]
   constructor
   · rintro (⟨h1,h2⟩ | ⟨m,p,h1,h2,h3⟩)
     · exact ⟨0,o,by omega,rfl,h1⟩
     · exact ⟨m+1,p,by omega,by simpa using h2,h3⟩
   · rintro ⟨m,p,h1,h2,h3⟩
     cases m with
     | zero =>
       simp only [List.getElem?_cons_zero,Option.some.injEq] at h2
       subst h2
       exact .inl ⟨h3,by omega⟩
     | succ m=>exact .inr ⟨m,p,by omega,by simpa using h2,h3⟩
theorem twice_look:∀ {W:List (Nat × Nat)} {t j:Nat},noneTwice W=true→(t,j)∈W→look W t=some j
 | [],_,_,_,h=>by cases h
 | (u,k)::r,t,j,h,hm=>by
   simp only [noneTwice,Bool.and_eq_true,List.all_eq_true] at h
   rw [look_cons]
   rcases List.mem_cons.1 hm with e | hm
   · injection e with e1 e2
     subst e1 e2
     rw [if_pos rfl]
   · have:=h.1 _ hm
     rw [if_neg (fun e=>by subst e;rw [show Nat.beq u u=true from Nat.beq_refl u] at this;cases this)]
     exact twice_look h.2 hm
theorem writer_iff {ops:Array Oper} (h:noneTwice (writers ops.toList 0)=true) (t j:Nat):look (writers ops.toList 0) t=some j↔∃ o,ops[j]?=some o∧o.dst=some t:=by
 constructor
 · intro hl
   obtain ⟨m,o,h1,h2,h3⟩:=(writers_mem _ _ _ _).1 (look_mem hl)
   obtain rfl:j=m:=by omega
   exact ⟨o,by simpa using h2,h3⟩
 · rintro ⟨o,h1,h2⟩
   exact twice_look h ((writers_mem _ _ _ _).2 ⟨j,o,by omega,by simpa using h1,h2⟩)
theorem end_at (V:List (Nat × AV)):∀ {W:List (Nat × Nat)} {ts:List AV} (_:noneTwice W=true) (t:Nat),t<ts.length→(endR V W ts)[t]?=match look W t with
  | some j=>some ((look V j).getD (.tup []))
  | none=>ts[t]?
 | [],ts,_,t,_=>rfl
 | (u,k)::r,ts,h,t,ht=>by
   simp only [noneTwice,Bool.and_eq_true,List.all_eq_true] at h
   rw [endR,setQ_eq,end_at V h.2 t (by rw [List.length_set];exact ht),look_cons]
   by_cases e:u=t
   · subst e
     rw [if_pos rfl]
     cases hl:look r u with
     | none=>simp [ht]
     | some j =>
       have:=h.1 _ (look_mem hl)
       rw [show Nat.beq u u=true from Nat.beq_refl u] at this
       cases this
   · rw [if_neg e]
     cases look r t with
     | none=>simp [e]
     | some j=>rfl
theorem end_len (V:List (Nat × AV)):∀ (W:List (Nat × Nat)) (ts:List AV),(endR V W ts).length=ts.length
 | [],_=>rfl
 | (_,_)::r,ts=>by rw [endR,setQ_eq,end_len V r,List.length_set]
theorem waits_bit (b:List Nat) (j:Nat):∀ es:List Edge,(waits b es).testBit j=true↔∃ e∈es,Region.binds .any e=true∧(j=e.on∨(b.getD e.on 0).testBit j=true)
 | []=>by simp [waits]
 | e::r=>by
   have ih:=waits_bit b j r
   unfold waits
   simp only [getQ_eq]
   cases hb:Region.binds .any e with
   | false=>simp [hb,ih]
   | true =>
     simp only [cond_true,Nat.testBit_or,Bool.or_eq_true,ih,Nat.one_shiftLeft,Nat.testBit_two_pow,decide_eq_true_eq,List.mem_cons]
     constructor
     · rintro ((h | h) | ⟨f,h1,h2⟩)
       · exact ⟨e,.inl rfl,hb,.inl h.symm⟩
       · exact ⟨e,.inl rfl,hb,.inr h⟩
       · exact ⟨f,.inr h1,h2⟩
     · rintro ⟨f,rfl | h1,h2,h3⟩
       · rcases h3 with h3 | h3
         · exact .inl (.inl h3.symm)
         · exact .inl (.inr h3)
       · exact .inr ⟨f,h1,h2,h3⟩
structure Good (T:TT) (ops:Array Oper) (ts:List AV) (W:List (Nat × Nat)) (b rk:List Nat) (x:RS) (o:Oper) (i:Nat):Prop where
 bits:b.getD i 0=waits b o.after.toList
 rank:∀ e∈o.after.toList,Region.binds .any e=true→rk.getD e.on 0<rk.getD i 0∧e.on<ops.size
 val:∃ v,look x.V i=some v∧(isEff o.op=true→∃ e∈x.log,e.1=i)∧(isEff o.op=false→okR T ops (rhoA ts W b x.V i) b x.log.reverse x.s x.ids i o v=true)
 dst:∀ d,o.dst=some d→d<ts.length
theorem chk_at {T:TT} {ops:Array Oper} {ts:List AV} {W:List (Nat × Nat)} {b rk:List Nat} {x:RS}:∀ {l:List Oper} {k:Nat},chkR T ops ts W b rk x l k=true→∀ m o,l[m]?=some o→Good T ops ts W b rk x o (k+m)
 | [],_,_,m,o,h=>by simp at h
 | p::r,k,h,m,o,hm=>by
   simp only [chkR,getQ_eq,Bool.and_eq_true] at h
   obtain ⟨⟨⟨⟨h1,h2⟩,h3⟩,h4⟩,h5⟩:=h
   cases m with
   | zero =>
     simp only [List.getElem?_cons_zero,Option.some.injEq] at hm
     subst hm
     refine ⟨Nat.eq_of_beq_eq_true h1,fun e he hb=>?_,?_,fun d hd=>?_⟩
     · have:=(List.all_eq_true.1 h2) e he
       rw [hb] at this
       simp only [Bool.not_true,Bool.false_or,Bool.and_eq_true] at this
       exact ⟨Nat.le_of_ble_eq_true this.1,Nat.le_of_ble_eq_true this.2⟩
     · cases hl:look x.V k with
       | none=>rw [hl] at h3;cases h3
       | some v =>
         rw [hl] at h3
         refine ⟨v,rfl,fun he=>?_,fun he=>?_⟩
         · dsimp only at h3
           rw [he] at h3
           simp only [cond_true,List.any_eq_true] at h3
           obtain ⟨e,h6,h7⟩:=h3
           exact ⟨e,h6,Nat.eq_of_beq_eq_true h7⟩
         · dsimp only at h3
           rw [he] at h3
           exact h3
     · rw [hd] at h4
       exact Nat.le_of_ble_eq_true h4
   | succ m =>
     have:=chk_at h5 m o (by simpa using hm)
     rwa [show k+1+m=k+(m+1) by omega] at this
theorem ids_one:∀ {L:List Ent} {ids:List (Nat × Nat)} (_:idsOk L ids=true) {i j id:Nat},(i,id)∈ids→(j,id)∈ids→i=j
 | L,[],_,_,_,_,h,_=>by cases h
 | L,(k,kd)::r,h,i,j,id,hi,hj=>by
   simp only [idsOk,Bool.and_eq_true,List.all_eq_true] at h
   rcases List.mem_cons.1 hi with e | hi <;> rcases List.mem_cons.1 hj with f | hj
   · injection e with e1 _
     injection f with f1 _
     exact e1.trans f1.symm
   · injection e with e1 e2
     have:=(h.1.1 _ hj).1
     subst e2
     rw [show Nat.beq id id=true from Nat.beq_refl id] at this
     cases this
   · injection f with e1 e2
     have:=(h.1.1 _ hi).1
     subst e2
     rw [show Nat.beq id id=true from Nat.beq_refl id] at this
     cases this
   · exact ids_one h.2 hi hj
theorem ids_eff:∀ {L:List Ent} {ids:List (Nat × Nat)} (_:idsOk L ids=true) {i id:Nat} {e:Ent},(i,id)∈ids→e∈L→id<e.2.1.next∨e.2.2.next≤id
 | L,[],_,_,_,_,h,_=>by cases h
 | L,(k,kd)::r,h,i,id,e,hi,he=>by
   simp only [idsOk,Bool.and_eq_true,List.all_eq_true] at h
   rcases List.mem_cons.1 hi with f | hi
   · injection f with e1 e2
     have:=h.1.2 _ he
     subst e2
     rcases (Bool.or_eq_true _ _).mp this with g | g
     · exact .inl (Nat.le_of_ble_eq_true g)
     · exact .inr (Nat.le_of_ble_eq_true g)
   · exact ids_eff h.2 hi he
theorem effs_at {b:List Nat}:∀ {dn:List Ent} {e:Ent} {td:List Ent},effsOk b (dn++e::td)=true→∀ f∈td,(b.getD f.1 0).testBit e.1=true∧f.1≠e.1
 | [],e,td,h,f,hf=>by
   simp only [List.nil_append,effsOk,getQ_eq,Bool.and_eq_true,List.all_eq_true] at h
   have:=h.1 f hf
   exact ⟨this.1,fun g=>by rw [g,show Nat.beq e.1 e.1=true from Nat.beq_refl _] at this;exact absurd this.2 (by simp)⟩
 | d::dn,e,td,h,f,hf=>by
   simp only [List.cons_append,effsOk,Bool.and_eq_true] at h
   exact effs_at h.2 f hf
theorem splits_at {b:List Nat} {i:Nat} {f:St→Bool} {fin:St}:∀ {td dn td0:List Ent},splits b i f fin dn (td0++td)=true→(∀ e∈dn,(b.getD e.1 0).testBit i=false)→(∀ e∈td0,(b.getD e.1 0).testBit i=false)→(∀ e∈td,(b.getD i 0).testBit e.1=false)→f (curE fin td)=true
 | td,dn,[],h,h1,_,h3=>by
   unfold splits at h
   simp only [getQ_eq] at h
   simp only [List.nil_append,Bool.and_eq_true] at h
   have:=h.1
   rw [show (dn.all fun e=>!(b.getD e.1 0).testBit i)=true from List.all_eq_true.2 fun e he=>by rw [h1 e he];rfl,show (td.all fun e=>!(b.getD i 0).testBit e.1)=true from List.all_eq_true.2 fun e he=>by rw [h3 e he];rfl] at this
   exact this
 | td,dn,d::td0,h,h1,h2,h3=>by
   unfold splits at h
   simp only [getQ_eq] at h
   simp only [List.cons_append,Bool.and_eq_true] at h
   exact splits_at (dn:=d::dn) (td0:=td0) h.2 (fun e he=>by
    rcases List.mem_cons.1 he with rfl | he
    · exact h2 _ (by simp)
    · exact h1 e he) (fun e he=>h2 e (by simp [he])) h3
end
noncomputable section
open Go.RowKit
theorem eval_put_self (a:Act) (d:Nat) (v:Value) (h:d<a.tmps.size):(a.put (some d) v).eval (.tmp d)=v:=by
 simp [Act.put,Act.eval,h]
theorem eval_put_ne (a:Act) (dst:Option Tmp) (v:Value) (t:Nat) (h:dst≠some t):(a.put dst v).eval (.tmp t)=a.eval (.tmp t):=by
 cases dst with
 | none=>rfl
 | some d =>
   have hd:d≠t:=fun e=>h (by rw [e])
   simp [Act.put,Act.eval,hd]
theorem set_self {l:Array Bool} {i:Nat} {c:Bool} (h:l[i]?=some c):(l.setIfInBounds i true)[i]?=some true:=by
 have hi:i<l.size:=(Array.getElem?_eq_some_iff.1 h).1
 simp [hi]
theorem set_ne {l:Array Bool} {i j:Nat} (h:i≠j):(l.setIfInBounds i true)[j]?=l[j]?:=by
 simp [h]
structure Ctx (T:TT) (cal:Cal) (ops:Array Oper) (ts:List AV) (b rk:List Nat) (x:RS) (s0:St):Prop where
 twice:noneTwice (writers ops.toList 0)=true
 good:∀ i o,ops[i]?=some o→Good T ops ts (writers ops.toList 0) b rk x o i
 ids:idsOk x.log x.ids=true
 effs:effsOk b x.log.reverse=true
 chain:Chain T cal ops ts (writers ops.toList 0) b x.V s0 x.log x.s
 range:∀ e∈x.log,e.1<ops.size
 base:∀ p∈x.ids,s0.next≤p.2
structure Inv (ops:Array Oper) (ts:List AV) (b:List Nat) (x:RS) (B:Nat) (w0:World) (φ0:Phi) (s0:St) (a0:Act) (listed:Array Bool) (a:Act) (w:World) (φ:Phi) (dn td:List Ent):Prop where
 log:x.log=td.reverse++dn
 size:listed.size=ops.size
 done:∀ e∈dn,listed[e.1]?=some true
 todo:∀ e∈td,listed[e.1]?=some false
 closed:∀ i j,listed[i]?=some true→(b.getD i 0).testBit j=true→listed[j]?=some true
 stands:Stands B w0 φ (curE x.s td) w
 slotW:∀ t j,look (writers ops.toList 0) t=some j→listed[j]?=some true→∃ c,look x.V j=some c∧conc φ c=some (a.eval (.tmp t))
 slot0:∀ t,(∀ j,look (writers ops.toList 0) t=some j→listed[j]?≠some true)→conc φ (ts.getD t (.tup []))=some (a.eval (.tmp t))
 tsize:a.tmps.size=ts.length
 ids:∀ i id,(i,id)∈x.ids→listed[i]?=some false→φ id=none
 le:φ0.le φ
 next:s0.next≤(curE x.s td).next
 kept:∀ j,j<s0.next→φ0 j=none→φ j=none∧(curE x.s td).get j=s0.get j
 defers:a.defers=a0.defers
section
variable {F:Fence} {n:Nat} {P:Program} {B:Nat} {w0:World} {T:TT} {cal:Cal} {ops:Array Oper} {ts:List AV} {b rk:List Nat} {x:RS} {φ0:Phi} {s0:St} {a0:Act}
theorem Inv.rho {listed:Array Bool} {a:Act} {w:World} {φ:Phi} {dn td:List Ent} (I:Inv ops ts b x B w0 φ0 s0 a0 listed a w φ dn td) {i:Nat} (hi:listed[i]?=some false) (hp:∀ j,(b.getD i 0).testBit j=true→listed[j]?=some true) :
  ∀ y c,rhoA ts (writers ops.toList 0) b x.V i y=some c→conc φ c=some (a.eval y):=by
 intro y c hy
 cases y with
 | tmp t =>
   simp only [rhoA,getQ_eq] at hy
   cases hl:look (writers ops.toList 0) t with
   | none =>
     rw [hl] at hy
     injection hy with hy
     subst hy
     exact I.slot0 t fun j hj=>by rw [hl] at hj;cases hj
   | some j =>
     rw [hl] at hy
     dsimp only at hy
     cases h1:(b.getD i 0).testBit j with
     | true =>
       rw [h1] at hy
       obtain ⟨c',k1,k2⟩:=I.slotW t j hl (hp j h1)
       rw [cond_true,k1] at hy
       injection hy with hy
       subst hy
       exact k2
     | false =>
       rw [h1] at hy
       cases h2:(b.getD j 0).testBit i with
       | true =>
         rw [h2] at hy
         injection hy with hy
         subst hy
         refine I.slot0 t fun k hk hlk=>?_
         rw [hl] at hk
         injection hk with hk
         subst hk
         have:=I.closed _ _ hlk h2
         rw [hi] at this
         cases this
       | false=>rw [h2] at hy;cases hy
 | const v=>exact absV_conc φ v c hy
 | global g=>cases hy
 | func f =>
   injection hy with hy
   subst hy
   rfl
theorem wantedR_ok {φ:Phi} {ρ:Operand→Option AV} {a:Act} (hρ:∀ y c,ρ y=some c→conc φ c=some (a.eval y)) {o:Oper} {v:Bool} (hw:wantedR ops ρ o=some v):Region.wanted o (yielded ops a.tmps)=v:=by
 unfold wantedR at hw
 simp only [atQ_eq,Array.getElem?_toList] at hw
 unfold Region.wanted
 split at hw
 · rename_i hg
   injection hw with hw
   subst hw
   rw [hg]
 · rename_i j want hg
   rw [hg]
   dsimp only
   unfold yielded
   cases hd:(ops[j]?).bind (·.dst) with
   | none=>rw [hd] at hw;cases hw
   | some d =>
     rw [hd] at hw
     simp only [Option.bind_some] at hw ⊢
     cases hr:ρ (.tmp d) with
     | none=>rw [hr] at hw;cases hw
     | some c =>
       rw [hr] at hw
       have hc:=hρ _ _ hr
       simp only [Act.eval,Array.getD_eq_getD_getElem?] at hc
       cases c <;> dsimp only at hw <;> first
        | (cases hw;done)
        | (injection hw with hw
           subst hw
           injection hc with hc
           cases ht:a.tmps[d]? with
           | none=>rw [ht] at hc;cases hc
           | some u =>
             rw [ht] at hc
             simp only [Option.getD_some] at hc
             subst hc
             simp)
        | (injection hw with hw
           subst hw
           simp only [conc,Option.map_eq_some_iff] at hc
           obtain ⟨l,_,hc⟩:=hc
           cases ht:a.tmps[d]? with
           | none=>simp
           | some u =>
             rw [ht] at hc
             simp only [Option.getD_some] at hc
             subst hc
             simp)
theorem Inv.adv (C:Ctx T cal ops ts b rk x s0) {listed:Array Bool} {a:Act} {w w':World} {φ φ':Phi} {dn td dn' td':List Ent} (I:Inv ops ts b x B w0 φ0 s0 a0 listed a w φ dn td) {i:Nat} {o:Oper} (ho:ops[i]?=some o) (hi:listed[i]?=some false)
  (hp:∀ j,(b.getD i 0).testBit j=true→listed[j]?=some true) {r:AV} {v:Value} (hr:look x.V i=some r) (hv:conc φ' r=some v) (hle:φ.le φ') (hs:Stands B w0 φ' (curE x.s td') w') (hlog:x.log=td'.reverse++dn')
  (hd:∀ e∈dn',e∈dn∨e.1=i) (ht:∀ e∈td',e∈td∧e.1≠i) (hids:∀ j id,(j,id)∈x.ids→j≠i→φ id=none→listed[j]?=some false→φ' id=none)
  (hnx:(curE x.s td).next≤(curE x.s td').next) (hk:∀ j,j<(curE x.s td).next→φ j=none→j<s0.next→φ' j=none∧(curE x.s td').get j=(curE x.s td).get j) :
  Inv ops ts b x B w0 φ0 s0 a0 (listed.setIfInBounds i true) (a.put o.dst v) w' φ' dn' td' where
 log:=hlog
 size:=by rw [Array.size_setIfInBounds];exact I.size
 done e he:=by
  rcases hd e he with h | h
  · by_cases hei:i=e.1
    · rw [← hei];exact set_self hi
    · rw [set_ne hei];exact I.done e h
  · rw [h];exact set_self hi
 todo e he:=by
  obtain ⟨h1,h2⟩:=ht e he
  rw [set_ne (Ne.symm h2)]
  exact I.todo e h1
 closed k j hk hb:=by
  by_cases hj:i=j
  · rw [← hj];exact set_self hi
  · rw [set_ne hj]
    by_cases hki:i=k
    · subst hki;exact hp j hb
    · rw [set_ne hki] at hk;exact I.closed k j hk hb
 stands:=hs
 slotW t j hl hj:=by
  by_cases hij:i=j
  · subst hij
    obtain ⟨o',k1,k2⟩:=(writer_iff C.twice t i).1 hl
    rw [ho] at k1
    injection k1 with k1
    subst k1
    have hlt:=(C.good i o ho).dst t k2
    refine ⟨r,hr,?_⟩
    rw [k2,eval_put_self a t v (by rw [I.tsize];exact hlt)]
    exact hv
  · rw [set_ne hij] at hj
    obtain ⟨c,k1,k2⟩:=I.slotW t j hl hj
    refine ⟨c,k1,?_⟩
    rw [eval_put_ne a o.dst v t fun e=>?_]
    · exact conc_mono hle _ _ k2
    · have:=(writer_iff C.twice t i).2 ⟨o,ho,e⟩
      rw [hl] at this
      injection this with this
      exact hij this.symm
 slot0 t h:=by
  rw [eval_put_ne a o.dst v t fun e=>?_]
  · refine conc_mono hle _ _ (I.slot0 t fun j hj hlj=>?_)
    refine h j hj ?_
    by_cases hij:i=j
    · rw [← hij];exact set_self hi
    · rw [set_ne hij];exact hlj
  · exact h i ((writer_iff C.twice t i).2 ⟨o,ho,e⟩) (set_self hi)
 tsize:=by
  rw [← I.tsize]
  unfold Act.put
  split <;> simp
 ids j id hj hl:=by
  by_cases hij:i=j
  · subst hij
    rw [set_self hi] at hl
    cases hl
  · rw [set_ne hij] at hl
    exact hids j id hj (Ne.symm hij) (I.ids j id hj hl) hl
 le:=Phi.le_trans I.le hle
 next:=Nat.le_trans I.next hnx
 kept j hj hn:=by
  obtain ⟨k1,k2⟩:=I.kept j hj hn
  obtain ⟨m1,m2⟩:=hk j (Nat.lt_of_lt_of_le hj I.next) k1 hj
  exact ⟨m1,m2.trans k2⟩
 defers:=by
  rw [← I.defers]
  unfold Act.put
  split <;> rfl
end
end
end Go.Proofs.YtdpojpcoghcieaaGreat.Si
namespace Go.Proofs.YtdpojpcoghcieaaGreat.Si
noncomputable section
open Go.RowKit
section
variable {F:Fence} {n:Nat} {P:Program} {B:Nat} {w0:World} {T:TT} {cal:Cal} {ops:Array Oper} {ts:List AV} {b rk:List Nat} {x:RS} {φ0:Phi} {s0:St} {a0:Act}
theorem Chain.fact {W:List (Nat × Nat)} {V:List (Nat × AV)}:∀ {log:List Ent} {s:St} (_:Chain T cal ops ts W b V s0 log s) {e:Ent},e∈log→Fact T cal ops ts W b V e
 | [],_,_,_,h=>by cases h
 | d::r,s,h,e,he=>by
   rcases List.mem_cons.1 he with rfl | he
   · exact h.1
   · exact Chain.fact h.2.2 he
theorem one_ok (hT:TypesOk P T) (hc:CalOk F n P cal) (hF:∀ f,F.fn f) (C:Ctx T cal ops ts b rk x s0) {listed:Array Bool} {a:Act} {w:World} {φ:Phi} {dn td:List Ent} (I:Inv ops ts b x B w0 φ0 s0 a0 listed a w φ dn td) {i:Nat} {o:Oper} (ho:ops[i]?=some o) (hi:listed[i]?=some false)
  (hp:∀ j,(b.getD i 0).testBit j=true→listed[j]?=some true) {K:Act→World→Prop} {Q:Exit→Act→World→Prop}
  (hK:∀ φ' w' v dn' td',Inv ops ts b x B w0 φ0 s0 a0 (listed.setIfInBounds i true) (a.put o.dst v) w' φ' dn' td'→K (a.put o.dst v) w') :
  if Region.wanted o (yielded ops a.tmps) then o.wpIn F n P a w K Q else (∀ f,o.about P w a.eval=some f→F.fn f)∧K (a.put o.dst undef) w:=by
 obtain ⟨v,hv,heff,hne⟩:=(C.good i o ho).val
 have hρ:=I.rho hi hp
 cases he:isEff o.op with
 | false =>
   have hok:=hne he
   have htd:∀ e∈td,e∈td∧e.1≠i:=fun e hm=>⟨hm,fun ee=>by
    obtain ⟨o',_,k1,k2,_⟩:=C.chain.fact (e:=e) (by rw [I.log];simp [hm])
    rw [ee,ho] at k1
    injection k1 with k1
    subst k1
    rw [he] at k2
    cases k2⟩
   have hsp:∀ f,splits b i f x.s [] x.log.reverse=true→f (curE x.s td)=true:=fun f h=>by
    rw [I.log,List.reverse_append,List.reverse_reverse] at h
    refine splits_at (dn:=[]) (td0:=dn.reverse) h (by simp) (fun e hm=>?_) (fun e hm=>?_)
    · cases hb:(b.getD e.1 0).testBit i with
      | false=>rfl
      | true =>
        have:=I.closed _ _ (I.done e (by simpa using hm)) hb
        rw [hi] at this
        cases this
    · cases hb:(b.getD i 0).testBit e.1 with
      | false=>rfl
      | true =>
        have:=hp _ hb
        rw [I.todo e hm] at this
        cases this
   have same:∀ u,conc φ v=some u→K (a.put o.dst u) w:=fun u hu=>hK φ w u dn td (I.adv C ho hi hp hv hu φ.le_refl I.stands I.log (fun e h=>.inl h) htd (fun _ _ _ _ h _=>h) (Nat.le_refl _) fun j _ h _=>⟨h,rfl⟩)
   unfold okR at hok
   split at hok
   · cases hok
   · rename_i hw
     obtain rfl:=beqA_eq _ _ hok
     rw [wantedR_ok hρ hw]
     simp only [Bool.false_eq_true,if_false]
     exact ⟨fun f _=>hF f,same undef rfl⟩
   · rename_i hw
     rw [wantedR_ok hρ hw,if_pos rfl]
     split at hok
     · rename_i r hpu
       obtain rfl:=beqA_eq _ _ hok
       obtain ⟨u,k1,k2⟩:=pure_ok hT hρ o hpu
       exact wp_of_run hF (fun c e=>by rw [e] at hpu;simp [pureOp] at hpu) (k2 w) (.inl rfl) (same u k1)
     · split at hok
       · rename_i t p hop
         split at hok
         · rename_i y hy
           have h1:=hsp _ hok
           split at h1
           · rename_i r hl
             obtain rfl:=beqA_eq _ _ h1
             obtain ⟨u,k1,k2⟩:=load_ok hT I.stands hl (hρ p y hy)
             exact wp_of_run hF (fun c e=>by rw [e] at hop;cases hop) (nx:=.value u) (by simp [execOp,hop,k2]) (.inl rfl) (same u k1)
           · cases h1
         · cases hok
       · split at hok
         · rename_i id hid
           split at hok
           · rename_i r cs t hn
             simp only [Bool.and_eq_true] at hok
             obtain rfl:=beqA_eq _ _ hok.1
             have h1:=hsp _ hok.2
             simp only [Bool.and_eq_true] at h1
             have hlt:id<(curE x.s td).next:=Nat.le_of_ble_eq_true h1.1
             have hget:(curE x.s td).get id=some (.cells cs t):=by
              have h2:=h1.2
              split at h2
              · rename_i cs' t' hg
                simp only [Bool.and_eq_true] at h2
                rw [hg,beqL_eq _ _ h2.1,Nat.eq_of_beq_eq_true h2.2]
              · cases h2
             have hmem:=look_mem hid
             have hnone:=I.ids i id hmem hi
             obtain ⟨cv,k1,k2⟩:=new_ok hT hρ hn
             obtain ⟨u,k3,k4⟩:=k2 w
             refine wp_of_run hF (fun c e=>by rw [e] at hn;simp [newOp] at hn) k3 (.inl rfl) (hK _ _ u dn td (I.adv C ho hi hp hv k4 (Phi.up_le hnone _) ?_ I.log (fun e h=>.inl h) htd (fun j jd hj hji hjn _=>?_) (Nat.le_refl _) fun j _ h hj0=>⟨?_,rfl⟩))
             · refine I.stands.place hnone hlt rfl fun q hq=>?_
               rw [hget] at hq
               injection hq with hq
               subst hq
               exact ⟨cv.toArray,cv,heap_alloc_new _ _,by simp,by rw [concL_len k1];exact Nat.le_refl _,concL_mono (Phi.up_le hnone _) _ _ k1,fun j v hj=>by simpa using hj⟩
             · unfold Phi.up
               rw [if_neg (fun e=>hji (by subst e;exact ids_one C.ids hj hmem))]
               exact hjn
             · have:=C.base _ hmem
               unfold Phi.up
               rw [if_neg (by dsimp only at this;omega)]
               exact h
           · cases hok
         · cases hok
 | true =>
   obtain ⟨e,hel,hei⟩:=heff he
   have het:e∈td:=by
    rw [I.log] at hel
    rcases List.mem_append.1 hel with h | h
    · simpa using h
    · have:=I.done e h
      rw [hei,hi] at this
      cases this
   cases td with
   | nil=>cases het
   | cons e1 rest =>
     have hfirst:=effs_at (b:=b) (dn:=dn.reverse) (e:=e1) (td:=rest) (by
      have:=C.effs
      rwa [I.log,List.reverse_append,List.reverse_reverse] at this)
     have h1:e1.1=i:=by
      rcases List.mem_cons.1 het with rfl | h
      · exact hei
      · have:=(hfirst e h).1
        rw [hei] at this
        have:=hp _ this
        rw [I.todo e1 (by simp)] at this
        cases this
     have hlog:x.log=rest.reverse++(e1::dn):=by rw [I.log];simp
     have hch:=C.chain
     rw [hlog] at hch
     have hch:=Chain.at hch
     rw [List.reverse_reverse] at hch
     obtain ⟨hfact,hgrow,_⟩:=hch
     obtain ⟨o',ρ,k1,k2,k3,k4⟩:=hfact
     rw [h1,ho] at k1
     injection k1 with k1
     subst k1
     rw [h1] at k3 k4
     have hρ':∀ y c,ρ y=some c→conc φ c=some (a.eval y):=fun y c hy=>hρ y c (k3 y c hy)
     have hdn:∀ f∈e1::dn,f∈dn∨f.1=i:=fun f hf=>by
      rcases List.mem_cons.1 hf with rfl | hf
      · exact .inr h1
      · exact .inl hf
     have hrest:∀ f∈rest,f∈e1::rest∧f.1≠i:=fun f hf=>⟨by simp [hf],by rw [← h1];exact (hfirst f hf).2⟩
     rcases k4 with ⟨hw,hst,hl⟩ | ⟨hw,r,hef,hl⟩
     · rw [wantedR_ok hρ' hw]
       simp only [Bool.false_eq_true,if_false]
       rw [hst] at hgrow
       refine ⟨fun f _=>hF f,hK φ w undef (e1::dn) rest (I.adv C ho hi hp hl rfl φ.le_refl (hgrow.2.2 _ _ _ _ I.stands) hlog hdn hrest (fun _ _ _ _ h _=>h) hgrow.1 fun j hj h _=>⟨h,hgrow.2.1 j hj⟩)⟩
     · rw [wantedR_ok hρ' hw,if_pos rfl]
       refine eff_ok hT hc hF hρ' I.stands hef fun φ' w' u hE hu=>hK φ' w' u (e1::dn) rest (I.adv C ho hi hp hl hu hE.le (hgrow.2.2 _ _ _ _ hE.stands) hlog hdn hrest (fun j jd hj _ hjn _=>?_) (Nat.le_trans hE.next hgrow.1) fun j hj h _=>?_)
       · rcases ids_eff C.ids hj (e:=e1) (by rw [hlog];simp) with h | h
         · exact (hE.kept jd h hjn).1
         · cases hq:φ' jd with
           | none=>rfl
           | some L=>have:=(hE.stands.dom jd L hq).1;omega
       · obtain ⟨m1,m2⟩:=hE.kept j hj h
         exact ⟨m1,(hgrow.2.1 j (Nat.lt_of_lt_of_le hj hE.next)).trans m2⟩
end
end
end Go.Proofs.YtdpojpcoghcieaaGreat.Si
