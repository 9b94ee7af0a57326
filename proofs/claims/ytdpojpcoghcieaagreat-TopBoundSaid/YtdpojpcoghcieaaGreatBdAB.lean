/- A part of the proof of TopBound: SiOp. Conditions: none. -/
import Derived.Test.YtdpojpcoghcieaaGreatBdAA
set_option maxHeartbeats 8000000
namespace Go.Proofs.YtdpojpcoghcieaaGreat.Si
noncomputable section
open Go.RowKit
theorem conc_sl {φ:Phi} {id off len cap es:Nat} {ex:Bool} {v:Value} (h:conc φ (.sl id off len cap ex es)=some v) :
  ∃ (L:Loc) (c:Nat),φ id=some L∧v=.slice (some ⟨L.blk,L.base+off,none⟩) len c∧cap≤c∧c=if ex then cap else (L.size-off) / es:=by
 simp only [conc,Option.bind_eq_some_iff] at h
 obtain ⟨L,h1,h2⟩:=h
 by_cases hc:cap≤(if ex then cap else (L.size-off) / es)
 · rw [if_pos hc] at h2
   injection h2 with h2
   exact ⟨L,_,h1,h2.symm,hc,rfl⟩
 · rw [if_neg hc] at h2
   cases h2
def avCells:AV→List AV
 | .agg l=>l
 | v=>[v]
theorem avCells_ok {φ:Phi} {a:AV} {v:Value} (h:conc φ a=some v):concL φ (avCells a)=some v.cells.toList:=by
 cases a <;> simp only [avCells]
 case agg l =>
  simp only [conc,Option.map_eq_some_iff] at h
  obtain ⟨vs,h1,rfl⟩:=h
  exact h1
 case sl =>
  obtain ⟨L,c,_,rfl,_⟩:=conc_sl h
  rw [concL_cons,h,concL_nil]
  rfl
 all_goals
  rw [concL_cons,h,concL_nil]
  simp only [Option.bind_some,Option.map_some]
  congr 1
  first
   | (injection h with h;subst h;rfl)
   | (simp only [conc,Option.map_eq_some_iff,Option.bind_eq_some_iff] at h
      first
       | (obtain ⟨_,_,rfl⟩:=h;rfl)
       | (obtain ⟨_,_,_,_,rfl⟩:=h;rfl))
def setL (cs:List AV) (off:Nat):List AV→List AV
 | []=>cs
 | a::r=>setL (setQ cs off a) (off+1) r
def setV (cs:List Value) (off:Nat):List Value→List Value
 | []=>cs
 | a::r=>setV (cs.set off a) (off+1) r
theorem setL_ok {φ:Phi}:∀ {l:List AV} {us:List Value} (_:concL φ l=some us) {cs:List AV} {vs:List Value} (_:concL φ cs=some vs) (off:Nat),concL φ (setL cs off l)=some (setV vs off us)
 | [],us,h,cs,vs,hc,off=>by cases h;exact hc
 | a::r,us,h,cs,vs,hc,off=>by
   rw [concL_cons] at h
   simp only [Option.bind_eq_some_iff,Option.map_eq_some_iff] at h
   obtain ⟨x,h1,y,h2,rfl⟩:=h
   simp only [setL,setQ_eq]
   exact setL_ok h2 (concL_set hc off a x h1) (off+1)
theorem setL_len (l:List AV):∀ (cs:List AV) (off:Nat),(setL cs off l).length=cs.length:=by
 induction l with
 | nil=>intro cs off;rfl
 | cons a r ih=>intro cs off;rw [setL,ih,setQ_eq,List.length_set]
def fillA (place:Nat→Option (Nat × Nat)) (cs:List AV):List (Nat × AV)→Option (List AV)
 | []=>some cs
 | (i,v)::r=>match place i with
   | none=>none
   | some (off,size)=>if (avCells v).length=size∧off+size≤cs.length then fillA place (setL cs off (avCells v)) r else none
theorem foldl_set (off:Nat):∀ (us:List Value) (j:Nat) (cs:List Value),((us.zipIdx j).foldl (fun (cs:Array Value) (p:Value × Nat)=>cs.setIfInBounds (off+p.2) p.1) cs.toArray)=(setV cs (off+j) us).toArray
 | [],_,_=>rfl
 | u::r,j,cs=>by
   simp only [List.zipIdx_cons,List.foldl_cons,List.setIfInBounds_toArray]
   rw [foldl_set off r (j+1)]
   rfl
theorem fill_ok {φ:Phi} {place:Nat→Option (Nat × Nat)}:∀ {ps:List (Nat × AV)} {us:List (Nat × Value)} (_:ps.map (·.1)=us.map (·.1)) (_:concL φ (ps.map (·.2))=some (us.map (·.2))) {cs:List AV} {vs:List Value} (_:concL φ cs=some vs) {r:List AV} (_:fillA place cs ps=some r),
  ∃ rs,concL φ r=some rs∧Instr.fill place vs.toArray us=some rs.toArray
 | [],[],_,_,cs,vs,hc,r,h=>by
   injection h with h;subst h
   exact ⟨vs,hc,rfl⟩
 | [],_::_,e,_,_,_,_,_,_=>by cases e
 | _::_,[],e,_,_,_,_,_,_=>by cases e
 | (i,a)::ps,(i',u)::us,e,h2,cs,vs,hc,r,h=>by
   simp only [List.map_cons,List.cons.injEq] at e
   obtain ⟨rfl,e⟩:=e
   rw [List.map_cons,List.map_cons,concL_cons] at h2
   simp only [Option.bind_eq_some_iff,Option.map_eq_some_iff] at h2
   obtain ⟨x,k1,y,k2,k3⟩:=h2
   injection k3 with k3 k4
   subst k3 k4
   unfold fillA at h
   unfold Instr.fill
   cases hp:place i with
   | none=>rw [hp] at h;cases h
   | some q =>
     obtain ⟨off,size⟩:=q
     rw [hp] at h
     dsimp only at h ⊢
     have hl:=concL_len (avCells_ok k1)
     have hcl:=concL_len hc
     rw [Array.length_toList] at hl
     split at h
     · rename_i hcond
       rw [if_neg (by simp;omega)]
       have hs:=setL_ok (avCells_ok k1) hc off
       obtain ⟨rs,h5,h6⟩:=fill_ok e k2 hs h
       refine ⟨rs,h5,?_⟩
       rw [← h6]
       congr 1
       have:=foldl_set off x.cells.toList 0 vs
       rw [Nat.add_zero] at this
       rw [← this,← Array.foldl_toList]
       simp
     · cases h
def boundA (x:Option AV) (top:Nat):Option Nat :=
 match x with
 | some (.int _ n)=>if 0≤n∧n≤top then some n.toNat else none
 | _=>none
def sliceA (ρ:Operand→Option AV) (x:AV) (lo hi mx:Option Operand):Option AV :=
 match x with
 | .sl id off len cap ex es =>
   match mx with
   | none=>(match hi with | none=>if len≤cap then some len else none | some o=>boundA (ρ o) cap).bind fun h=>(match lo with | none=>some 0 | some o=>boundA (ρ o) h).bind fun l =>
     if l=cap∧0<l then none else some (.sl id (off+l*es) (h-l) (cap-l) ex es)
   | some o=>(boundA (ρ o) cap).bind fun m=>(match hi with | none=>none | some o=>boundA (ρ o) m).bind fun h=>(match lo with | none=>some 0 | some o=>boundA (ρ o) h).bind fun l =>
     if l=m∧0<l then none else some (.sl id (off+l*es) (h-l) (m-l) true es)
 | _=>none
section
variable {P:Program} {φ:Phi} {ρ:Operand→Option AV} {ρc:Operand→Value}
theorem bound_ok (hρ:∀ x a,ρ x=some a→conc φ a=some (ρc x)) {o:Operand} {top n:Nat} (h:boundA (ρ o) top=some n) {top':Nat} (ht:top≤top') (code:BoundsCode) (w:World):(Instr.sliceBound (ρc o) top' code).run P w=.ok n w∧n≤top:=by
 unfold boundA at h
 split at h
 · rename_i k m hm
   have e:=hρ o _ hm
   injection e with e
   split at h
   · rename_i hc
     injection h with h
     subst h
     unfold Instr.sliceBound
     rw [← e]
     simp only [asIntOf,Sem.run_bind,Sem.run_pure,Result.andThen_ok]
     rw [if_pos ⟨hc.1,by omega⟩]
     exact ⟨rfl,by omega⟩
   · cases h
 · cases h
theorem add_at (b o n:Nat):(⟨b,o,none⟩:Addr).add n=⟨b,o+n,none⟩:=by unfold Addr.add;split <;> simp_all
theorem bounds_none (hρ:∀ x a,ρ x=some a→conc φ a=some (ρc x)) {len cap c h l:Nat} (hcap:cap≤c) {lo hi:Option Operand}
  (h1:(match hi with | none=>if len≤cap then some len else none | some o=>boundA (ρ o) cap)=some h) (h2:(match lo with | none=>some 0 | some o=>boundA (ρ o) h)=some l) :
  (h≤cap∧l≤h)∧∀ w,(Instr.sliceBounds true len c (lo.map ρc) (hi.map ρc) none).run P w=.ok (l,h,c) w:=by
 cases hi with
 | none =>
   dsimp only at h1
   split at h1
   · injection h1 with h1
     subst h1
     cases lo with
     | none =>
       injection h2 with h2
       subst h2
       exact ⟨⟨by assumption,by omega⟩,fun w=>by simp [Instr.sliceBounds]⟩
     | some o =>
       dsimp only at h2
       exact ⟨⟨by assumption,(bound_ok (P:=P) hρ h2 (Nat.le_refl _) .sliceB default).2⟩,fun w=>by simp [Instr.sliceBounds,(bound_ok (P:=P) hρ h2 (Nat.le_refl _) .sliceB w).1]⟩
   · cases h1
 | some o' =>
   dsimp only at h1
   have b1:=fun w=>bound_ok (P:=P) hρ h1 hcap .sliceAcap w
   cases lo with
   | none =>
     injection h2 with h2
     subst h2
     exact ⟨⟨(b1 default).2,by omega⟩,fun w=>by simp [Instr.sliceBounds,(b1 w).1]⟩
   | some o =>
     dsimp only at h2
     have b2:=fun w=>bound_ok (P:=P) hρ h2 (Nat.le_refl _) .sliceB w
     exact ⟨⟨(b1 default).2,(b2 default).2⟩,fun w=>by simp [Instr.sliceBounds,Sem.run_bind,(b1 w).1,(b2 w).1]⟩
theorem bounds_some (hρ:∀ x a,ρ x=some a→conc φ a=some (ρc x)) {len cap c h l m:Nat} (hcap:cap≤c) {lo hi:Option Operand} {mx:Operand} (h0:boundA (ρ mx) cap=some m)
  (h1:(match hi with | none=>none | some o=>boundA (ρ o) m)=some h) (h2:(match lo with | none=>some 0 | some o=>boundA (ρ o) h)=some l) :
  (m≤cap∧h≤m∧l≤h)∧∀ w,(Instr.sliceBounds true len c (lo.map ρc) (hi.map ρc) (some (ρc mx))).run P w=.ok (l,h,m) w:=by
 have b0:=fun w=>bound_ok (P:=P) hρ h0 hcap .slice3Acap w
 cases hi with
 | none=>cases h1
 | some o' =>
   dsimp only at h1
   have b1:=fun w=>bound_ok (P:=P) hρ h1 (Nat.le_refl _) .slice3B w
   cases lo with
   | none =>
     injection h2 with h2
     subst h2
     exact ⟨⟨(b0 default).2,(b1 default).2,by omega⟩,fun w=>by simp [Instr.sliceBounds,Sem.run_bind,(b0 w).1,(b1 w).1]⟩
   | some o =>
     dsimp only at h2
     have b2:=fun w=>bound_ok (P:=P) hρ h2 (Nat.le_refl _) .slice3C w
     exact ⟨⟨(b0 default).2,(b1 default).2,(b2 default).2⟩,fun w=>by simp [Instr.sliceBounds,Sem.run_bind,(b0 w).1,(b1 w).1,(b2 w).1]⟩
theorem div_sub (x l n:Nat):(x-l*n) / n=x / n-l:=by
 rcases Nat.le_total (l*n) x with hx | hx
 · rw [Nat.mul_comm l n,Nat.sub_mul_div]
 · rw [Nat.sub_eq_zero_of_le hx,Nat.zero_div]
   have:x / n≤l:=Nat.div_le_of_le_mul (by rw [Nat.mul_comm];exact hx)
   omega
theorem slice_ok {T:TT} (hT:TypesOk P T) (hρ:∀ x a,ρ x=some a→conc φ a=some (ρc x)) {t e:TypeId} {ti te:TI} (ht:look T t=some ti) (hk:ti.k=.slice e) (he:look T e=some te)
  {x:Operand} {id off len cap:Nat} {ex:Bool} (hx:ρ x=some (.sl id off len cap ex te.size)) {lo hi mx:Option Operand} {r:AV} (h:sliceA ρ (.sl id off len cap ex te.size) lo hi mx=some r) :
  ∃ v,conc φ r=some v∧∀ w,(Instr.sliceAt t (ρc x) (lo.map ρc) (hi.map ρc) (mx.map ρc)).run P w=.ok v w:=by
 obtain ⟨d,hd,_,hkk⟩:=(hT.at ht).kind
 rw [hk] at hkk
 dsimp only at hkk
 subst hkk
 have hsz:=(hT.at he).size_run
 obtain ⟨L,c,hL,hv,hcap,hc⟩:=conc_sl (hρ x _ hx)
 unfold sliceA at h
 dsimp only at h
 cases mx with
 | none =>
   dsimp only at h
   simp only [Option.bind_eq_some_iff] at h
   obtain ⟨hh,h1,l,h2,h3⟩:=h
   split at h3
   · cases h3
   · rename_i hne
     injection h3 with h3
     subst h3
     obtain ⟨⟨g1,g2⟩,hb⟩:=bounds_none (P:=P) hρ (c:=c) hcap h1 h2
     refine ⟨.slice (some ⟨L.blk,L.base+(off+l*te.size),none⟩) (hh-l) (c-l),?_,fun w=>?_⟩
     · have e2:(if ex=true then cap-l else (L.size-(off+l*te.size)) / te.size)=c-l:=by
        cases ex with
        | true=>simp at hc ⊢;omega
        | false=>simp at hc ⊢;rw [hc,← Nat.sub_sub,div_sub]
       simp only [conc,hL,Option.bind_some]
       rw [e2,if_pos (by omega)]
     · unfold Instr.sliceAt
       rw [Sem.run_bind,run_underlying hd w]
       simp only [Result.andThen_ok]
       unfold Instr.slice
       rw [Sem.run_bind,run_underlying hd w,hv]
       simp only [Result.andThen_ok,Option.map_none]
       rw [Sem.run_bind,hb w]
       simp only [Result.andThen_ok]
       rw [Sem.run_bind,hsz w]
       simp only [Result.andThen_ok,Sem.run_pure]
       by_cases hcl:c=l
       · have h0:l=0:=by omega
         rw [if_pos hcl,h0]
         simp
       · rw [if_neg hcl]
         simp [add_at,Nat.add_assoc]
 | some o =>
   dsimp only at h
   simp only [Option.bind_eq_some_iff] at h
   obtain ⟨m,h0,hh,h1,l,h2,h3⟩:=h
   split at h3
   · cases h3
   · rename_i hne
     injection h3 with h3
     subst h3
     obtain ⟨⟨g0,g1,g2⟩,hb⟩:=bounds_some (P:=P) hρ (len:=len) (c:=c) hcap h0 h1 h2
     refine ⟨.slice (some ⟨L.blk,L.base+(off+l*te.size),none⟩) (hh-l) (m-l),?_,fun w=>?_⟩
     · simp [conc,hL]
     · unfold Instr.sliceAt
       rw [Sem.run_bind,run_underlying hd w]
       simp only [Result.andThen_ok]
       unfold Instr.slice
       rw [Sem.run_bind,run_underlying hd w,hv]
       simp only [Result.andThen_ok,Option.map_some]
       rw [Sem.run_bind,hb w]
       simp only [Result.andThen_ok]
       rw [Sem.run_bind,hsz w]
       simp only [Result.andThen_ok,Sem.run_pure]
       by_cases hcl:m=l
       · have h0:l=0:=by omega
         rw [if_pos hcl,h0]
         simp
       · rw [if_neg hcl]
         simp [add_at,Nat.add_assoc]
theorem field_at {t:TypeId} {ti:TI} (h:TypeOk P t ti) {fs:List FD} (hk:ti.k=.struct fs) {f:Nat} {fd:FD} (hf:fs[f]?=some fd) :
  ∃ (F:Array Field) (g:Field),P.underlying t=some (.struct F)∧F[f]?=some g∧g.type=fd.type∧g.offset=fd.off∧(P.info? fd.type).map (·.size)=some fd.size∧0<fd.size∧∃ d',P.underlying fd.type=some d'∧d'.isRow=fd.agg:=by
 obtain ⟨d,hd,_,hkk⟩:=h.kind
 rw [hk] at hkk
 dsimp only at hkk
 obtain ⟨F,rfl,hm,hs⟩:=hkk
 have h1:(fs.map (fun f=>(f.type,f.off)))[f]?=some (fd.type,fd.off):=by simp [hf]
 rw [← hm] at h1
 simp only [List.getElem?_map,Option.map_eq_some_iff,Array.getElem?_toList] at h1
 obtain ⟨g,hg,he⟩:=h1
 injection he with e1 e2
 exact ⟨F,g,hd,hg,e1,e2,hs fd (List.mem_of_getElem? hf)⟩
theorem size_of {t:TypeId} {n:Nat} (h:(P.info? t).map (·.size)=some n) (w:World):(sizeOf t).run P w=.ok n w:=by
 cases hq:P.info? t with
 | none=>rw [hq] at h;cases h
 | some x=>rw [hq] at h;simp at h;simp [sizeOf,typeInfo,hq,h]
theorem fieldAddr_ok {t:TypeId} {ti:TI} (h:TypeOk P t ti) {fs:List FD} (hk:ti.k=.struct fs) {f:Nat} {fd:FD} (hf:fs[f]?=some fd) (b o:Nat) (w:World) :
  (Instr.fieldAt t (.pointer (some ⟨b,o,none⟩)) f).run P w=.ok (.pointer (some ⟨b,o+fd.off,none⟩)) w:=by
 obtain ⟨F,g,hd,hg,e1,e2,hs,hp,_⟩:=field_at h hk hf
 unfold Instr.fieldAt
 rw [Sem.run_bind,run_underlying hd w]
 simp only [Result.andThen_ok,hg]
 unfold Instr.sureAddr fieldPlace
 simp only [Sem.run_bind,Sem.run_pure,Result.andThen_ok]
 rw [e1,size_of hs w]
 simp only [Result.andThen_ok]
 rw [if_neg (by omega)]
 simp [add_at,e2]
theorem field_ok {t:TypeId} {ti:TI} (h:TypeOk P t ti) {fs:List FD} (hk:ti.k=.struct fs) {f:Nat} {fd:FD} (hf:fs[f]?=some fd) {cs:List AV} {vs:List Value} (hc:concL φ cs=some vs) {r:AV} (hr:partA cs fd.off fd.size fd.agg=some r) :
  ∃ v,conc φ r=some v∧∀ w,(Instr.field t (.agg vs.toArray) f).run P w=.ok v w:=by
 obtain ⟨F,g,hd,hg,e1,e2,hs,hp,hd'⟩:=field_at h hk hf
 obtain ⟨v,h1,h2⟩:=part_run hs hd' hc hr
 refine ⟨v,h1,fun w=>?_⟩
 unfold Instr.field
 rw [Sem.run_bind,run_underlying hd w]
 simp only [Result.andThen_ok,hg,asAgg,Sem.run_bind,Sem.run_pure]
 rw [e1,e2]
 exact h2 w
theorem index_sl {t e:TypeId} {ti:TI} (h:TypeOk P t ti) (hk:ti.k=.slice e) {es:Nat} (he:(P.info? e).map (·.size)=some es) (b o len c:Nat) (k:IntKind) {n:Int} (h0:0≤n∧n<len) (w:World) :
  (Instr.indexAt t (.slice (some ⟨b,o,none⟩) len c) (.int k n)).run P w=.ok (.pointer (some ⟨b,o+n.toNat*es,none⟩)) w:=by
 obtain ⟨d,hd,_,hkk⟩:=h.kind
 rw [hk] at hkk
 dsimp only at hkk
 subst hkk
 unfold Instr.indexAt
 simp only [asIntOf,Sem.run_bind,Sem.run_pure,Result.andThen_ok,run_underlying hd w]
 rw [if_pos h0]
 simp [size_of he w,add_at]
theorem index_arr {t e:TypeId} {ti:TI} (h:TypeOk P t ti) {m es:Nat} {ea:Bool} (hk:ti.k=.array m e es ea) (b o:Nat) (k:IntKind) {n:Int} (h0:0≤n∧n<m) (w:World) :
  (Instr.indexAt t (.pointer (some ⟨b,o,none⟩)) (.int k n)).run P w=.ok (.pointer (some ⟨b,o+n.toNat*es,none⟩)) w:=by
 obtain ⟨d,hd,_,hkk⟩:=h.kind
 rw [hk] at hkk
 dsimp only at hkk
 obtain ⟨rfl,he,_⟩:=hkk
 unfold Instr.indexAt
 simp only [asIntOf,Sem.run_bind,Sem.run_pure,Result.andThen_ok,run_underlying hd w,Instr.sureAddr]
 rw [if_pos h0]
 simp [size_of he w,add_at]
theorem index_ok {t e:TypeId} {ti:TI} (h:TypeOk P t ti) {m es:Nat} {ea:Bool} (hk:ti.k=.array m e es ea) (k:IntKind) {n:Int} (h0:0≤n∧n<m) {cs:List AV} {vs:List Value} (hc:concL φ cs=some vs) {r:AV} (hr:partA cs (n.toNat*es) es ea=some r) :
  ∃ v,conc φ r=some v∧∀ w,(Instr.index t (.agg vs.toArray) (.int k n)).run P w=.ok v w:=by
 obtain ⟨d,hd,_,hkk⟩:=h.kind
 rw [hk] at hkk
 dsimp only at hkk
 obtain ⟨rfl,he,hd'⟩:=hkk
 obtain ⟨v,h1,h2⟩:=part_run he hd' hc hr
 refine ⟨v,h1,fun w=>?_⟩
 unfold Instr.index
 simp only [asIntOf,Sem.run_bind,Sem.run_pure,Result.andThen_ok,run_underlying hd w]
 rw [if_pos h0]
 simp only [Sem.run_bind,size_of he w,Result.andThen_ok]
 exact h2 w
end
end
end Go.Proofs.YtdpojpcoghcieaaGreat.Si
