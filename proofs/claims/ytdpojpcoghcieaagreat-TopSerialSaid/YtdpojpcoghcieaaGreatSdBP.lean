/- A part of the proof of TopSerial: StatH, GradEq. Conditions: none. -/
import Derived.Test.YtdpojpcoghcieaaGreatSdBO
set_option maxHeartbeats 8000000
namespace Go.Proofs.YtdpojpcoghcieaaGreat
open Go.RowKit
structure St where
 P:List Int
 M:List Int
 G:List Int
 rcd:List (List Int × List Int)
def exD (dat:List (List Int × List Int)) (js:List Nat):List (List Int × List Int):=js.map fun j=>(dat[j]?).getD ([],[])
def gsum (ns:List Nat) (q:Nat) (ps:List Int):List (List Int × List Int)→Nat→Int
 | [],_=>0
 | x::l,e=>(gradL ns ps q x.1 x.2)[e]?.getD 0+gsum ns q ps l e
def batG (r:Rn) (P:List Int) (t:Nat):List Int:=compG r.ns r.c.sh P r.p (exD r.dat (viewL r.ds r.n r.c.ba t)) (zeroL r.p)
def serS (r:Rn) (st:List Int):Nat→List Int × List Int
 | 0=>(st,zeroL r.p)
 | t+1=>(nxP r.c.ra r.c.mo r.c.sh (serS r st t).1 (serS r st t).2 (batG r (serS r st t).1 t) r.p,nxM r.c.mo r.c.sh (serS r st t).2 (batG r (serS r st t).1 t) r.p)
def ownX (r:Rn) (st:List Int) (t u e:Nat):Int:=sumZ (fun a=>gsum r.ns r.c.sh (serS r st t).1 (exD r.dat (microL r.ds r.n r.c.ba t u r.c.k a r.c.mi)) e) r.c.mi
def sentV (r:Rn) (st:List Int) (u:Nat) (g:Tg):List Int :=
 let ab:=(rngOf (plBs r.c r.p) r.c.k r.c.s u g).getD (0,0)
 (List.range (ab.2-ab.1)).map fun i=>valS r.c.k (fun v=>ownX r st g.step v (ab.1+i)) (segS r.c.k u g.phase g.round) g.phase g.round
def doS (r:Rn) (st:List Int) (t u:Nat) (s:St) (x:It):St :=
 if x.kind=3 then s
 else if x.kind=4 then { s with G:=if x.a.add then addTo x.a.lo (sentV r st ((u+r.c.k-1) % r.c.k) (tgOf x.a)) s.G (x.a.hi-x.a.lo) else splice s.G x.a.lo (sentV r st ((u+r.c.k-1) % r.c.k) (tgOf x.a)) }
 else if x.kind=1 then { s with G:=compG r.ns r.c.sh s.P r.p (exD r.dat (microL r.ds r.n r.c.ba t u r.c.k x.n r.c.mi)) s.G }
 else if x.kind=2 then s
 else if x.kind=5 then { s with P:=(appPM ⟨r.c.ra,r.c.mo,r.c.sh⟩ s.G ((plBs r.c r.p)[x.n]?.getD (0,0)).1 s.P s.M (((plBs r.c r.p)[x.n]?.getD (0,0)).2-((plBs r.c r.p)[x.n]?.getD (0,0)).1)).1,M:=(appPM ⟨r.c.ra,r.c.mo,r.c.sh⟩ s.G ((plBs r.c r.p)[x.n]?.getD (0,0)).1 s.P s.M (((plBs r.c r.p)[x.n]?.getD (0,0)).2-((plBs r.c r.p)[x.n]?.getD (0,0)).1)).2 }
 else { s with rcd:=s.rcd++[(s.P,s.M)],G:=zeroL r.p }
def doL (r:Rn) (st:List Int) (t u:Nat) (s:St) (l:List It):St:=l.foldl (doS r st t u) s
theorem doL_app (r:Rn) (st:List Int) (t u:Nat) (s:St) (a b:List It):doL r st t u s (a++b)=doL r st t u (doL r st t u s a) b:=List.foldl_append ..
def Tri (r:Rn) (st:List Int) (t u:Nat) (I:St→Prop) (l:List It) (J:St→Prop):Prop :=
 ∀ s,I s→(∀ i x,l[i]?=some x→x.kind=3→subL (doL r st t u s (l.take i)).G x.a.lo x.a.hi=sentV r st u (tgOf x.a))∧J (doL r st t u s l)
theorem Tri.nil {r:Rn} {st:List Int} {t u:Nat} {I J:St→Prop} (h:∀ s,I s→J s):Tri r st t u I [] J:=fun s hs=>⟨fun i x hx=>by simp at hx,h s hs⟩
theorem Tri.app {r:Rn} {st:List Int} {t u:Nat} {I J K:St→Prop} {a b:List It} (h1:Tri r st t u I a J) (h2:Tri r st t u J b K):Tri r st t u I (a++b) K:=fun s hs=>by
 obtain ⟨q1,j1⟩:=h1 s hs
 obtain ⟨q2,j2⟩:=h2 _ j1
 refine ⟨fun i x hx h3=>?_,by rw [doL_app];exact j2⟩
 rcases Nat.lt_or_ge i a.length with hi | hi
 · rw [List.getElem?_append_left hi] at hx
   rw [List.take_append_of_le_length (Nat.le_of_lt hi)]
   exact q1 i x hx h3
 · rw [List.getElem?_append_right hi] at hx
   rw [List.take_append,List.take_of_length_le hi,doL_app]
   exact q2 _ x hx h3
theorem Tri.weak {r:Rn} {st:List Int} {t u:Nat} {I J J':St→Prop} {a:List It} (h:Tri r st t u I a J) (hJ:∀ s,J s→J' s):Tri r st t u I a J':=fun s hs=>⟨(h s hs).1,hJ _ (h s hs).2⟩
theorem Tri.pre {r:Rn} {st:List Int} {t u:Nat} {I I' J:St→Prop} {a:List It} (h:Tri r st t u I a J) (hI:∀ s,I' s→I s):Tri r st t u I' a J:=fun s hs=>h s (hI s hs)
theorem Tri.one {r:Rn} {st:List Int} {t u:Nat} {I J:St→Prop} {x:It} (hk:x.kind≠3) (h:∀ s,I s→J (doS r st t u s x)):Tri r st t u I [x] J:=fun s hs=>by
 refine ⟨fun i y hy h3=>?_,h s hs⟩
 cases i with
 | zero=>simp at hy;subst hy;exact absurd h3 hk
 | succ i=>simp at hy
theorem Tri.send {r:Rn} {st:List Int} {t u:Nat} {I:St→Prop} {x:It} (hk:x.kind=3) (h:∀ s,I s→subL s.G x.a.lo x.a.hi=sentV r st u (tgOf x.a)):Tri r st t u I [x] I:=fun s hs=>by
 refine ⟨fun i y hy h3=>?_,?_⟩
 · cases i with
   | zero=>simp at hy;subst hy;exact h s hs
   | succ i=>simp at hy
 · show I (doS r st t u s x)
   unfold doS
   rw [if_pos hk]
   exact hs
theorem Tri.range {r:Rn} {st:List Int} {t u:Nat} (I:Nat→St→Prop) (F:Nat→List It):∀ n,(∀ i,i<n→Tri r st t u (I i) (F i) (I (i+1)))→Tri r st t u (I 0) ((List.range n).flatMap F) (I n)
 | 0,_=>Tri.nil fun _ h=>h
 | n+1,h=>by
   rw [List.range_succ,List.flatMap_append]
   refine Tri.app (Tri.range I F n fun i hi=>h i (by omega)) ?_
   simp only [List.flatMap_cons,List.flatMap_nil,List.append_nil]
   exact h n (by omega)
theorem Tri.map {r:Rn} {st:List Int} {t u:Nat} (I:Nat→St→Prop) (F:Nat→It) (n:Nat) (h:∀ i,i<n→Tri r st t u (I i) [F i] (I (i+1))):Tri r st t u (I 0) ((List.range n).map F) (I n):=by
 have e:(List.range n).map F=(List.range n).flatMap fun i=>[F i]:=by induction (List.range n) with
  | nil=>rfl
  | cons a l ih=>rw [List.map_cons,List.flatMap_cons,ih];rfl
 rw [e]
 exact Tri.range I _ n h
theorem gsum_app (ns:List Nat) (q:Nat) (ps:List Int) (e:Nat):∀ a b,gsum ns q ps (a++b) e=gsum ns q ps a e+gsum ns q ps b e
 | [],b=>by simp [gsum]
 | x::a,b=>by rw [List.cons_append,gsum,gsum,gsum_app ns q ps e a b];omega
theorem comp_getD {ns:List Nat} {q p:Nat} {ps:List Int} (Y:Nat→Int):∀ (l:List (List Int × List Int)) (G:List Int),G.length=p→(∀ e,e<p→G[e]?.getD 0=wrap64 (Y e))→∀ e,e<p→(compG ns q ps p l G)[e]?.getD 0=wrap64 (Y e+gsum ns q ps l e)
 | [],G,_,h,e,he=>by rw [compG,h e he,gsum,Int.add_zero]
 | x::l,G,hG,h,e,he=>by
   rw [compG,comp_getD (fun e=>Y e+(gradL ns ps q x.1 x.2)[e]?.getD 0) l _ (by rw [addTo_len];exact hG) (fun e he=>?_) e he]
   · rw [gsum]
     congr 1
     omega
   · rw [addTo_getD _ _ _ _ (by omega),if_pos (by omega),Nat.sub_zero,h e he,w64_l]
theorem pieces_join {α:Type} (l:List α) {k:Nat} (hk:1≤k):(List.range k).flatMap (fun i=>pieceL l i k)=l:=by
 have key:∀ n,n≤k→(List.range n).flatMap (fun i=>pieceL l i k)=l.take (bnd l.length k n):=by
  intro n
  induction n with
  | zero=>intro _;simp [bnd]
  | succ n ih =>
    intro hn
    rw [List.range_succ,List.flatMap_append,ih (by omega)]
    simp only [List.flatMap_cons,List.flatMap_nil,List.append_nil]
    have h1:=bnd_mono l.length k n
    unfold pieceL subL
    generalize bnd l.length k n=a at *
    generalize bnd l.length k (n+1)=b at *
    have:l.take b=(l.take a)++(l.drop a).take (b-a):=by
     have:=List.take_append_drop a (l.take b)
     rw [List.take_take,Nat.min_eq_left h1,List.drop_take] at this
     exact this.symm
    exact this.symm
 have h:=key k (Nat.le_refl _)
 rw [bnd_end _ _ hk,List.take_length] at h
 exact h
theorem gsum_flat (ns:List Nat) (q:Nat) (ps:List Int) (e:Nat) (dat:List (List Int × List Int)) (F:Nat→List Nat):∀ n,gsum ns q ps (exD dat ((List.range n).flatMap F)) e=sumZ (fun i=>gsum ns q ps (exD dat (F i)) e) n
 | 0=>rfl
 | n+1=>by
   rw [List.range_succ,List.flatMap_append]
   unfold exD
   rw [List.map_append,gsum_app]
   show gsum ns q ps (exD dat ((List.range n).flatMap F)) e+_=_
   rw [gsum_flat ns q ps e dat F n,sumZ]
   simp [exD]
theorem own_all {r:Rn} (hc:r.c.Ok) (st:List Int) (t e:Nat):sumZ (fun u=>ownX r st t u e) r.c.k=gsum r.ns r.c.sh (serS r st t).1 (exD r.dat (viewL r.ds r.n r.c.ba t)) e:=by
 have h1:∀ u,ownX r st t u e=gsum r.ns r.c.sh (serS r st t).1 (exD r.dat (pieceL (viewL r.ds r.n r.c.ba t) u r.c.k)) e:=fun u=>by
  unfold ownX microL
  rw [← gsum_flat r.ns r.c.sh (serS r st t).1 e r.dat (fun a=>pieceL (pieceL (viewL r.ds r.n r.c.ba t) u r.c.k) a r.c.mi),pieces_join _ hc.mi.1]
 rw [sumZ_congr (fun u _=>h1 u),← gsum_flat r.ns r.c.sh (serS r st t).1 e r.dat (fun u=>pieceL (viewL r.ds r.n r.c.ba t) u r.c.k),pieces_join _ hc.k.1]
theorem bat_getD {r:Rn} (hc:r.c.Ok) (st:List Int) (t:Nat) {e:Nat} (he:e<r.p):(batG r (serS r st t).1 t)[e]?.getD 0=wrap64 (sumZ (fun u=>ownX r st t u e) r.c.k):=by
 unfold batG
 rw [comp_getD (fun _=>0) _ _ (by simp [zeroL]) (fun e _=>by rw [zero_getD];exact (w64_id (a:=0) (by omega)).symm) e he,own_all hc,Int.zero_add]
theorem appPM_getD (r:Ru) (gs:List Int) (x:Nat) (ps ms:List Int):∀ k,x+k≤ps.length→x+k≤ms.length→∀ j,(appPM r gs x ps ms k).1[j]?.getD 0=(if x≤j∧j<x+k then updP r (ps[j]?.getD 0) (updM r (ms[j]?.getD 0) (gs[j]?.getD 0)) else ps[j]?.getD 0) ∧
  (appPM r gs x ps ms k).2[j]?.getD 0=if x≤j∧j<x+k then updM r (ms[j]?.getD 0) (gs[j]?.getD 0) else ms[j]?.getD 0
 | 0,_,_,j=>by rw [if_neg (by omega),if_neg (by omega)];exact ⟨rfl,rfl⟩
 | k+1,h1,h2,j=>by
   obtain ⟨i1,i2⟩:=appPM_getD r gs x ps ms k (by omega) (by omega) j
   have hl:=appPM_len r gs x ps ms k
   simp only [appPM]
   rw [set_getD _ _ _ _ (by rw [hl.1];omega),set_getD _ _ _ _ (by rw [hl.2];omega),i1,i2]
   by_cases e:j=x+k
   · subst e
     rw [if_pos rfl,if_pos rfl,if_pos (by omega),if_pos (by omega)]
     exact ⟨rfl,rfl⟩
   · rw [if_neg e,if_neg e]
     by_cases e2:x≤j∧j<x+k
     · rw [if_pos e2,if_pos e2,if_pos (by omega),if_pos (by omega)]
       exact ⟨rfl,rfl⟩
     · rw [if_neg e2,if_neg e2,if_neg (by omega),if_neg (by omega)]
       exact ⟨rfl,rfl⟩
theorem serS_len (r:Rn) {st:List Int} (h:st.length=r.p):∀ t,(serS r st t).1.length=r.p∧(serS r st t).2.length=r.p
 | 0=>⟨h,by simp [serS,zeroL]⟩
 | t+1=>by simp [serS,nxP,nxM]
theorem ser_getD {r:Rn} (hc:r.c.Ok) (st:List Int) (t:Nat) {e:Nat} (he:e<r.p) :
  (serS r st (t+1)).2[e]?.getD 0=updM ⟨r.c.ra,r.c.mo,r.c.sh⟩ ((serS r st t).2[e]?.getD 0) (wrap64 (sumZ (fun u=>ownX r st t u e) r.c.k)) ∧
  (serS r st (t+1)).1[e]?.getD 0=updP ⟨r.c.ra,r.c.mo,r.c.sh⟩ ((serS r st t).1[e]?.getD 0) (updM ⟨r.c.ra,r.c.mo,r.c.sh⟩ ((serS r st t).2[e]?.getD 0) (wrap64 (sumZ (fun u=>ownX r st t u e) r.c.k))):=by
 have hm:∀ m g:Int,updM ⟨r.c.ra,r.c.mo,r.c.sh⟩ m g=wrap64 (mulF r.c.mo m r.c.sh+g):=fun m g=>by
  unfold updM sumW
  simp only [List.foldl_cons,List.foldl_nil]
  rw [w64_l,Int.zero_add]
 simp only [serS,nxP,nxM]
 rw [map_getD _ _ _ he,map_getD _ _ _ he,bat_getD hc st t he,hm]
 exact ⟨rfl,rfl⟩
theorem relTo_getD (xs:List Int):∀ k,k≤xs.length→∀ j,(relTo xs k)[j]?.getD 0=if j<k then max (xs[j]?.getD 0) 0 else xs[j]?.getD 0
 | 0,_,j=>by rw [if_neg (by omega)];rfl
 | k+1,h,j=>by
   rw [relTo,set_getD _ _ _ _ (by rw [relTo_len];omega),relTo_getD xs k (by omega) j]
   by_cases e:j=k
   · subst e;rw [if_pos rfl,if_pos (by omega)]
   · rw [if_neg e]
     by_cases e2:j<k
     · rw [if_pos e2,if_pos (by omega)]
     · rw [if_neg e2,if_neg (by omega)]
theorem scaleTo_getD (xs:List Int) (a:Int) (q:Nat):∀ k,k≤xs.length→∀ j,(scaleTo xs a q k)[j]?.getD 0=if j<k then mulF (xs[j]?.getD 0) a q else xs[j]?.getD 0
 | 0,_,j=>by rw [if_neg (by omega)];rfl
 | k+1,h,j=>by
   rw [scaleTo,set_getD _ _ _ _ (by rw [scaleTo_len];omega),scaleTo_getD xs a q k (by omega) j]
   by_cases e:j=k
   · subst e;rw [if_pos rfl,if_pos (by omega)]
   · rw [if_neg e]
     by_cases e2:j<k
     · rw [if_pos e2,if_pos (by omega)]
     · rw [if_neg e2,if_neg (by omega)]
theorem gateTo_getD (vs xs:List Int):∀ k,k≤xs.length→∀ j,(gateTo vs xs k)[j]?.getD 0=if j<k then gateZ (vs[j]?.getD 0) (xs[j]?.getD 0) else xs[j]?.getD 0
 | 0,_,j=>by rw [if_neg (by omega)];rfl
 | k+1,h,j=>by
   rw [gateTo,set_getD _ _ _ _ (by rw [gateTo_len];omega),gateTo_getD vs xs k (by omega) j]
   by_cases e:j=k
   · subst e;rw [if_pos rfl,if_pos (show j<j+1 by omega)];rfl
   · rw [if_neg e]
     by_cases e2:j<k
     · rw [if_pos e2,if_pos (by omega)]
     · rw [if_neg e2,if_neg (by omega)]
theorem subTo_getD (ys xs:List Int):∀ k,k≤xs.length→∀ j,(subTo ys xs k)[j]?.getD 0=if j<k then wrap64 (xs[j]?.getD 0-ys[j]?.getD 0) else xs[j]?.getD 0
 | 0,_,j=>by rw [if_neg (by omega)];rfl
 | k+1,h,j=>by
   rw [subTo,set_getD _ _ _ _ (by rw [subTo_len];omega),subTo_getD ys xs k (by omega) j]
   by_cases e:j=k
   · subst e;rw [if_pos rfl,if_pos (by omega)]
   · rw [if_neg e]
     by_cases e2:j<k
     · rw [if_pos e2,if_pos (by omega)]
     · rw [if_neg e2,if_neg (by omega)]
theorem row_wAt {ns:List Nat} {ps:List Int} {k a b r c:Nat} (ha:ns[k]?=some a) (hb:ns[k+1]?=some b) (hr:r<b) (hc:c<a):(rowL (subL ps (offN ns k) (midN ns k)) a r)[c]?.getD 0=wAt ns ps k r c:=by
 have hin:r*a+a≤b*a:=by have:=Nat.mul_le_mul_right a (show r+1≤b by omega);rw [Nat.succ_mul] at this;exact this
 have hm:midN ns k=offN ns k+b*a:=by rw [midN,ha,hb];rfl
 unfold rowL wAt
 rw [subL_getD _ _ _ _ (by omega),subL_getD _ _ _ _ (by omega),ha,Nat.add_assoc]
 rfl
theorem dot_sum {ns:List Nat} {ps xs:List Int} {k a b r:Nat} (q:Nat) (hp:In64 ps) (ha:ns[k]?=some a) (hb:ns[k+1]?=some b) (hr:r<b):∀ c,c≤a→rsumTo ns ps q k r xs c=wrap64 (dotTo (rowL (subL ps (offN ns k) (midN ns k)) a r) xs q c+bAt ns ps k r)
 | 0,_=>by rw [rsumTo,dotTo,Int.zero_add];exact (w64_id (getD_in hp _)).symm
 | c+1,h=>by
   rw [rsumTo,dotTo,dot_sum q hp ha hb hr c (by omega),row_wAt ha hb hr (by omega),w64_l,w64_l]
   congr 1
   omega
theorem lin_at {ns:List Nat} {ps xs:List Int} {k a b r:Nat} (q:Nat) (hp:In64 ps) (ha:ns[k]?=some a) (hb:ns[k+1]?=some b) (hr:r<b):(linL ns ps q k xs)[r]?.getD 0=rsumTo ns ps q k r xs a:=by
 have hm:offN ns (k+1)=midN ns k+b:=by rw [offN_succ,hb];rfl
 rw [dot_sum q hp ha hb hr a (Nat.le_refl _)]
 unfold linL
 rw [ha,hb]
 dsimp only [Option.getD_some]
 rw [addTo_getD _ _ _ _ (by rw [mvL_len];omega),if_pos (by omega),Nat.sub_zero,subL_getD _ _ _ _ (by omega)]
 unfold mvL bAt
 rw [map_getD _ _ _ hr]
theorem lay_eq {ns:List Nat} {ps xs:List Int} (q:Nat) (hn:NsOk ns) (hp:In64 ps) (hx:xs.length=ns[0]?.getD 0):∀ k,k≤ns.length-1→layL ns ps q xs k=rlay ns ps q xs k
 | 0,_=>rfl
 | k+1,h=>by
   obtain ⟨a,b,ha,hb,_⟩:=hn.at_ (k:=k) (by omega)
   have ih:=lay_eq q hn hp hx k (by omega)
   refine ext_getD (by rw [layL_len ns ps q xs hx,rlay_len hx]) fun r hr=>?_
   rw [layL_len ns ps q xs hx,hb] at hr
   have hr:r<b:=hr
   rw [rlay,hb]
   show _=((List.range b).map _)[r]?.getD 0
   rw [map_getD _ _ _ hr,layL,ih]
   unfold rz
   rw [ha]
   dsimp only [Option.getD_some]
   by_cases e:k+1<ns.length-1
   · rw [if_pos e,if_pos e,hb]
     show (relTo _ b)[r]?.getD 0=_
     rw [relTo_getD _ _ (by rw [linL_len,hb];exact Nat.le_refl _),if_pos hr,lin_at q hp ha hb hr]
     unfold gateZ
     split <;> omega
   · rw [if_neg e,if_neg e]
     exact lin_at q hp ha hb hr
theorem back_at {ns:List Nat} {ps ys:List Int} {k a b c:Nat} (q:Nat) (ha:ns[k]?=some a) (hb:ns[k+1]?=some b) (hc:c<a) (hps:midN ns k≤ps.length):∀ r,r≤b→(backTo (subL ps (offN ns k) (midN ns k)) ys a q r)[c]?.getD 0=rcol ns ps q k c ys r
 | 0,_=>by rw [backTo,zero_getD];rfl
 | r+1,h=>by
   have hm:midN ns k=offN ns k+b*a:=by rw [midN,ha,hb];rfl
   have hl:(rowL (subL ps (offN ns k) (midN ns k)) a r).length=a:=rowL_len (r:=b) (by rw [subL_len (by omega) hps];omega) (by omega)
   rw [backTo,rcol,addTo_getD _ _ _ _ (by rw [backTo_len];omega),if_pos (by omega),Nat.sub_zero,scaleTo_getD _ _ _ _ (by rw [hl];exact Nat.le_refl _),if_pos hc,back_at q ha hb hc hps r (by omega),row_wAt ha hb (by omega) hc]
theorem outIn_getD (ys xs:List Int) (q c k:Nat) (l:List Int):∀ j,k*c+j≤l.length→∀ i,(outIn ys xs q c k l j)[i]?.getD 0=if k*c≤i∧i<k*c+j then mulF (ys[k]?.getD 0) (xs[i-k*c]?.getD 0) q else l[i]?.getD 0
 | 0,_,i=>by rw [if_neg (by omega)];rfl
 | j+1,h,i=>by
   rw [outIn,set_getD _ _ _ _ (by rw [outIn_len];omega),outIn_getD ys xs q c k l j (by omega) i]
   by_cases e:i=k*c+j
   · subst e
     rw [if_pos rfl,if_pos (by omega),Nat.add_sub_cancel_left]
   · rw [if_neg e]
     by_cases e2:k*c≤i∧i<k*c+j
     · rw [if_pos e2,if_pos (by omega)]
     · rw [if_neg e2,if_neg (by omega)]
theorem outTo_grid (ys xs:List Int) (q c n:Nat):∀ k,k*c≤n→(outTo ys xs q c n k).take (k*c)=(List.range k).flatMap fun r=>(List.range c).map fun j=>mulF (ys[r]?.getD 0) (xs[j]?.getD 0) q
 | 0,_=>by simp
 | k+1,h=>by
   have h1:(k+1)*c=k*c+c:=Nat.succ_mul k c
   have ih:=outTo_grid ys xs q c n k (by omega)
   rw [List.range_succ,List.flatMap_append,← ih]
   have hl:((outTo ys xs q c n k).take (k*c)).length=k*c:=by rw [List.length_take,outTo_len];omega
   refine ext_getD (by rw [List.length_append,hl,List.length_take,outTo_len];simp;omega) fun i hi=>?_
   rw [List.length_take,outTo_len] at hi
   rw [List.getElem?_take_of_lt (by omega),outTo,outIn_getD _ _ _ _ _ _ _ (by rw [outTo_len];omega)]
   rcases Nat.lt_or_ge i (k*c) with h2 | h2
   · rw [if_neg (by omega),List.getElem?_append_left (by rw [hl];exact h2),List.getElem?_take_of_lt h2]
   · rw [if_pos (by omega),List.getElem?_append_right (by rw [hl];exact h2),hl]
     simp only [List.flatMap_cons,List.flatMap_nil,List.append_nil]
     rw [map_getD _ _ _ (by omega)]
theorem out_places {ns:List Nat} {k a b:Nat} (q:Nat) (f g:Nat→List Int) (ha:ns[k]?=some a) (hb:ns[k+1]?=some b) (hg:(g (k+1)).length=b) :
  outTo (g (k+1)) (f k) q a (midN ns k-offN ns k) b++g (k+1)=(rowsP k a b++biasP k b).map (rgval f g q):=by
 have hm:midN ns k-offN ns k=b*a:=by rw [midN,ha,hb];exact Nat.add_sub_cancel_left _ _
 rw [hm,List.map_append]
 congr 1
 · have h:=outTo_grid (g (k+1)) (f k) q a (b*a) b (Nat.le_refl _)
   rw [List.take_of_length_le (by rw [outTo_len];exact Nat.le_refl _)] at h
   rw [h]
   unfold rowsP
   rw [List.map_flatMap]
   congr 1
   funext r
   rw [List.map_map]
   refine List.map_congr_left fun c _=>?_
   show _=rgval f g q ⟨(k:Int),(r:Int),(c:Int)⟩
   unfold rgval
   dsimp only
   rw [if_neg (by omega),Int.toNat_natCast,Int.toNat_natCast,Int.toNat_natCast]
 · unfold biasP
   rw [List.map_map]
   refine ext_getD (by simp [hg]) fun i hi=>?_
   rw [map_getD _ _ _ (by omega)]
   show _=rgval f g q ⟨(k:Int),(i:Int),-1⟩
   unfold rgval
   dsimp only
   rw [if_pos (by omega),Int.toNat_natCast,Int.toNat_natCast]
theorem gOut_eq {ns:List Nat} {q k a b:Nat} {lay:Nat→List Int} {d out:List Int} (ha:ns[k]?=some a) (hb:ns[k+1]?=some b) (hd:d.length=b) (ho:offN ns (k+1)≤out.length) :
  gOut ns q lay k d out=out.take (offN ns k)++((outTo d (lay k) q a (midN ns k-offN ns k) b++d)++out.drop (offN ns (k+1))):=by
 have hm:midN ns k=offN ns k+b*a:=by rw [midN,ha,hb];rfl
 have hm2:offN ns (k+1)=midN ns k+b:=by rw [offN_succ,hb];rfl
 have hl1:(outTo d (lay k) q a (midN ns k-offN ns k) b).length=midN ns k-offN ns k:=outTo_len _ _ _ _ _ _
 have hl2:(out.take (offN ns k)).length=offN ns k:=by rw [List.length_take];omega
 unfold gOut splice
 rw [ha,hb]
 dsimp only [Option.getD_some]
 generalize outTo d (lay k) q a (midN ns k-offN ns k) b=O at *
 have e1:(out.take (offN ns k)++(O++out.drop (offN ns k+O.length))).take (midN ns k)=out.take (offN ns k)++O:=by
  rw [← List.append_assoc,List.take_append_of_le_length (by rw [List.length_append];omega),List.take_of_length_le (by rw [List.length_append];omega)]
 have e2:(out.take (offN ns k)++(O++out.drop (offN ns k+O.length))).drop (midN ns k+d.length)=out.drop (offN ns (k+1)):=by
  rw [← List.append_assoc,List.drop_append,List.drop_eq_nil_of_le (by rw [List.length_append];omega),List.nil_append,List.drop_drop,List.length_append]
  congr 1
  omega
 rw [e1,e2]
 simp only [List.append_assoc]
theorem gradF_eq {ns:List Nat} {ps ys:List Int} {q:Nat} (hn:NsOk ns) (hl:ps.length=offN ns (ns.length-1)) (f:Nat→List Int) (hf:∀ k,k≤ns.length-1→(f k).length=ns[k]?.getD 0) (hys:ys.length=ns[ns.length-1]?.getD 0) (n1:Nat) (hn1:n1=ns.length-1) :
  ∀ k,k≤n1→0<k→∀ out,offN ns k≤out.length→gradF ns ps q f k (errG ns ps q n1 f ys k) out=(plcN ns k).map (rgval f (errG ns ps q n1 f ys) q)++out.drop (offN ns k)
 | 0,_,h,_,_=>absurd h (Nat.lt_irrefl _)
 | k+1,hk,_,out,ho=>by
   obtain ⟨a,b,ha,hb,_,_,e1,e2,_⟩:=hn.at_ (k:=k) (by omega)
   have hel:(errG ns ps q n1 f ys (k+1)).length=b:=by
    unfold errG
    rw [if_neg (by omega),rerr_len (by rw [hys,hn1]),show n1-(n1-(k+1))=k+1 by omega,hb]
    rfl
   have hO:=out_places q f (errG ns ps q n1 f ys) ha hb hel
   have hG:=gOut_eq (q:=q) (lay:=f) ha hb hel ho
   rw [hO] at hG
   have hP:plcN ns (k+1)=plcN ns k++(rowsP k a b++biasP k b):=by rw [plcN,ha,hb,List.append_assoc];rfl
   rw [gradF,hP,List.map_append,List.append_assoc]
   by_cases h0:k=0
   · subst h0
     rw [if_pos rfl,hG]
     rfl
   · rw [if_neg h0]
     have hD:gD ns ps q f k (errG ns ps q n1 f ys (k+1))=errG ns ps q n1 f ys k:=by
      obtain ⟨d,hd⟩:∃ d,n1-k=d+1:=⟨n1-k-1,by omega⟩
      have hd2:n1-(k+1)=d:=by omega
      have hd3:n1-(d+1)=k:=by omega
      have hd4:n1-d=k+1:=by omega
      unfold errG
      rw [if_neg (by omega),if_neg h0,hd,hd2,rerr,hd3,hd4,ha,hb]
      unfold gD
      rw [ha,hb]
      dsimp only [Option.getD_some]
      have hmo:=offN_mono ns (show k+1≤ns.length-1 by omega)
      refine ext_getD (by rw [gateTo_len,backTo_len];simp) fun c hc=>?_
      rw [gateTo_len,backTo_len] at hc
      rw [gateTo_getD _ _ _ (by rw [backTo_len];exact Nat.le_refl _),if_pos hc,map_getD _ _ _ hc,back_at q ha hb hc (by omega) b (Nat.le_refl _)]
     rw [hD]
     have hlen:(gOut ns q f k (errG ns ps q n1 f ys (k+1)) out).length=out.length:=gOut_len rfl (by rw [hel];omega) (by omega)
     rw [gradF_eq hn hl f hf hys n1 hn1 k (by omega) (by omega) _ (by omega)]
     congr 1
     rw [hG,List.drop_append,List.drop_eq_nil_of_le (by rw [List.length_take];omega),List.nil_append,List.length_take,Nat.min_eq_left (by omega),Nat.sub_self,List.drop_zero]
theorem rgradL_congr {ns:List Nat} {f f' g:Nat→List Int} {q n1:Nat} (h:∀ k,k<n1→f k=f' k):(plcN ns n1).map (rgval f g q)=(plcN ns n1).map (rgval f' g q) :=
 List.map_congr_left fun p hp=>by
  obtain ⟨k,r,hk,e1,_⟩:=plcN_ok ns n1 p hp
  unfold rgval
  rw [e1,Int.toNat_natCast,h k hk]
theorem rerr_congr {ns:List Nat} {ps ys:List Int} {q n1:Nat} {f f':Nat→List Int} (h:∀ k,k≤n1→f k=f' k):∀ d,rerr ns ps q n1 f ys d=rerr ns ps q n1 f' ys d
 | 0=>by rw [rerr,rerr,h n1 (Nat.le_refl _)]
 | d+1=>by rw [rerr,rerr,h _ (by omega),rerr_congr h d]
theorem grad_eq {ns:List Nat} {ps xs ys:List Int} (q:Nat) (hn:NsOk ns) (hp:In64 ps) (hl:ps.length=offN ns (ns.length-1)) (hx:xs.length=ns[0]?.getD 0) (hy:ys.length=ns[ns.length-1]?.getD 0):gradL ns ps q xs ys=rgradL ns ps q xs ys:=by
 have h2:=hn.len.1
 have hf:=lay_eq (xs:=xs) q hn hp hx
 unfold gradL rgradL
 obtain ⟨n1,hn1⟩:∃ n1,n1=ns.length-1:=⟨_,rfl⟩
 have hlay:=layL_len ns ps q xs hx
 rw [← hn1] at hf hy hl ⊢
 have h0:subTo ys (layL ns ps q xs n1) (ns[n1]?.getD 0)=errG ns ps q n1 (layL ns ps q xs) ys n1:=by
  unfold errG
  rw [if_neg (by omega),Nat.sub_self,rerr,hy]
  refine ext_getD (by rw [subTo_len,hlay];simp) fun i hi=>?_
  rw [subTo_len,hlay] at hi
  rw [subTo_getD _ _ _ (by rw [hlay];exact Nat.le_refl _),if_pos hi,map_getD _ _ _ hi]
 rw [h0,gradF_eq hn (by rw [hl,hn1]) (layL ns ps q xs) (fun k _=>hlay k) (by rw [hy,hn1]) n1 hn1 n1 (Nat.le_refl _) (by omega) _ (by simp [zeroL])]
 rw [List.drop_eq_nil_of_le (by simp [zeroL]),List.append_nil]
 have e:errG ns ps q n1 (layL ns ps q xs) ys=errG ns ps q n1 (rlay ns ps q xs) ys:=by
  funext j
  unfold errG
  rw [rerr_congr hf]
 rw [e]
 exact rgradL_congr fun k hk=>hf k (by omega)
end Go.Proofs.YtdpojpcoghcieaaGreat
