/- A part of the proof of TopBound: SiQuick, SiVal, SiHeap, SiType, SiPure. Conditions: none. -/
import Derived.RangeFuncNested
import Derived.WalkKit
import Derived.Deep.MidRow
import Derived.Lib.SliceRun
import Derived.Test.YtdpojpcoghcieaaGreatProg
set_option maxHeartbeats 8000000
namespace Go.Proofs.YtdpojpcoghcieaaGreat.Si
noncomputable def atQ {α:Type} (l:List α):Nat→Option α:=List.rec (motive:=fun _=>Nat→Option α) (fun _=>none) (fun a _ ih i=>Nat.rec (motive:=fun _=>Option α) (some a) (fun n _=>ih n) i) l
noncomputable def getQ {α:Type} (d:α) (l:List α):Nat→α:=List.rec (motive:=fun _=>Nat→α) (fun _=>d) (fun a _ ih i=>Nat.rec (motive:=fun _=>α) a (fun n _=>ih n) i) l
noncomputable def setQ {α:Type} (l:List α):Nat→α→List α:=List.rec (motive:=fun _=>Nat→α→List α) (fun _ _=>[]) (fun a r ih i v=>Nat.rec (motive:=fun _=>List α) (v::r) (fun n _=>a::ih n v) i) l
theorem atQ_eq {α:Type}:∀ (l:List α) (i:Nat),atQ l i=l[i]?
 | [],_=>rfl
 | _::_,0=>rfl
 | a::l,i+1=>(show atQ (a::l) (i+1)=atQ l i from rfl).trans ((atQ_eq l i).trans (by simp))
theorem getQ_eq {α:Type} (d:α):∀ (l:List α) (i:Nat),getQ d l i=l.getD i d
 | [],_=>rfl
 | _::_,0=>rfl
 | a::l,i+1=>(show getQ d (a::l) (i+1)=getQ d l i from rfl).trans ((getQ_eq d l i).trans (by simp))
theorem setQ_eq {α:Type}:∀ (l:List α) (i:Nat) (v:α),setQ l i v=l.set i v
 | [],_,_=>rfl
 | _::_,0,_=>rfl
 | a::l,i+1,v=>by
   rw [List.set_cons_succ,← setQ_eq l i v]
   rfl
noncomputable section
inductive AV where
 | bool (b:Bool)
 | int (k:IntKind) (n:Int)
 | pnil
 | ptr (id off:Nat)
 | snil
 | sl (id off len cap:Nat) (ex:Bool) (es:Nat)
 | fnil
 | fn (f:Fn) (first cap:List AV)
 | yld (id:Nat)
 | inil
 | ifc (t:TypeId) (v:AV)
 | agg (l:List AV)
 | tup (l:List AV)
 deriving Inhabited
structure Loc where
 blk:Nat
 base:Nat
 size:Nat
abbrev Phi:=Nat→Option Loc
def conc (φ:Phi):AV→Option Value
 | .bool b=>some (.bool b)
 | .int k n=>some (.int k n)
 | .pnil=>some (.pointer none)
 | .ptr id off=>(φ id).map fun L=>.pointer (some ⟨L.blk,L.base+off,none⟩)
 | .snil=>some (.slice none 0 0)
 | .sl id off len cap ex es=>(φ id).bind fun L =>
   if cap≤(if ex then cap else (L.size-off) / es) then some (.slice (some ⟨L.blk,L.base+off,none⟩) len (if ex then cap else (L.size-off) / es)) else none
 | .fnil=>some .nilFunc
 | .fn f first cap=>(concL φ first).bind fun a=>(concL φ cap).map fun b=>.func f a.toArray b.toArray
 | .yld id=>(φ id).map fun L=>.func (.yield L.blk) #[] #[]
 | .inil=>some .nilIface
 | .ifc t v=>(conc φ v).map fun x=>.iface t x
 | .agg l=>(concL φ l).map fun a=>.agg a.toArray
 | .tup l=>(concL φ l).map fun a=>.tuple a.toArray
 where
 concL (φ:Phi):List AV→Option (List Value)
  | []=>some []
  | v::r=>(conc φ v).bind fun x=>(concL φ r).map fun l=>x::l
abbrev concL:=conc.concL
theorem concL_nil (φ:Phi):concL φ []=some []:=rfl
theorem concL_cons (φ:Phi) (v:AV) (r:List AV):concL φ (v::r)=(conc φ v).bind fun x=>(concL φ r).map fun l=>x::l:=rfl
def Phi.le (φ φ':Phi):Prop:=∀ id L,φ id=some L→φ' id=some L
theorem Phi.le_refl (φ:Phi):φ.le φ:=fun _ _ h=>h
theorem Phi.le_trans {a b c:Phi} (h:a.le b) (k:b.le c):a.le c:=fun i L e=>k i L (h i L e)
mutual
theorem conc_mono {φ φ':Phi} (h:φ.le φ'):∀ (a:AV) (v:Value),conc φ a=some v→conc φ' a=some v
 | .bool _,_,e=>e
 | .int _ _,_,e=>e
 | .pnil,_,e=>e
 | .snil,_,e=>e
 | .fnil,_,e=>e
 | .inil,_,e=>e
 | .ptr id off,v,e=>by
   simp only [conc,Option.map_eq_some_iff] at e ⊢
   obtain ⟨L,h1,h2⟩:=e
   exact ⟨L,h _ _ h1,h2⟩
 | .sl id off len cap ex es,v,e=>by
   simp only [conc,Option.bind_eq_some_iff] at e ⊢
   obtain ⟨L,h1,h2⟩:=e
   exact ⟨L,h _ _ h1,h2⟩
 | .yld id,v,e=>by
   simp only [conc,Option.map_eq_some_iff] at e ⊢
   obtain ⟨L,h1,h2⟩:=e
   exact ⟨L,h _ _ h1,h2⟩
 | .ifc t a,v,e=>by
   simp only [conc,Option.map_eq_some_iff] at e ⊢
   obtain ⟨x,h1,h2⟩:=e
   exact ⟨x,conc_mono h a x h1,h2⟩
 | .agg l,v,e=>by
   simp only [conc,Option.map_eq_some_iff] at e ⊢
   obtain ⟨x,h1,h2⟩:=e
   exact ⟨x,concL_mono h l x h1,h2⟩
 | .tup l,v,e=>by
   simp only [conc,Option.map_eq_some_iff] at e ⊢
   obtain ⟨x,h1,h2⟩:=e
   exact ⟨x,concL_mono h l x h1,h2⟩
 | .fn f first cap,v,e=>by
   simp only [conc,Option.bind_eq_some_iff,Option.map_eq_some_iff] at e ⊢
   obtain ⟨x,h1,y,h2,h3⟩:=e
   exact ⟨x,concL_mono h first x h1,y,concL_mono h cap y h2,h3⟩
theorem concL_mono {φ φ':Phi} (h:φ.le φ'):∀ (l:List AV) (vs:List Value),conc.concL φ l=some vs→conc.concL φ' l=some vs
 | [],_,e=>e
 | a::r,vs,e=>by
   simp only [conc.concL,Option.bind_eq_some_iff,Option.map_eq_some_iff] at e ⊢
   obtain ⟨x,h1,y,h2,h3⟩:=e
   exact ⟨x,conc_mono h a x h1,y,concL_mono h r y h2,h3⟩
end
theorem concL_len {φ:Phi}:∀ {l:List AV} {vs:List Value},concL φ l=some vs→vs.length=l.length
 | [],vs,e=>by cases e;rfl
 | a::r,vs,e=>by
   rw [concL_cons] at e
   simp only [Option.bind_eq_some_iff,Option.map_eq_some_iff] at e
   obtain ⟨x,_,y,h2,rfl⟩:=e
   simp [concL_len h2]
theorem concL_at {φ:Phi}:∀ {l:List AV} {vs:List Value} (_:concL φ l=some vs) (j:Nat) (a:AV),l[j]?=some a→∃ v,vs[j]?=some v∧conc φ a=some v
 | [],_,_,_,_,h=>by simp at h
 | b::r,vs,e,j,a,h=>by
   rw [concL_cons] at e
   simp only [Option.bind_eq_some_iff,Option.map_eq_some_iff] at e
   obtain ⟨x,h1,y,h2,rfl⟩:=e
   cases j with
   | zero=>simp at h;subst h;exact ⟨x,rfl,h1⟩
   | succ j=>exact concL_at h2 j a (by simpa using h)
theorem concL_set {φ:Phi}:∀ {l:List AV} {vs:List Value} (_:concL φ l=some vs) (j:Nat) (a:AV) (v:Value),conc φ a=some v→concL φ (l.set j a)=some (vs.set j v)
 | [],vs,e,_,_,_,_=>by cases e;rfl
 | b::r,vs,e,j,a,v,h=>by
   rw [concL_cons] at e
   simp only [Option.bind_eq_some_iff,Option.map_eq_some_iff] at e
   obtain ⟨x,h1,y,h2,rfl⟩:=e
   cases j with
   | zero=>simp [concL_cons,h,h2]
   | succ j=>simp [concL_cons,h1,concL_set h2 j a v h]
theorem concL_append {φ:Phi}:∀ {l m:List AV} {vs us:List Value},concL φ l=some vs→concL φ m=some us→concL φ (l++m)=some (vs++us)
 | [],_,_,_,e,h=>by cases e;simpa using h
 | b::r,m,vs,us,e,h=>by
   rw [concL_cons] at e
   simp only [Option.bind_eq_some_iff,Option.map_eq_some_iff] at e
   obtain ⟨x,h1,y,h2,rfl⟩:=e
   simp [concL_cons,h1,concL_append h2 h]
theorem concL_split {φ:Phi}:∀ {l m:List AV} {vs:List Value},concL φ (l++m)=some vs→∃ a b,vs=a++b∧concL φ l=some a∧concL φ m=some b
 | [],m,vs,e=>⟨[],vs,rfl,rfl,e⟩
 | b::r,m,vs,e=>by
   rw [List.cons_append,concL_cons] at e
   simp only [Option.bind_eq_some_iff,Option.map_eq_some_iff] at e
   obtain ⟨x,h1,y,h2,rfl⟩:=e
   obtain ⟨u,t,rfl,h3,h4⟩:=concL_split h2
   exact ⟨x::u,t,rfl,by simp [concL_cons,h1,h3],h4⟩
theorem concL_take {φ:Phi} {l:List AV} {vs:List Value} (e:concL φ l=some vs) (n:Nat):concL φ (l.take n)=some (vs.take n)∧concL φ (l.drop n)=some (vs.drop n):=by
 have e':=e
 rw [← List.take_append_drop n l] at e'
 obtain ⟨a,b,rfl,h1,h2⟩:=concL_split e'
 have hl:=concL_len h1
 rw [List.length_take] at hl
 have hb:=concL_len h2
 rw [List.length_drop] at hb
 rcases Nat.le_total n l.length with hn | hn
 · have ha:a.length=n:=by omega
   rw [List.take_left' ha,List.drop_left' ha]
   exact ⟨h1,h2⟩
 · have hb0:b=[]:=List.eq_nil_of_length_eq_zero (by omega)
   subst hb0
   rw [List.append_nil]
   exact ⟨by rw [List.take_of_length_le (l:=a) (by omega)];exact h1,by rw [show a.drop n=[] from List.drop_eq_nil_of_le (by omega)];exact h2⟩
def absC:Value→Option AV
 | .bool b=>some (.bool b)
 | .int k n=>some (.int k n)
 | .pointer none=>some .pnil
 | .slice none 0 0=>some .snil
 | .nilFunc=>some .fnil
 | .nilIface=>some .inil
 | _=>none
def absCs:List Value→Option (List AV)
 | []=>some []
 | v::r=>(absC v).bind fun a=>(absCs r).map fun l=>a::l
def absV:Value→Option AV
 | .tuple ⟨[]⟩=>some (.tup [])
 | .agg cs=>(absCs cs.toList).map AV.agg
 | v=>absC v
theorem absC_conc (φ:Phi):∀ (v:Value) (a:AV),absC v=some a→conc φ a=some v:=by
 intro v a h
 unfold absC at h
 split at h <;> first | (cases h;done) | (injection h with h;subst h;rfl)
theorem absCs_conc (φ:Phi):∀ (l:List Value) (m:List AV),absCs l=some m→concL φ m=some l
 | [],_,h=>by cases h;rfl
 | v::r,_,h=>by
   simp only [absCs,Option.bind_eq_some_iff,Option.map_eq_some_iff] at h
   obtain ⟨a,h1,l,h2,rfl⟩:=h
   simp [concL_cons,absC_conc φ v a h1,absCs_conc φ r l h2]
theorem absV_conc (φ:Phi) (v:Value) (a:AV) (h:absV v=some a):conc φ a=some v:=by
 unfold absV at h
 split at h
 · injection h with h;subst h;rfl
 · rename_i cs
   simp only [Option.map_eq_some_iff] at h
   obtain ⟨l,h1,rfl⟩:=h
   have:=absCs_conc φ _ _ h1
   simp [conc,show conc.concL φ l=_ from this]
 · exact absC_conc φ _ _ h
end
noncomputable section
open Go.RowKit
inductive AO where
 | cells (cs:List AV) (t:TypeId)
 | loop (st:LoopState) (pend:Option Code) (tmps:List AV) (ps:Array Tmp) (assign body:Code) (dfr ri:Nat)
 | dfr
 deriving Inhabited
inductive Tr where
 | e
 | leaf (o:AO)
 | n (l r:Tr)
 deriving Inhabited
def Tr.getS:Nat→Tr→Nat→Option AO
 | 0,.leaf o,_=>some o
 | d+1,.n l r,i=>match i % 2 with
   | 0=>l.getS d (i / 2)
   | _=>r.getS d (i / 2)
 | _,_,_=>none
def Tr.setS:Nat→Tr→Nat→Option AO→Tr
 | 0,_,_,some o=>.leaf o
 | 0,_,_,none=>.e
 | d+1,.n l r,i,o=>match i % 2 with
   | 0=>.n (l.setS d (i / 2) o) r
   | _=>.n l (r.setS d (i / 2) o)
 | d+1,_,i,o=>match i % 2 with
   | 0=>.n (Tr.setS d .e (i / 2) o) .e
   | _=>.n .e (Tr.setS d .e (i / 2) o)
theorem Tr.getS_e:∀ (d i:Nat),Tr.getS d .e i=none
 | 0,_=>rfl
 | _+1,_=>rfl
theorem Tr.getS_setS:∀ (d:Nat) (t:Tr) (i j:Nat) (o:Option AO),i<2 ^ d→j<2 ^ d→(t.setS d i o).getS d j=if j=i then o else t.getS d j
 | 0,t,i,j,o,hi,hj=>by
   have:j=i:=by simp at hi hj;omega
   rw [if_pos this]
   cases o <;> cases t <;> rfl
 | d+1,t,i,j,o,hi,hj=>by
   have hi2:i / 2<2 ^ d:=by rw [Nat.pow_succ] at hi;omega
   have hj2:j / 2<2 ^ d:=by rw [Nat.pow_succ] at hj;omega
   rcases Nat.mod_two_eq_zero_or_one i with h0 | h0 <;> rcases Nat.mod_two_eq_zero_or_one j with k0 | k0
   · cases t with
     | n l r =>
       simp only [Tr.setS,Tr.getS,h0,k0]
       rw [Tr.getS_setS d l _ _ o hi2 hj2]
       have:(j / 2=i / 2)=(j=i):=by apply propext;constructor <;> intro h <;> omega
       simp only [this]
     | e =>
       simp only [Tr.setS,Tr.getS,h0,k0]
       rw [Tr.getS_setS d .e _ _ o hi2 hj2,Tr.getS_e]
       have:(j / 2=i / 2)=(j=i):=by apply propext;constructor <;> intro h <;> omega
       simp only [this]
     | leaf x =>
       simp only [Tr.setS,Tr.getS,h0,k0]
       rw [Tr.getS_setS d .e _ _ o hi2 hj2,Tr.getS_e]
       have:(j / 2=i / 2)=(j=i):=by apply propext;constructor <;> intro h <;> omega
       simp only [this]
   · have hne:¬ j=i:=by omega
     rw [if_neg hne]
     cases t <;> simp only [Tr.setS,Tr.getS,h0,k0,Tr.getS_e]
   · have hne:¬ j=i:=by omega
     rw [if_neg hne]
     cases t <;> simp only [Tr.setS,Tr.getS,h0,k0,Tr.getS_e]
   · cases t with
     | n l r =>
       simp only [Tr.setS,Tr.getS,h0,k0]
       rw [Tr.getS_setS d r _ _ o hi2 hj2]
       have:(j / 2=i / 2)=(j=i):=by apply propext;constructor <;> intro h <;> omega
       simp only [this]
     | e =>
       simp only [Tr.setS,Tr.getS,h0,k0]
       rw [Tr.getS_setS d .e _ _ o hi2 hj2,Tr.getS_e]
       have:(j / 2=i / 2)=(j=i):=by apply propext;constructor <;> intro h <;> omega
       simp only [this]
     | leaf x =>
       simp only [Tr.setS,Tr.getS,h0,k0]
       rw [Tr.getS_setS d .e _ _ o hi2 hj2,Tr.getS_e]
       have:(j / 2=i / 2)=(j=i):=by apply propext;constructor <;> intro h <;> omega
       simp only [this]
def Tr.get (d:Nat):Tr→Nat→Option AO:=Nat.rec (motive:=fun _=>Tr→Nat→Option AO) (fun t _=>Tr.rec (motive:=fun _=>Option AO) none (fun o=>some o) (fun _ _ _ _=>none) t)
 (fun _ ih t i=>Tr.rec (motive:=fun _=>Option AO) none (fun _=>none) (fun l r _ _=>Nat.rec (motive:=fun _=>Option AO) (ih l (Nat.div i 2)) (fun _ _=>ih r (Nat.div i 2)) (Nat.mod i 2)) t) d
def Tr.set (d:Nat):Tr→Nat→Option AO→Tr:=Nat.rec (motive:=fun _=>Tr→Nat→Option AO→Tr) (fun _ _ o=>Option.rec (motive:=fun _=>Tr) .e (fun x=>.leaf x) o)
 (fun _ ih t i o=>Tr.rec (motive:=fun _=>Tr) (Nat.rec (motive:=fun _=>Tr) (.n (ih .e (Nat.div i 2) o) .e) (fun _ _=>.n .e (ih .e (Nat.div i 2) o)) (Nat.mod i 2)) (fun _=>Nat.rec (motive:=fun _=>Tr) (.n (ih .e (Nat.div i 2) o) .e) (fun _ _=>.n .e (ih .e (Nat.div i 2) o)) (Nat.mod i 2))
  (fun l r _ _=>Nat.rec (motive:=fun _=>Tr) (.n (ih l (Nat.div i 2) o) r) (fun _ _=>.n l (ih r (Nat.div i 2) o)) (Nat.mod i 2)) t) d
theorem Tr.get_eq:∀ (d:Nat) (t:Tr) (i:Nat),t.get d i=t.getS d i
 | 0,.e,_=>rfl
 | 0,.leaf _,_=>rfl
 | 0,.n _ _,_=>rfl
 | _+1,.e,_=>rfl
 | _+1,.leaf _,_=>rfl
 | d+1,.n l r,i=>by
   have h0:Tr.get (d+1) (.n l r) i=Nat.rec (motive:=fun _=>Option AO) (l.get d (i / 2)) (fun _ _=>r.get d (i / 2)) (i % 2):=rfl
   rw [h0,Tr.get_eq d l,Tr.get_eq d r]
   rcases Nat.mod_two_eq_zero_or_one i with h | h <;> simp only [Tr.getS,h] <;> rfl
theorem Tr.set_eq:∀ (d:Nat) (t:Tr) (i:Nat) (o:Option AO),t.set d i o=t.setS d i o
 | 0,_,_,none=>rfl
 | 0,_,_,some _=>rfl
 | d+1,.e,i,o=>by
   have h0:Tr.set (d+1) .e i o=Nat.rec (motive:=fun _=>Tr) (.n (Tr.set d .e (i / 2) o) .e) (fun _ _=>.n .e (Tr.set d .e (i / 2) o)) (i % 2):=rfl
   rw [h0,Tr.set_eq d .e]
   rcases Nat.mod_two_eq_zero_or_one i with h | h <;> simp only [Tr.setS,h] <;> rfl
 | d+1,.leaf x,i,o=>by
   have h0:Tr.set (d+1) (.leaf x) i o=Nat.rec (motive:=fun _=>Tr) (.n (Tr.set d .e (i / 2) o) .e) (fun _ _=>.n .e (Tr.set d .e (i / 2) o)) (i % 2):=rfl
   rw [h0,Tr.set_eq d .e]
   rcases Nat.mod_two_eq_zero_or_one i with h | h <;> simp only [Tr.setS,h] <;> rfl
 | d+1,.n l r,i,o=>by
   have h0:Tr.set (d+1) (.n l r) i o=Nat.rec (motive:=fun _=>Tr) (.n (l.set d (i / 2) o) r) (fun _ _=>.n l (r.set d (i / 2) o)) (i % 2):=rfl
   rw [h0,Tr.set_eq d l,Tr.set_eq d r]
   rcases Nat.mod_two_eq_zero_or_one i with h | h <;> simp only [Tr.setS,h] <;> rfl
theorem Tr.get_set (d:Nat) (t:Tr) (i j:Nat) (o:Option AO) (hi:i<2 ^ d) (hj:j<2 ^ d):(t.set d i o).get d j=if j=i then o else t.get d j:=by
 rw [Tr.get_eq,Tr.get_eq,Tr.set_eq]
 exact Tr.getS_setS d t i j o hi hj
def dep:Nat:=11
structure St where
 t:Tr
 next:Nat
 deriving Inhabited
def St.get (s:St) (i:Nat):Option AO:=s.t.get dep i
def St.put (s:St) (i:Nat) (o:Option AO):St:=⟨s.t.set dep i o,s.next⟩
def St.new (s:St) (o:AO):St:=⟨s.t.set dep s.next (some o),s.next+1⟩
theorem St.get_put {s:St} {i j:Nat} {o:Option AO} (hi:i<2 ^ dep) (hj:j<2 ^ dep):(s.put i o).get j=if j=i then o else s.get j:=Tr.get_set dep s.t i j o hi hj
theorem St.get_new {s:St} {j:Nat} {o:AO} (hi:s.next<2 ^ dep) (hj:j<2 ^ dep):(s.new o).get j=if j=s.next then some o else s.get j:=Tr.get_set dep s.t s.next j (some o) hi hj
def Lies (φ:Phi) (w:World) (L:Loc):AO→Prop
 | .cells cs t=>∃ (C:Array Value) (vs:List Value),w.heap[L.blk]?=some (.cells C t (0,0))∧C.size=L.base+L.size∧cs.length≤L.size∧concL φ cs=some vs∧∀ (j:Nat) (v:Value),vs[j]?=some v→C[L.base+j]?=some v
 | .loop st pend tmps ps assign body dfr _=>∃ (fn:FuncId) (ts:List Value) (D:Loc),w.heap[L.blk]?=some (.loop { state:=st,pending:=pend,fn:=fn,tmps:=ts.toArray,params:=ps,assign:=assign,body:=body,defers:=D.blk })∧concL φ tmps=some ts∧φ dfr=some D
 | .dfr=>w.heap[L.blk]?=some (.deferred (some []))
theorem Lies.mono {φ φ':Phi} {w:World} {L:Loc} {o:AO} (h:φ.le φ') (hl:Lies φ w L o):Lies φ' w L o:=by
 cases o with
 | cells cs t=>obtain ⟨C,vs,h1,h2,h3,h4,h5⟩:=hl;exact ⟨C,vs,h1,h2,h3,concL_mono h _ _ h4,h5⟩
 | loop=>obtain ⟨fn,ts,D,h1,h2,h3⟩:=hl;exact ⟨fn,ts,D,h1,concL_mono h _ _ h2,h _ _ h3⟩
 | dfr=>exact hl
theorem Lies.heap {φ:Phi} {w w':World} {L:Loc} {o:AO} (hw:w'.heap[L.blk]?=w.heap[L.blk]?) (hl:Lies φ w L o):Lies φ w' L o:=by
 cases o with
 | cells cs t=>obtain ⟨C,vs,h1,h⟩:=hl;exact ⟨C,vs,hw.trans h1,h⟩
 | loop=>obtain ⟨fn,ts,D,h1,h⟩:=hl;exact ⟨fn,ts,D,hw.trans h1,h⟩
 | dfr=>exact hw.trans hl
structure Stands (B:Nat) (w0:World) (φ:Phi) (s:St) (w:World):Prop where
 below:Below B w0 w
 size:B≤w.heap.size
 room:s.next≤2 ^ dep
 dom:∀ i L,φ i=some L→i<s.next∧B≤L.blk∧L.blk<w.heap.size
 lies:∀ i L o,φ i=some L→s.get i=some o→Lies φ w L o
 apart:∀ i j L M o p,φ i=some L→φ j=some M→s.get i=some o→s.get j=some p→L.blk=M.blk→i=j
theorem Stands.lt {B:Nat} {w0:World} {φ:Phi} {s:St} {w:World} (h:Stands B w0 φ s w) {i:Nat} {L:Loc} (hi:φ i=some L):i<2 ^ dep:=Nat.lt_of_lt_of_le (h.dom i L hi).1 h.room
end
noncomputable section
open Go.RowKit
structure FD where
 type:TypeId
 off:Nat
 size:Nat
 agg:Bool
inductive TK where
 | other
 | bool
 | int (k:IntKind)
 | ptr
 | slice (e:TypeId)
 | struct (fs:List FD)
 | array (n:Nat) (e:TypeId) (es:Nat) (ea:Bool)
structure TI where
 size:Nat
 bytes:Nat
 zero:List AV
 agg:Bool
 k:TK
def KindOk (P:Program) (t:TypeId) (k:TK) (agg:Bool):Prop:=∃ d,P.underlying t=some d∧d.isRow=agg∧match k with
 | .other=>True
 | .bool=>d=.bool
 | .int k=>d=.int k
 | .ptr=>∃ e,d=.pointer e∧((P.info? e).map (·.size))≠some 0
 | .slice e=>d=.slice e
 | .struct fs=>∃ F:Array Field,d=.struct F∧F.toList.map (fun f=>(f.type,f.offset))=fs.map (fun f=>(f.type,f.off)) ∧
   (∀ f∈fs,(P.info? f.type).map (·.size)=some f.size∧0<f.size∧∃ d',P.underlying f.type=some d'∧d'.isRow=f.agg)
 | .array n e es ea=>d=.array n e∧(P.info? e).map (·.size)=some es∧∃ d',P.underlying e=some d'∧d'.isRow=ea
structure TypeOk (P:Program) (t:TypeId) (i:TI):Prop where
 info:∃ z,(P.info? t).map (fun i=>(i.size,i.bytes,i.zero))=some (i.size,i.bytes,some z)∧absCs z.cells.toList=some i.zero
 len:i.zero.length=i.size
 pos:0<i.size
 kind:KindOk P t i.k i.agg
abbrev TT:=List (TypeId × TI)
def look {α:Type} (l:List (Nat × α)) (j:Nat):Option α:=List.rec (motive:=fun _=>Option α) none (fun p _ ih=>Bool.rec (motive:=fun _=>Option α) ih (some p.2) (Nat.beq p.1 j)) l
theorem look_step {α:Type} (i:Nat) (y:α) (r:List (Nat × α)) (j:Nat):look ((i,y)::r) j=bif Nat.beq i j then some y else look r j:=by
 show Bool.rec (motive:=fun _=>Option α) (look r j) (some y) (Nat.beq i j)=_
 cases Nat.beq i j <;> rfl
theorem look_mem {α:Type}:∀ {l:List (Nat × α)} {j:Nat} {x:α},look l j=some x→(j,x)∈l
 | [],_,_,h=>by cases h
 | (i,y)::r,j,x,h=>by
   rw [look_step] at h
   cases hb:Nat.beq i j with
   | true =>
     rw [hb] at h
     have:=Nat.eq_of_beq_eq_true hb
     subst this
     injection h with h
     subst h
     exact List.mem_cons_self
   | false =>
     rw [hb] at h
     exact List.mem_cons_of_mem _ (look_mem h)
def TypesOk (P:Program) (T:TT):Prop:=∀ p∈T,TypeOk P p.1 p.2
theorem TypesOk.at {P:Program} {T:TT} (h:TypesOk P T) {t:TypeId} {i:TI} (hl:look T t=some i):TypeOk P t i:=h _ (look_mem hl)
section
variable {P:Program} {t:TypeId} {i:TI}
theorem TypeOk.info_size (h:TypeOk P t i):(P.info? t).map (·.size)=some i.size:=by
 obtain ⟨z,h1,_⟩:=h.info
 cases hq:P.info? t with
 | none=>rw [hq] at h1;cases h1
 | some x=>rw [hq] at h1;simp at h1;simp [h1.1]
theorem TypeOk.size_run (h:TypeOk P t i) (w:World):(sizeOf t).run P w=.ok i.size w:=by
 have hs:=h.info_size
 cases hq:P.info? t with
 | none=>rw [hq] at hs;cases hs
 | some x=>rw [hq] at hs;simp at hs;simp [sizeOf,typeInfo,hq,hs]
theorem TypeOk.agg_run (h:TypeOk P t i) (w:World):(isAgg t).run P w=.ok i.agg w:=by
 obtain ⟨d,hd,ha,_⟩:=h.kind
 unfold isAgg
 rw [Sem.run_bind,run_underlying hd w]
 cases d <;> simp_all
theorem TypeOk.zero_run (h:TypeOk P t i) (w:World):∃ z,(zeroValue t).run P w=.ok z w∧absCs z.cells.toList=some i.zero:=by
 obtain ⟨z,h1,h2⟩:=h.info
 refine ⟨z,?_,h2⟩
 cases hq:P.info? t with
 | none=>rw [hq] at h1;cases h1
 | some x=>rw [hq] at h1;simp at h1;simp [zeroValue,typeInfo,hq,h1.2.2]
theorem TypeOk.under (h:TypeOk P t i):∃ d,P.underlying t=some d∧d.isRow=i.agg:=let ⟨d,h1,h2,_⟩:=h.kind;⟨d,h1,h2⟩
end
def partA (cs:List AV) (off size:Nat) (agg:Bool):Option AV :=
 if agg then (if off+size≤cs.length then some (.agg ((cs.drop off).take size)) else none) else atQ cs off
theorem part_run {P:Program} {t:TypeId} {size:Nat} {agg:Bool} (hs:(P.info? t).map (·.size)=some size) (ha:∃ d,P.underlying t=some d∧d.isRow=agg) {φ:Phi} {cs:List AV} {vs:List Value} (hc:concL φ cs=some vs) {off:Nat} {a:AV} (h:partA cs off size agg=some a) :
  ∃ v,conc φ a=some v∧∀ w,(part t vs.toArray off).run P w=.ok v w:=by
 obtain ⟨d,hd,hr⟩:=ha
 have hag:∀ w,(isAgg t).run P w=.ok agg w:=fun w=>by
  unfold isAgg
  rw [Sem.run_bind,run_underlying hd w]
  cases d <;> simp_all
 have hsz:∀ w,(sizeOf t).run P w=.ok size w:=fun w=>by
  cases hq:P.info? t with
  | none=>rw [hq] at hs;cases hs
  | some x=>rw [hq] at hs;simp at hs;simp [sizeOf,typeInfo,hq,hs]
 unfold partA at h
 simp only [atQ_eq] at h
 cases agg with
 | true =>
   simp only [if_true] at h
   split at h
   · injection h with h
     subst h
     have h1:=(concL_take (concL_take hc off).2 size).1
     refine ⟨.agg ((vs.drop off).take size).toArray,by simp [conc,show conc.concL φ _=_ from h1],fun w=>?_⟩
     unfold part
     rw [Sem.run_bind,hag w]
     simp only [Result.andThen_ok,if_true,Sem.run_bind,hsz w,Sem.run_pure]
     congr 2
     apply Array.ext'
     simp [List.extract_eq_take_drop]
   · cases h
 | false =>
   simp only [Bool.false_eq_true,if_false] at h
   obtain ⟨v,h1,h2⟩:=concL_at hc off a h
   refine ⟨v,h2,fun w=>?_⟩
   unfold part
   rw [Sem.run_bind,hag w]
   simp [h1]
end
end Go.Proofs.YtdpojpcoghcieaaGreat.Si
namespace Go.Proofs.YtdpojpcoghcieaaGreat.Si
noncomputable section
open Go.RowKit
def binI (op:BinOp) (k:IntKind) (a b:Int):Option AV :=
 match op with
 | .add=>some (.int k (k.wrap (a+b)))
 | .sub=>some (.int k (k.wrap (a-b)))
 | .mul=>some (.int k (k.wrap (a*b)))
 | .quo=>if b=0 then none else some (.int k (k.wrap (a.tdiv b)))
 | .rem=>if b=0 then none else some (.int k (a.tmod b))
 | .and=>some (.int k (k.wrap (BitVec.ofInt k.bits a &&& BitVec.ofInt k.bits b).toNat))
 | .or=>some (.int k (k.wrap (BitVec.ofInt k.bits a ||| BitVec.ofInt k.bits b).toNat))
 | .eql=>some (.bool (a == b))
 | .neq=>some (.bool (a != b))
 | .lss=>some (.bool (a<b))
 | .leq=>some (.bool (a≤b))
 | .gtr=>some (.bool (a > b))
 | .geq=>some (.bool (a ≥ b))
 | _=>none
def shiftI (op:BinOp) (k:IntKind) (a b:Int):Option AV :=
 if b<0 then none else match op with
 | .shl=>some (.int k (k.wrap (a*2 ^ (min b.toNat k.bits))))
 | .shr=>some (.int k (a.fdiv (2 ^ (min b.toNat k.bits))))
 | _=>none
def eqInts:List AV→List AV→Option Bool
 | [],[]=>some true
 | .int k a::r,.int l b::s=>if k=l then (eqInts r s).map fun t=>a == b && t else none
 | _,_=>none
def evalL (ρ:Operand→Option AV):List Operand→Option (List AV)
 | []=>some []
 | x::r=>(ρ x).bind fun a=>(evalL ρ r).map fun l=>a::l
theorem evalL_ok {φ:Phi} {ρ:Operand→Option AV} {ρc:Operand→Value} (hρ:∀ x a,ρ x=some a→conc φ a=some (ρc x)):∀ {l:List Operand} {as':List AV},evalL ρ l=some as'→concL φ as'=some (l.map ρc)
 | [],_,h=>by cases h;rfl
 | x::r,_,h=>by
   simp only [evalL,Option.bind_eq_some_iff,Option.map_eq_some_iff] at h
   obtain ⟨a,h1,l,h2,rfl⟩:=h
   simp [concL_cons,hρ x a h1,evalL_ok hρ h2]
def binA (T:TT) (op:BinOp) (t:TypeId) (x y:AV):Option AV :=
 match op,x,y with
 | .shl,.int k a,.int _ b=>shiftI .shl k a b
 | .shr,.int k a,.int _ b=>shiftI .shr k a b
 | _,.int k a,.int l b=>if k=l then binI op k a b else none
 | .eql,.bool a,.bool b=>match look T t with
   | some { k:=.bool,.. }=>some (.bool (a == b))
   | _=>none
 | .neq,.bool a,.bool b=>match look T t with
   | some { k:=.bool,.. }=>some (.bool (!(a == b)))
   | _=>none
 | .eql,.ptr _ _,.pnil=>match look T t with
   | some { k:=.ptr,.. }=>some (.bool false)
   | _=>none
 | .neq,.ptr _ _,.pnil=>match look T t with
   | some { k:=.ptr,.. }=>some (.bool true)
   | _=>none
 | .eql,.pnil,.pnil=>match look T t with
   | some { k:=.ptr,.. }=>some (.bool true)
   | _=>none
 | .neq,.pnil,.pnil=>match look T t with
   | some { k:=.ptr,.. }=>some (.bool false)
   | _=>none
 | .eql,.sl _ _ _ _ _ _,.snil=>match look T t with
   | some { k:=.slice _,.. }=>some (.bool false)
   | _=>none
 | .neq,.sl _ _ _ _ _ _,.snil=>match look T t with
   | some { k:=.slice _,.. }=>some (.bool true)
   | _=>none
 | .eql,.snil,.snil=>match look T t with
   | some { k:=.slice _,.. }=>some (.bool true)
   | _=>none
 | .neq,.snil,.snil=>match look T t with
   | some { k:=.slice _,.. }=>some (.bool false)
   | _=>none
 | _,_,_=>none
section
variable {P:Program} {φ:Phi}
theorem binI_ok {op:BinOp} {k:IntKind} {a b:Int} {r:AV} (h:binI op k a b=some r) (h1:op≠.shl) (h2:op≠.shr) (t:TypeId):∃ v,conc φ r=some v∧∀ w,(binOp op t (.int k a) (.int k b)).run P w=.ok v w:=by
 cases op <;> simp only [binI] at h <;> first
  | (cases h;done)
  | exact absurd rfl h1
  | exact absurd rfl h2
  | (injection h with h;subst h;exact ⟨_,rfl,fun w=>by simp [binOp,Op.intArith,Op.intBits,Op.intCmp]⟩)
  | (split at h
     · cases h
     · injection h with h;subst h;exact ⟨_,rfl,fun w=>by simp_all [binOp,Op.intDiv]⟩)
theorem shiftI_ok {op:BinOp} {k l:IntKind} {a b:Int} {r:AV} (h:shiftI op k a b=some r) (t:TypeId):∃ v,conc φ r=some v∧∀ w,(binOp op t (.int k a) (.int l b)).run P w=.ok v w:=by
 unfold shiftI at h
 split at h
 · cases h
 · rename_i hb
   cases op <;> simp only at h <;> first
    | (cases h;done)
    | (injection h with h;subst h;exact ⟨_,rfl,fun w=>by simp [binOp,Op.shift,hb]⟩)
theorem guard_ok {op:BinOp} {t:TypeId} {x y:Operand} {a b:Value} (h:∀ u v,¬ (a=.agg u∧b=.agg v)) (h2:¬ (a=.nilIface∧b=.nilIface)) (w:World):(eqGuard op t x y a b).run P w=.ok () w:=by
 unfold eqGuard
 cases op <;> simp <;> split <;> simp_all
theorem eqIn_bool {t:TypeId} (h:P.underlying t=some .bool) (a b:Bool) (d:Nat) (w:World):(Op.equalIn (d+1) t (.bool a) (.bool b)).run P w=.ok (a == b) w:=by
 simp only [Op.equalIn]
 rw [Sem.run_bind,run_underlying h w]
 simp
theorem eqIn_ptr {t e:TypeId} (h:P.underlying t=some (.pointer e)) (a:Addr) (d:Nat) (w:World):(Op.equalIn (d+1) t (.pointer (some a)) (.pointer none)).run P w=.ok false w:=by
 simp only [Op.equalIn]
 rw [Sem.run_bind,run_underlying h w]
 simp
theorem eqIn_nil {t e:TypeId} (h:P.underlying t=some (.pointer e)) (d:Nat) (w:World):(Op.equalIn (d+1) t (.pointer none) (.pointer none)).run P w=.ok true w:=by
 simp only [Op.equalIn]
 rw [Sem.run_bind,run_underlying h w]
 simp
theorem eq_bool {t:TypeId} (h:P.underlying t=some .bool) (a b:Bool) (w:World):(Op.equal t (.bool a) (.bool b)).run P w=.ok (a == b) w:=eqIn_bool h a b 9999 w
theorem eq_ptr {t e:TypeId} (h:P.underlying t=some (.pointer e)) (a:Addr) (w:World):(Op.equal t (.pointer (some a)) (.pointer none)).run P w=.ok false w:=eqIn_ptr h a 9999 w
theorem eq_nil {t e:TypeId} (h:P.underlying t=some (.pointer e)) (w:World):(Op.equal t (.pointer none) (.pointer none)).run P w=.ok true w:=eqIn_nil h 9999 w
theorem conc_slice {id off len cap es:Nat} {ex:Bool} {v:Value} (h:conc φ (.sl id off len cap ex es)=some v):∃ x c,v=.slice (some x) len c:=by
 simp only [conc,Option.bind_eq_some_iff] at h
 obtain ⟨L,h1,h2⟩:=h
 by_cases hc:cap≤(if ex then cap else (L.size-off) / es)
 · rw [if_pos hc] at h2
   injection h2 with h2
   exact ⟨_,_,h2.symm⟩
 · rw [if_neg hc] at h2
   cases h2
theorem eq_sl {t e:TypeId} (h:P.underlying t=some (.slice e)) (a:Option Addr) (n c:Nat) (w:World):(Op.equal t (.slice a n c) (.slice none 0 0)).run P w=.ok a.isNone w:=Lib.run_equalIn_slice_nil w 9999 t e a n c 0 0 h
theorem bin_ok {T:TT} (hT:TypesOk P T) {op:BinOp} {t:TypeId} {x y:AV} {r:AV} (h:binA T op t x y=some r) {a b:Value} (ha:conc φ x=some a) (hb:conc φ y=some b) (ox oy:Operand) :
  ∃ v,conc φ r=some v∧∀ w,(eqGuard op t ox oy a b).run P w=.ok () w∧(binOp op t a b).run P w=.ok v w:=by
 unfold binA at h
 split at h
 · injection ha with ha;injection hb with hb;subst ha hb
   obtain ⟨v,h1,h2⟩:=shiftI_ok (P:=P) (φ:=φ) h t
   exact ⟨v,h1,fun w=>⟨guard_ok (by simp) (by simp) w,h2 w⟩⟩
 · injection ha with ha;injection hb with hb;subst ha hb
   obtain ⟨v,h1,h2⟩:=shiftI_ok (P:=P) (φ:=φ) h t
   exact ⟨v,h1,fun w=>⟨guard_ok (by simp) (by simp) w,h2 w⟩⟩
 · rename_i n1 n2
   injection ha with ha;injection hb with hb;subst ha hb
   split at h
   · rename_i hk
     subst hk
     obtain ⟨v,h1,h2⟩:=binI_ok (P:=P) (φ:=φ) h n1 n2 t
     exact ⟨v,h1,fun w=>⟨guard_ok (by simp) (by simp) w,h2 w⟩⟩
   · cases h
 all_goals first
  | (cases h;done)
  | (split at h
     · rename_i hl
       obtain ⟨d,hd,_,hk⟩:=(hT.at hl).kind
       injection h with h
       subst h
       first
        | (injection ha with ha;injection hb with hb;subst ha hb;have hk:d=.bool:=hk;subst hk
           exact ⟨_,rfl,fun w=>⟨guard_ok (by simp) (by simp) w,by simp [binOp,eq_bool hd]⟩⟩)
        | (injection ha with ha;injection hb with hb;subst ha hb;have hk:d=.slice _:=hk;subst hk
           exact ⟨_,rfl,fun w=>⟨guard_ok (by simp) (by simp) w,by simp [binOp,eq_sl hd]⟩⟩)
        | (obtain ⟨x,c,rfl⟩:=conc_slice ha
           injection hb with hb;subst hb;have hk:d=.slice _:=hk;subst hk
           exact ⟨_,rfl,fun w=>⟨guard_ok (by simp) (by simp) w,by simp [binOp,eq_sl hd]⟩⟩)
        | (injection ha with ha;injection hb with hb;subst ha hb;obtain ⟨e,rfl,_⟩:=hk
           exact ⟨_,rfl,fun w=>⟨guard_ok (by simp) (by simp) w,by simp [binOp,eq_nil hd]⟩⟩)
        | (simp only [conc,Option.map_eq_some_iff] at ha
           obtain ⟨L,_,rfl⟩:=ha
           injection hb with hb;subst hb;obtain ⟨e,rfl,_⟩:=hk
           exact ⟨_,rfl,fun w=>⟨guard_ok (by simp) (by simp) w,by simp [binOp,eq_ptr hd]⟩⟩)
     · cases h)
end
end
end Go.Proofs.YtdpojpcoghcieaaGreat.Si
