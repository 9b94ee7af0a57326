/- A part of the proof of TopTags: Words, Append, Own, PartP, Keep, Mem, ShapePlain, Grow, ShapeRef. Conditions: none. -/
import Derived.WalkKit
import Derived.WalkSpells
import Derived.WalkLawsBesides
import Derived.Lib.Hide
import Derived.IntWalk
import Derived.Deep.QuietTactic
import Derived.BigQuiet
import Derived.BigRegion
import Derived.Deep.RegionHeld3
import Derived.Deep.AppendLies
import Derived.Deep.LoopGhost
import Derived.Laws.OwnMore
import Derived.Deep.Onto
import Derived.Outline
import Derived.Maps.AppendAt
import Derived.RegionTactic
import Derived.OwnWalk
import Derived.RangeFuncOwn
import Derived.KernelRfl
import GoSem.Core.Value
import Derived.OwnWalkIn
import Derived.Test.YtdpojpcoghcieaaGreatProg
set_option maxHeartbeats 8000000
set_option linter.all false
namespace Go.Proofs.YtdpojpcoghcieaaGreat
open Go.RowKit
open Value renaming int → U, slice → Us
open IntKind renaming i64 → O
open Nat renaming le_trans → UM, le_refl → UN, lt_of_lt_of_le → UO, lt_or_ge → UR, eq_zero_or_pos → UU, lt_trichotomy → Vc
open List renaming getElem?_append_right → UP, range → UQ, length_cons → UV, getElem?_set_ne → UW, mem_of_getElem? → UX, getElem?_take → UZ, length_append → Va, length_nil → Vb, getElem?_append_left → Vd, getElem?_eq_none → Ve, getElem?_set_self → Vf, append_assoc → Vg, take_of_length_le → Vh
open World renaming setCell → US
open Below renaming heap_setCell → UT, heap_alloc → UY
section
def Rd (w:World) (B:Nat) (A:Option Addr) (vs:List Value):Prop :=
 0<vs.length->∃ b off,A=some ⟨b,off,none⟩/\b<B/\∀ j u,vs[j]?=some u->w.cell? ⟨b,off+j,none⟩=some u
theorem Rd.nil_ (w:World) (B:Nat) (A:Option Addr):Rd w B A []:=fun h=>absurd h (by simp)
theorem Rd.keep {w w':World} {B:Nat} {A:Option Addr} {vs:List Value} (h:Rd w B A vs) (hk:∀ p:Addr,p.block<B->w'.cell? p=w.cell? p):Rd w' B A vs:=fun h0=>by
 obtain ⟨b,off,e,hb,hc⟩:=h h0;exact ⟨b,off,e,hb,fun j u hu=>(hk _ hb).trans (hc j u hu)⟩
theorem Rd.more {w:World} {B B':Nat} {A:Option Addr} {vs:List Value} (h:Rd w B A vs) (hB:B<=B'):Rd w B' A vs:=fun h0=>by
 obtain ⟨b,off,e,hb,hc⟩:=h h0;exact ⟨b,off,e,by omega,hc⟩
theorem Rd.below {w w':World} {B:Nat} {A:Option Addr} {vs:List Value} (h:Rd w B A vs) (hb:Below B w w'):Rd w' B A vs:=h.keep fun _ hp=>hb.cell hp
theorem Rd.alloc {w:World} {B:Nat} {A:Option Addr} {vs:List Value} (h:Rd w B A vs) (hB:B<=w.heap.size) (o:Obj):Rd (w.alloc o) B A vs:=h.keep fun p hp=>World.cell?_alloc_lt w o p (by omega)
def RdI (w:World) (B:Nat) (A:Option Addr) (zs:List Int):Prop:=Rd w B A (zs.map (Value.int .i64))
theorem RdI.at_ {w:World} {B:Nat} {A:Option Addr} {zs:List Int} (h:RdI w B A zs) (h0:0<zs.length) :
  ∃ b off,A=some ⟨b,off,none⟩/\b<B/\∀ j z,zs[j]?=some z->w.cell? ⟨b,off+j,none⟩=some (U O z):=by
 obtain ⟨b,off,e,hb,hc⟩:=h (by simpa using h0);exact ⟨b,off,e,hb,fun j z hz=>hc j _ (by simp [hz])⟩
theorem RdI.below {w w':World} {B:Nat} {A:Option Addr} {zs:List Int} (h:RdI w B A zs) (hb:Below B w w'):RdI w' B A zs:=Rd.below h hb
theorem RdI.more {w:World} {B B':Nat} {A:Option Addr} {zs:List Int} (h:RdI w B A zs) (hB:B<=B'):RdI w B' A zs:=Rd.more h hB
theorem RdI.alloc {w:World} {B:Nat} {A:Option Addr} {zs:List Int} (h:RdI w B A zs) (hB:B<=w.heap.size) (o:Obj):RdI (w.alloc o) B A zs:=Rd.alloc h hB o
theorem Au {α:Type} (l:List α) (k:Nat) (h:k<l.length):∃ z,l[k]?=some z:=⟨l[k],List.getElem?_eq_getElem h⟩
theorem B6 {B:Nat} {a w:World} (h:Below B a w) (n:Nat):Below B a (w.drewN n):=⟨h.os,h.tape,h.output,h.size,h.block⟩
theorem Cs {B:Nat} {a w:World} (h:Below B a w):Below B a w.drew:=⟨h.os,h.tape,h.output,h.size,h.block⟩
theorem AN {k:IntKind} {a b:Int} (h:a=b):Ending.returned (.int k a)=.returned (.int k b):=by rw [h]
theorem Iz {v:Value} {k:IntKind} {a b:Int} (h:a=b):Ending.returned (.tuple #[v,.int k a])=.returned (.tuple #[v,.int k b]):=by rw [h]
theorem AY {a b:Bool} (h:a=b):Ending.returned (.bool a)=.returned (.bool b):=by rw [h]
theorem Ay {w:World} {g:Nat} {t:TypeId} {cs:Array Value} (h:w.heap[g]?=some (.cells cs t (0,0))) (i:Nat):w.cell? ⟨g,i,none⟩=cs[i]?:=by simp [World.cell?,h]
theorem DD {w:World} {g:Nat} {t:TypeId} {cs:Array Value} (h:w.heap[g]?=some (.cells cs t (0,0))) (i:Nat):w.frozen? ⟨g,i,none⟩=false:=by simp [World.frozen?,h]
theorem AZ {w:World} {g:Nat} {o:Obj} (h:w.heap[g]?=some o):g<w.heap.size:=by
 rcases UR g w.heap.size with hlt | hge
 . exact hlt
 . rw [Array.getElem?_eq_none hge] at h;cases h
theorem Ct {w:World} {g:Nat} {o:Obj} (h:w.heap[g]?=some o) (o':Obj):(w.alloc o').heap[g]?=some o:=(UY w o' g (AZ h)).trans h
theorem Ec {w:World} {g:Nat} {t:TypeId} {cs:Array Value} (h:w.heap[g]?=some (.cells cs t (0,0))) (i:Nat) (u:Value):(w.setCell ⟨g,i,none⟩ u).heap[g]?=some (.cells (cs.setIfInBounds i u) t (0,0)):=by
 simp [US,Array.getElem?_modify,h]
theorem GD {w:World} {g:Nat} {o:Obj} (h:w.heap[g]?=some o) {p:Addr} (hp:g≠p.block) (u:Value):(w.setCell p u).heap[g]?=some o:=(UT w p u g hp).trans h
theorem DE {w w':World} {g:Nat} {o:Obj} (h:w.heap[g]?=some o) {row:Option Nat} (hg:w.grownBy w' row) (hne:some g≠row):w'.heap[g]?=some o:=(hg.block g (AZ h) hne).trans h
theorem F8 {w:World} {g:Nat} {o:Obj} (h:w.heap[g]?=some o):w.drew.heap[g]?=some o:=h
theorem GE {w:World} {g:Nat} {o:Obj} (h:w.heap[g]?=some o) (n:Nat):(w.drewN n).heap[g]?=some o:=h
theorem Bp {w w':World} {B g:Nat} {o:Obj} (h:w.heap[g]?=some o) (hb:Below B w w') (hlt:g<B):w'.heap[g]?=some o:=(hb.block g hlt).trans h
theorem Cl {w:World} {base e size n g:Nat} {v:Value} {xs:List Value} {t:TypeId} {cs:Array Value} (h:w.ownsRow base e size v n xs) (hg:w.heap[g]?=some (.cells cs t (0,0))) (hne:e≠t):v.ownBlock≠some g:=by
 rcases h.2 with ⟨rfl,_⟩ | ⟨g',cap,cur,rfl,_,hh,_⟩
 . simp [Value.ownBlock]
 . intro he;have:g'=g:=by simpa [Value.ownBlock] using he
   subst this;rw [hh] at hg;injection hg with hg
   injection hg with _ ht
   exact hne ht
theorem JQ {w:World} {base e e' size size' n n':Nat} {v v':Value} {xs xs':List Value} (h:w.ownsRow base e size v n xs) (h':w.ownsRow base e' size' v' n' xs') (hne:e≠e'):v.ownBlock=none\/v.ownBlock≠v'.ownBlock:=by
 rcases h'.2 with ⟨rfl,_⟩ | ⟨g',cap,cur,rfl,_,hh,_⟩
 . cases hv:v.ownBlock
   . exact .inl rfl
   . exact .inr (by simp [Value.ownBlock])
 . exact .inr (Cl h hh hne)
def cur (w:World) (a:Addr):Value:=(w.cell? a).getD undef
theorem N8 {a w:World} {row:Option Nat} (h:a.grownBy w row):a.grownBy w.drew row:=⟨h.os,h.tape,h.output,h.size,h.block⟩
theorem JR {a w:World} {row:Option Nat} (h:a.grownBy w row) (o:Obj):a.grownBy (w.alloc o) row :=
 ⟨h.os,h.tape,h.output,UM h.size (by simp),fun i hi hne=>(UY w o i (UO hi h.size)).trans (h.block i hi hne)⟩
theorem I4 {a w:World} {g:Nat} (h:a.grownBy w (some g)) {p:Addr} (hp:p.block=g\/a.heap.size<=p.block) (u:Value):a.grownBy (w.setCell p u) (some g) :=
 ⟨h.os,h.tape,h.output,by simpa [US] using h.size,fun i hi hne=>(UT w p u i (by
  rintro rfl
  rcases hp with hp | hp
  . exact hne (by rw [hp])
  . omega)).trans (h.block i hi hne)⟩
theorem AJ {w:World} {base e cap n:Nat} {A:Option Addr} {size:Nat} {xs:List Value} (h:w.ownsRow base e size (Us A n cap) n xs):Rd w w.heap.size A xs:=fun h0=>by
 have hn:0<n:=by
  rcases UU n with rfl | hp
  . have:=h.1;simp at this;subst this;simp at h0
  . exact hp
 rcases h.2 with ⟨hv,hz⟩ | ⟨g,c,cur,hv,hb,hh,_,_,_,ht⟩
 . omega
 . injection hv with hA _ _
   subst hA;refine ⟨g,0,rfl,AZ hh,fun j u hu=>?_⟩;rw [Nat.zero_add,Ay hh];rw [<- ht,UZ] at hu
   split at hu
   . simpa using hu
   . cases hu
theorem Cg (b off j:Nat):(⟨b,off,none⟩:Addr).add j=⟨b,off+j,none⟩:=by
 unfold Addr.add;split <;> simp_all
section
variable {P:Program} (w:World)
theorem N9 (base:Nat) (t ty e:TypeId) (i:TypeInfo) (size:Nat) (ht:P.underlying t=some (.slice e)) (hi:P.info? e=some i)
  (v:Value) (n:Nat) (xs:List Value) (hown:w.ownsRow base e size v n xs) (c:Nat):(Builtin.append_ #[t,t] ty #[v,Us none 0 c]).run P w=.ok v w:=by
 rcases hown.2 with ⟨rfl,rfl⟩ | ⟨g,cap,cur,rfl,_,_,hnc,_⟩
 . simp [Builtin.append_,run_underlying ht,sizeOf,typeInfo,hi,Builtin.lenOf,Builtin.firstCells]
 . simp [Builtin.append_,run_underlying ht,sizeOf,typeInfo,hi,Builtin.lenOf,Builtin.firstCells,hnc,storeCells]
end
theorem Be {w:World} {base e size n cap:Nat} {A:Option Addr} {xs:List Value} (h:w.ownsRow base e size (Us A n cap) n xs):n<=cap:=by
 rcases h.2 with ⟨hv,hz⟩ | ⟨g,c,cur,hv,hb,hh,hc,_⟩
 . omega
 . injection hv with _ _ e3;omega
theorem DF {w:World} {base e size n:Nat} {v:Value} {xs:List Value} (h:w.ownsRow base e size v n xs):∃ A cap,v=Us A n cap:=by
 rcases h.2 with ⟨rfl,rfl⟩ | ⟨g,c,cur,rfl,_⟩
 . exact ⟨_,_,rfl⟩
 . exact ⟨_,_,rfl⟩
theorem Bh (w:World) (base e size:Nat):w.ownsRow base e size (Us none 0 0) 0 []:=⟨by simp,.inl ⟨rfl,rfl⟩⟩
theorem NA {k:IntKind} (zs:List Int):∀ u∈zs.map (Value.int k),u.oneCell'=true:=fun u hu=>by
 obtain ⟨z,_,rfl⟩:=List.mem_map.1 hu;rfl
theorem F9 {w w1 w2:World} {B B' e size n:Nat} {v:Value} {xs:List Value} (hb:Below B w w1) (hB:B<=w.heap.size) (hBB:B<=B') (hown:w1.ownsRow B' e size v n xs) (hg:w1.grownBy w2 v.ownBlock):Below B w w2:=by
 refine hb.grown hg (UM hB hb.size) fun k hk=>?_
 rcases hown.2 with ⟨rfl,_⟩ | ⟨g,cap,cur,rfl,hge,_⟩
 . simp [Value.ownBlock] at hk
 . simp [Value.ownBlock] at hk;omega
end
section
open Lib renaming hid → K1
theorem NB {w w':World} {base e size n:Nat} {v:Value} {xs:List Value} (h:w.ownsRow base e size v n xs) (hb:Below w.heap.size w w'):w'.ownsRow base e size v n xs:=by
 rcases h.2 with ⟨rfl,h0⟩ | ⟨g,cap,cur,rfl,hg,hgh,h1⟩
 . exact ⟨h.1,.inl ⟨rfl,h0⟩⟩
 . exact ⟨h.1,.inr ⟨g,cap,cur,rfl,hg,(hb.block g (AZ hgh)).trans hgh,h1⟩⟩
def rcells (l:List (Nat × Nat)):List Value:=l.flatMap fun p=>[U O p.1,U O p.2]
theorem En (l:List (Nat × Nat)):(rcells l).length=l.length*2:=by
 induction l with
 | nil=>rfl
 | cons p r ih=>simp only [rcells,List.flatMap_cons,Va,UV,Vb] at ih ⊢;omega
theorem EX (l:List (Nat × Nat)) (p:Nat × Nat):rcells (l++[p])=rcells l++[U O p.1,U O p.2]:=by simp [rcells]
theorem Ed:∀ (l:List (Nat × Nat)) (j:Nat) (p:Nat × Nat),l[j]?=some p->(rcells l)[j*2]?=some (U O p.1)/\(rcells l)[j*2+1]?=some (U O p.2)
 | [],j,p,h=>by simp at h
 | q::r,0,p,h=>by
   simp at h;subst h
   simp [rcells]
 | q::r,j+1,p,h=>by
   have ih:=Ed r j p (by simpa using h);have e:rcells (q::r)=[U O q.1,U O q.2]++rcells r:=by simp [rcells]
   rw [e,UP (by simp;omega),UP (by simp;omega)];simp only [UV,Vb];rw [show (j+1)*2-(0+1+1)=j*2 by omega,show (j+1)*2+1-(0+1+1)=j*2+1 by omega];exact ih
def pcnt (n s:Nat):Nat:=if n=0 then 0 else (n-1) / s+1
def blk1 (n s i:Nat):Nat × Nat:=(i*s,i*s+min s (n-i*s))
def Bd (n s:Nat):List (Nat × Nat):=(UQ (pcnt n s)).map (blk1 n s)
theorem Cm (n s:Nat):pcnt n s<=n:=by
 unfold pcnt
 split
 . omega
 . have:=Nat.div_le_self (n-1) s;omega
theorem EB {n s i:Nat} (hs:1<=s) (h:i<pcnt n s):i*s<n:=by
 unfold pcnt at h
 split at h
 . omega
 . have h1:i<=(n-1) / s:=by omega
   have h2:=(Nat.le_div_iff_mul_le (by omega)).1 h1;omega
theorem DN (n s:Nat):(Bd n s).length=pcnt n s:=by simp [Bd]
theorem I5 (n s k:Nat):(UQ (k+1)).map (blk1 n s)=(UQ k).map (blk1 n s)++[blk1 n s k]:=by
 rw [List.range_succ,List.map_append];rfl
def bnd (n k i:Nat):Nat:=i*(n / k)+min i (n % k)
def BN (n k:Nat):List (Nat × Nat):=(UQ k).map fun i=>(bnd n k i,bnd n k (i+1))
theorem Ee (n k:Nat):(BN n k).length=k:=by simp [BN]
theorem FA (n k i:Nat):bnd n k i<=bnd n k (i+1):=by
 unfold bnd;rw [Nat.succ_mul];generalize i*(n / k)=a;generalize n / k=b;generalize n % k=c;omega
theorem NC (n k:Nat) (hk:1<=k):bnd n k k=n:=by
 unfold bnd;have h1:=Nat.mod_lt n (show k > 0 by omega);rw [Nat.min_eq_right (by omega)];exact Nat.div_add_mod n k
theorem FB {n k:Nat} (hk:1<=k):∀ {i:Nat},i<=k->bnd n k i<=n:=fun {i} hi=>by
 have key:∀ d,i+d=k->bnd n k i<=n:=by
  intro d
  induction d generalizing i with
  | zero=>intro h;rw [show i=k by omega,NC n k hk];exact UN _
  | succ d ih=>intro h;exact UM (FA n k i) (ih (i:=i+1) (by omega) (by omega))
 exact key (k-i) (by omega)
theorem I6:(Tryz.prog.info? 47).map (fun i=>(i.zero,i.size,i.bytes))=some (some (.agg #[U O 0,U O 0]),2,16):=by kernel_rfl
theorem Eo (w:World) (o:Obj) {g:Nat} (hg:w.heap.size=g):(w.alloc o).heap[g]?=some o:=by subst hg;exact heap_alloc_new w o
def OwnR (w:World) (base:Nat) (v:Value) (l:List (Nat × Nat)):Prop:=w.ownsRow base 47 2 v l.length (rcells l)
theorem OwnR.nil_ (w:World) (base:Nat):OwnR w base (Us none 0 0) []:=Bh w base _ _
theorem OwnR.snoc {w:World} {base n:Nat} {v:Value} {l:List (Nat × Nat)} {x y:Nat} (h:w.ownsRow base 47 2 v (n+1) (rcells l++[U O x,U O y])) (hn:l.length=n):OwnR w base v (l++[(x,y)]):=by
 unfold OwnR;rw [EX,Va,hn];exact h
theorem DG {w:World} {b1 b2 e size n:Nat} {v:Value} {xs:List Value} (hb:b2<=b1) (h:w.ownsRow b1 e size v n xs):w.ownsRow b2 e size v n xs:=by
 rcases h.2 with h1 | ⟨g,cap,cur,e1,hg,h1⟩
 . exact ⟨h.1,.inl h1⟩
 . exact ⟨h.1,.inr ⟨g,cap,cur,e1,by omega,h1⟩⟩
def RdR (w:World) (B:Nat) (A:Option Addr) (l:List (Nat × Nat)):Prop:=Rd w B A (rcells l)
theorem OwnR.rd {w:World} {base cap:Nat} {A:Option Addr} {l:List (Nat × Nat)} {n:Nat} (h:OwnR w base (Us A n cap) l):RdR w w.heap.size A l/\n=l.length/\n<=cap:=by
 have hn:n=l.length:=by
  rcases h.2 with ⟨hv,hz⟩ | ⟨g,c,cur,hv,_⟩
  . injection hv with _ h2 _;omega
  . injection hv
 subst hn;exact ⟨AJ h,rfl,Be h⟩
theorem RdR.at_ {w:World} {B:Nat} {A:Option Addr} {l:List (Nat × Nat)} (h:RdR w B A l) (h0:0<l.length) :
  ∃ b off,A=some ⟨b,off,none⟩/\b<B/\∀ j p,l[j]?=some p->w.cell? ⟨b,off+j*2,none⟩=some (U O p.1)/\w.cell? ⟨b,off+j*2+1,none⟩=some (U O p.2):=by
 obtain ⟨b,off,e,hb,hc⟩:=h (by rw [En];omega);exact ⟨b,off,e,hb,fun j p hj=>⟨hc _ _ (Ed l j p hj).1,by rw [Nat.add_assoc];exact hc _ _ (Ed l j p hj).2⟩⟩
theorem RdR.below {w w':World} {B:Nat} {A:Option Addr} {l:List (Nat × Nat)} (h:RdR w B A l) (hb:Below B w w'):RdR w' B A l:=Rd.below h hb
theorem RdR.more {w:World} {B B':Nat} {A:Option Addr} {l:List (Nat × Nat)} (h:RdR w B A l) (hB:B<=B'):RdR w B' A l:=Rd.more h hB
structure Keep (E:Nat->Prop) (w w':World):Prop where
 os:w'.os=w.os
 tape:w'.tape=w.tape
 output:w'.output=w.output
 size:w.heap.size<=w'.heap.size
 block:∀ g,g<w.heap.size->¬ E g->w'.heap[g]?=w.heap[g]?
theorem Keep.refl (E:Nat->Prop) (w:World):Keep E w w:=⟨rfl,rfl,rfl,UN _,fun _ _ _=>rfl⟩
theorem Keep.of_below {E:Nat->Prop} {B:Nat} {a b:World} (h:Below B a b) (hE:∀ g,B<=g->g<a.heap.size->E g):Keep E a b:=⟨h.os,h.tape,h.output,h.size,fun g hg hn=>h.block g (by
 rcases UR g B with h1 | h1
 . exact h1
 . exact absurd (hE g h1 hg) hn)⟩
theorem Keep.of_below0 {E:Nat->Prop} {a b:World} (h:Below a.heap.size a b):Keep E a b:=Keep.of_below h fun g h1 h2=>by omega
theorem Keep.set {E:Nat->Prop} {a b:World} (h:Keep E a b) {p:Addr} (hp:E p.block\/a.heap.size<=p.block) (u:Value):Keep E a (b.setCell p u) :=
 ⟨h.os,h.tape,h.output,by simpa [US] using h.size,fun g hg hn=>(UT b p u g (by
  rintro rfl
  rcases hp with hp | hp
  . exact hn hp
  . omega)).trans (h.block g hg hn)⟩
theorem Keep.grown {E:Nat->Prop} {a b c:World} {row:Option Nat} (h:Keep E a b) (hg:b.grownBy c row) (hr:∀ k,row=some k->E k\/a.heap.size<=k):Keep E a c :=
 ⟨hg.os.trans h.os,hg.tape.trans h.tape,hg.output.trans h.output,UM h.size hg.size,fun g hlt hn=>(hg.block g (UO hlt h.size) (fun e=>by
  rcases hr g e.symm with h1 | h1
  . exact hn h1
  . omega)).trans (h.block g hlt hn)⟩
theorem Keep.put {E:Nat->Prop} {a b:World} (h:Keep E a b) {k:Nat} (hk:E k\/a.heap.size<=k) (o:Obj):Keep E a (b.putObj k o) :=
 h.grown (grownBy_putObj' b k o) fun j e=>by injection e with e;subst e;exact hk
theorem Keep.blk {E:Nat->Prop} {a b:World} (h:Keep E a b) {g:Nat} {o:Obj} (ho:a.heap[g]?=some o) (hg:¬ E g):b.heap[g]?=some o:=(h.block g (AZ ho) hg).trans ho
theorem Keep.cell {E:Nat->Prop} {a b:World} (h:Keep E a b) {p:Addr} {v:Value} (hc:a.cell? p=some v) (hp:¬ E p.block):b.cell? p=some v :=
 (World.cell?_of_block (w:=a) (w':=b) (h.block p.block (World.block_lt_of_cell? a p hc) hp)).trans hc
theorem Keep.own {E:Nat->Prop} {a b:World} {base e size n:Nat} {v:Value} {xs:List Value} (h:Keep E a b) (ho:a.ownsRow base e size v n xs) (hv:∀ k,v.ownBlock=some k->¬ E k):b.ownsRow base e size v n xs:=by
 rcases ho.2 with ⟨rfl,h0⟩ | ⟨g,cap,cur,rfl,hg,hgh,h1⟩
 . exact ⟨ho.1,.inl ⟨rfl,h0⟩⟩
 . exact ⟨ho.1,.inr ⟨g,cap,cur,rfl,hg,h.blk hgh (hv g rfl),h1⟩⟩
theorem AF {w:World} {base e size n cap:Nat} {A:Option Addr} {xs:List Value} (h:w.ownsRow base e size (Us A n cap) n xs):∀ p,A=some p->base<=p.block:=by
 rintro p rfl
 rcases h.2 with ⟨hv,_⟩ | ⟨g,c,cur,hv,hg,_⟩
 . cases hv
 . injection hv with h1
   injection h1 with h1
   subst h1;exact hg
inductive Ch where
 | bel (B:Nat) (w0:World)
 | obj (g:Nat) (o:Obj)
 | rd (A:Option Addr) (vs:List Value)
 | own (base e size:Nat) (v:Value) (n:Nat) (xs:List Value)
 | st (F:Nat->Prop) (P:World->Prop)
structure Local (F:Nat->Prop) (P:World->Prop) (W:World):Prop where
 now:P W
 lt:∀ g,F g->g<W.heap.size
 keep:∀ W1 W2:World,W1.heap.size<=W2.heap.size->(∀ g,F g->W2.heap[g]?=W1.heap[g]?)->P W1->P W2
def Ch.Holds (W:World):Ch->Prop
 | .bel B w0=>Below B w0 W/\B<=w0.heap.size
 | .obj g o=>W.heap[g]?=some o
 | .rd A vs=>Rd W W.heap.size A vs
 | .own base e size v n xs=>W.ownsRow base e size v n xs/\base<=W.heap.size
 | .st F P=>Local F P W
def Ch.fp:Ch->Nat->Prop
 | .bel B _,g=>g<B
 | .obj k _,g=>g=k
 | .rd A vs,g=>0<vs.length/\∃ p:Addr,A=some p/\p.block=g
 | .own _ _ _ v _ _,g=>v.ownBlock=some g
 | .st F _,g=>F g
def Ch.mut:Ch->Prop
 | .obj ..=>True
 | .own ..=>True
 | _=>False
theorem Ch.lt {W:World} {c:Ch} (h:c.Holds W) {g:Nat} (hg:c.fp g):g<W.heap.size:=by
 cases c with
 | bel B w0=>exact UO hg (UM h.2 h.1.size)
 | obj k o=>cases hg;exact AZ h
 | rd A vs =>
   obtain ⟨h0,p,rfl,rfl⟩:=hg;obtain ⟨b,off,e,hb,_⟩:=h h0;injection e with e
   subst e;exact hb
 | own=>exact (h.1.lt g hg).2
 | st F P=>exact h.lt g hg
theorem Ch.keep {W W':World} {E:Nat->Prop} {c:Ch} (h:c.Holds W) (k:Keep E W W') (hE:∀ g,c.fp g->¬ E g):c.Holds W':=by
 cases c with
 | bel B w0 =>
   have hB:B<=W.heap.size:=UM h.2 h.1.size;exact ⟨h.1.trans ⟨k.os,k.tape,k.output,k.size,fun g hg=>k.block g (by omega) (hE g hg)⟩,h.2⟩
 | obj g o=>exact k.blk h (hE g rfl)
 | rd A vs=>exact Rd.more (fun h0=>by
   obtain ⟨b,off,e,hb,hc⟩:=h h0
   exact ⟨b,off,e,hb,fun j u hu=>k.cell (hc j u hu) (hE b ⟨h0,_,e,rfl⟩)⟩) k.size
 | own=>exact ⟨k.own h.1 fun g hg=>hE g hg,UM h.2 k.size⟩
 | st F P=>exact ⟨h.keep W W' k.size (fun g hg=>k.block g (h.lt g hg) (hE g hg)) h.now,fun g hg=>UO (h.lt g hg) k.size,h.keep⟩
structure Mem (W:World) (L:List Ch):Prop where
 holds:∀ (i:Nat) (c:Ch),L[i]?=some c->c.Holds W
 sep:∀ (i j:Nat) (c d:Ch),i≠j->L[i]?=some c->L[j]?=some d->c.mut->∀ g,c.fp g->¬ d.fp g
theorem FC {α:Type} {L:List α} {c d:α} {i:Nat} (h:(L++[c])[i]?=some d):(i<L.length/\L[i]?=some d)\/(i=L.length/\d=c):=by
 rcases Vc i L.length with hlt | he | hgt
 . rw [Vd hlt] at h;exact .inl ⟨hlt,h⟩
 . subst he;simp at h;exact .inr ⟨rfl,h.symm⟩
 . rw [UP (by omega)] at h;rw [Ve (by simp;omega)] at h
   cases h
theorem at_l {L M:List Ch} {i:Nat} {c:Ch} (h:L[i]?=some c):(L++M)[i]?=some c:=by
 rw [Vd (List.getElem?_eq_some_iff.1 h).1];exact h
theorem Bc {L:List Ch} {c:Ch}:(L++[c])[L.length]?=some c:=by simp
theorem AU {L:List Ch} {i:Nat} {c d:Ch} (h:L[i]?=some c):(L.set i d)[i]?=some d:=Vf (List.getElem?_eq_some_iff.1 h).1
theorem By {L:List Ch} {i j:Nat} {c d:Ch} (hne:i≠j) (h:L[j]?=some c):(L.set i d)[j]?=some c:=by rw [UW hne];exact h
theorem Dl {L:List Ch} {i j:Nat} {c d:Ch} (h:L[i]?=some c) (k:L[j]?=some d) (hne:c≠d):i≠j:=by
 rintro rfl;rw [h] at k;injection k with k
 exact hne k
theorem DO {L M:List Ch} {i:Nat} {c d:Ch} (h:L[i]?=some c):(L++M).set i d=L.set i d++M:=List.set_append_left i d (List.getElem?_eq_some_iff.1 h).1
theorem Dv {L:List Ch} {i:Nat} {c:Ch} (h:L[i]?=some c):L.set i c=L:=by
 apply List.ext_getElem?;intro j
 by_cases hij:i=j
 . subst hij;rw [AU h,h]
 . rw [UW hij]
theorem I7 {L M:List Ch}:(L++M).take L.length=L:=by simp
def two (L:List Ch) (o i:Nat) (x y:Ch):List Ch:=(L.set o x).set i y
theorem I8 {L:List Ch} {o i:Nat} {x y c:Ch} (h:L[o]?=some c) (hne:i≠o):(two L o i x y)[o]?=some x:=By hne (AU h)
theorem FD {L:List Ch} {o i:Nat} {x y c:Ch} (h:L[i]?=some c) (hne:i≠o):(two L o i x y)[i]?=some y:=AU (By (Ne.symm hne) h)
theorem FE {L:List Ch} {o i k:Nat} {x y c:Ch} (h:L[k]?=some c) (h1:o≠k) (h2:i≠k):(two L o i x y)[k]?=some c:=By h2 (By h1 h)
theorem JT {L B:List Ch} {o i:Nat} {x y x' y' c d:Ch} (h:L[o]?=some c) (k:L[i]?=some d) (hne:i≠o):((two L o i x y++B).set o x').set i y'=two L o i x' y'++B:=by
 rw [DO (I8 h hne),DO (i:=i) (c:=y) (By (Ne.symm hne) (FD k hne))];unfold two;rw [List.set_comm (l:=L.set o x) y x' hne,List.set_set,List.set_set]
theorem ND {L:List Ch} {o i:Nat} {x y:Ch} (h:L[o]?=some x) (k:L[i]?=some y):two L o i x y=L:=by
 unfold two;rw [Dv h,Dv k]
theorem JU {L:List Ch} {o i:Nat} {x y:Ch}:(two L o i x y).length=L.length:=by simp [two]
theorem BK {L B:List Ch} {o i:Nat} {x y c:Ch} (j:Nat) (h:B[j]?=some c):(two L o i x y++B)[L.length+j]?=some c:=by
 rw [UP (by rw [JU];omega),JU,Nat.add_sub_cancel_left];exact h
namespace Mem
variable {W W':World} {L:List Ch}
theorem start (w:World):Mem w [.bel w.heap.size w]:=⟨fun i c h=>by
  cases i with
  | zero=>simp at h;subst h;exact ⟨Below.refl _ _,UN _⟩
  | succ i=>simp at h,fun i j c d hne h1 h2=>by
  cases i <;> cases j <;> simp at h1 h2 hne⟩
theorem keep {E:Nat->Prop} (h:Mem W L) (k:Keep E W W') (hE:∀ (i:Nat) (c:Ch),L[i]?=some c->∀ g,c.fp g->¬ E g):Mem W' L :=
 ⟨fun i c hi=>Ch.keep (h.holds i c hi) k (hE i c hi),h.sep⟩
theorem below (h:Mem W L) (hb:Below W.heap.size W W'):Mem W' L:=h.keep (Keep.of_below0 (E:=fun _=>False) hb) fun _ _ _ _ _ h=>h
theorem drew (h:Mem W L):Mem W.drew L:=h.below ⟨rfl,rfl,rfl,UN _,fun _ _=>rfl⟩
theorem drewN (h:Mem W L) (n:Nat):Mem (W.drewN n) L:=h.below ⟨rfl,rfl,rfl,UN _,fun _ _=>rfl⟩
theorem add {c:Ch} (h:Mem W L) (hc:c.Holds W) (hs:∀ (i:Nat) (d:Ch),L[i]?=some d->(c.mut\/d.mut)->∀ g,c.fp g->¬ d.fp g):Mem W (L++[c]):=by
 constructor
 . intro i d hi
   rcases FC hi with ⟨_,h1⟩ | ⟨_,rfl⟩
   . exact h.holds i d h1
   . exact hc
 . intro i j a b hne hi hj hm g ha hb
   rcases FC hi with ⟨h1,h2⟩ | ⟨h1,rfl⟩ <;> rcases FC hj with ⟨k1,k2⟩ | ⟨k1,rfl⟩
   . exact h.sep i j a b hne h2 k2 hm g ha hb
   . exact hs i a h2 (.inr hm) g hb ha
   . exact hs j b k2 (.inl hm) g ha hb
   . omega
theorem push {c:Ch} (h:Mem W L) (hb:Below W.heap.size W W') (hc:c.Holds W') (hf:∀ g,c.fp g->W.heap.size<=g):Mem W' (L++[c]) :=
 (h.below hb).add hc fun i d hi _ g h1 h2=>by
  have:=hf g h1;have:=Ch.lt (h.holds i d hi) h2;omega
theorem alloc (h:Mem W L) (o:Obj):Mem (W.alloc o) (L++[.obj W.heap.size o]) :=
 h.push ((Below.refl _ _).alloc (UN _) o) (heap_alloc_new W o) fun g hg=>by cases hg;exact UN _
theorem alloc_ {o:Obj} (h:Mem W L) (hW:W'=W.alloc o):Mem W' (L++[.obj W.heap.size o]):=hW ▸ h.alloc o
theorem more {c d:Ch} {i:Nat} (h:Mem W L) (hi:L[i]?=some c) (hm:¬ c.mut) (hd:d.Holds W) (hdm:¬ d.mut) (hf:∀ g,d.fp g->c.fp g):Mem W (L++[d]) :=
 h.add hd fun j e hj hme g h1 h2=>by
  rcases hme with hme | hme
  . exact hdm hme
  . have hne:j≠i:=by
     rintro rfl;rw [hi] at hj;injection hj with hj
     subst hj;exact hm hme
    exact h.sep j i e c hne hj hi hme g h2 (hf g h1)
theorem upd {c c':Ch} {i:Nat} (h:Mem W L) (hi:L[i]?=some c) (hm:c.mut) (k:Keep (fun g=>c.fp g) W W') (hc:c'.Holds W') (hf:∀ g,c'.fp g->c.fp g\/W.heap.size<=g):Mem W' (L.set i c'):=by
 have hlt:i<L.length:=by
  rcases UR i L.length with h1 | h1
  . exact h1
  . rw [Ve h1] at hi;cases hi
 have old:∀ j d,j≠i->(L.set i c')[j]?=some d->L[j]?=some d:=fun j d hne hj=>by
  rw [UW (Ne.symm hne)] at hj;exact hj
 have new:∀ d,(L.set i c')[i]?=some d->d=c':=fun d hd=>by
  rw [Vf hlt] at hd;injection hd with hd;exact hd.symm
 have off:∀ j d,j≠i->L[j]?=some d->∀ g,c'.fp g->¬ d.fp g:=fun j d hne hj g h1 h2=>by
  rcases hf g h1 with h3 | h3
  . exact h.sep i j c d (Ne.symm hne) hi hj hm g h3 h2
  . have:=Ch.lt (h.holds j d hj) h2;omega
 constructor
 . intro j d hj
   by_cases hji:j=i
   . subst hji;rw [new d hj];exact hc
   . have h1:=old j d hji hj;exact Ch.keep (h.holds j d h1) k fun g h2 h3=>h.sep i j c d (Ne.symm hji) hi h1 hm g h3 h2
 . intro j l a b hne hj hl ha g h1 h2
   by_cases hji:j=i
   . subst hji;rw [new a hj] at h1;exact off l b (Ne.symm hne) (old l b (Ne.symm hne) hl) g h1 h2
   . by_cases hli:l=i
     . subst hli;rw [new b hl] at h2;exact off j a hji (old j a hji hj) g h2 h1
     . exact h.sep j l a b hne (old j a hji hj) (old l b hli hl) ha g h1 h2
theorem turn {c c':Ch} {i:Nat} (h:Mem W L) (hi:L[i]?=some c) (hc:c'.Holds W) (hf:∀ g,c'.fp g->c.fp g) (hm:c.mut):Mem W (L.set i c') :=
 h.upd hi hm ⟨rfl,rfl,rfl,UN _,fun _ _ _=>rfl⟩ hc fun g hg=>.inl (hf g hg)
theorem set {g j:Nat} {cs:Array Value} {t:TypeId} {i:Nat} (h:Mem W L) (hi:L[i]?=some (.obj g (.cells cs t (0,0)))) (v:Value) :
  Mem (W.setCell ⟨g,j,none⟩ v) (L.set i (.obj g (.cells (cs.setIfInBounds j v) t (0,0)))) :=
 h.upd hi trivial ((Keep.refl (fun k=>k=g) W).set (p:=⟨g,j,none⟩) (.inl rfl) v) (Ec (h.holds i _ hi) j v) fun _ hg=>.inl hg
theorem put {g:Nat} {o:Obj} {i:Nat} (h:Mem W L) (hi:L[i]?=some (.obj g o)) (o':Obj):Mem (W.putObj g o') (L.set i (.obj g o')) :=
 h.upd hi trivial ((Keep.refl (fun k=>k=g) W).put (k:=g) (.inl rfl) o') (World.putObj_heap_same (AZ (h.holds i _ hi))) fun _ hg=>.inl hg
theorem grow {base e size n n':Nat} {v v':Value} {xs xs':List Value} {i:Nat} (h:Mem W L) (hi:L[i]?=some (.own base e size v n xs)) (hg:W.grownBy W' v.ownBlock) (ho:W'.ownsRow base e size v' n' xs') (hv:v'.ownBlock=v.ownBlock\/∃ k,v'.ownBlock=some k/\W.heap.size<=k) :
  Mem W' (L.set i (.own base e size v' n' xs')) :=
 h.upd hi trivial ((Keep.refl _ W).grown hg fun k hk=>.inl hk) ⟨ho,UM (h.holds i _ hi).2 hg.size⟩ fun g hg=>by
  rcases hv with hv | ⟨k,hk,hle⟩
  . exact .inl (hv.symm.trans hg)
  . refine .inr ?_;have e1:v'.ownBlock=some g:=hg;rw [hk] at e1;injection e1 with e1
    omega
theorem setOwn {base e size n cap g j:Nat} {xs:List Value} {i:Nat} (h:Mem W L) (hi:L[i]?=some (.own base e size (Us (some ⟨g,0,none⟩) n cap) n xs)) (u:Value) :
  Mem (W.setCell ⟨g,j,none⟩ u) (L.set i (.own base e size (Us (some ⟨g,0,none⟩) n cap) n (xs.set j u))) :=
 h.grow hi ((h.holds i _ hi).1.stored j u).2 ((h.holds i _ hi).1.stored j u).1 (.inl rfl)
theorem freeze {base e size n cap:Nat} {A:Option Addr} {xs:List Value} {i:Nat} (h:Mem W L) (hi:L[i]?=some (.own base e size (Us A n cap) n xs)):Mem W (L.set i (.rd A xs)) :=
 h.turn hi (AJ (h.holds i _ hi).1) (fun g hg=>by
  obtain ⟨_,p,rfl,rfl⟩:=hg
  rfl) trivial
theorem pick (h:Mem W L) (is:List Nat) (L':List Ch) (he:is.map (fun i=>L[i]?)=L'.map some) (hn:is.Nodup):Mem W L':=by
 have key:∀ (i:Nat) (c:Ch),L'[i]?=some c->∃ k,is[i]?=some k/\L[k]?=some c:=fun i c hi=>by
  have h1:=congrArg (fun l=>l[i]?) he;simp only [List.getElem?_map,hi,Option.map_some] at h1
  cases hk:is[i]? with
  | none=>rw [hk] at h1;cases h1
  | some k=>rw [hk] at h1;exact ⟨k,rfl,by simpa using h1⟩
 constructor
 . intro i c hi;obtain ⟨k,_,h2⟩:=key i c hi;exact h.holds k c h2
 . intro i j c d hne hi hj hm g hc hd;obtain ⟨k,k1,k2⟩:=key i c hi;obtain ⟨l,l1,l2⟩:=key j d hj;refine h.sep k l c d (fun e=>hne ?_) k2 l2 hm g hc hd;subst e;obtain ⟨hi',e1⟩:=List.getElem?_eq_some_iff.1 k1;obtain ⟨hj',e2⟩:=List.getElem?_eq_some_iff.1 l1
   rcases Vc i j with h1 | h1 | h1
   . exact absurd (e1.trans e2.symm) (List.pairwise_iff_getElem.1 hn i j hi' hj' h1)
   . exact h1
   . exact absurd (e2.trans e1.symm) (List.pairwise_iff_getElem.1 hn j i hj' hi' h1)
theorem front (h:Mem W L) (n:Nat):Mem W (L.take n):=by
 have key:∀ (i:Nat) (c:Ch),(L.take n)[i]?=some c->L[i]?=some c:=fun i c hi=>by
  rw [UZ] at hi
  split at hi
  . exact hi
  . cases hi
 exact ⟨fun i c hi=>h.holds i c (key i c hi),fun i j c d hne hi hj=>h.sep i j c d hne (key i c hi) (key j d hj)⟩
theorem setl {M:List Ch} {i:Nat} {c d:Ch} (h:Mem W ((L++M).set i c)) (hi:L[i]?=some d):Mem W (L.set i c):=by
 rw [DO hi] at h;have:=h.front (L.set i c).length
 rwa [I7] at this
theorem asc {X B C:List Ch} (h:Mem W ((X++B)++C)):Mem W (X++(B++C)):=by rw [<- Vg];exact h
theorem left2 {X B C:List Ch} (h:Mem W (X++(B++C))):Mem W (X++B):=by
 rw [<- Vg] at h;have:=h.front (X++B).length
 rwa [I7] at this
theorem left {M:List Ch} (h:Mem W (L++M)):Mem W L:=by
 have:=h.front L.length
 rwa [I7] at this
theorem bel (h:Mem W L) (i:Nat) {B:Nat} {w0:World} (hi:L[i]?=some (.bel B w0)):Below B w0 W:=(h.holds i _ hi).1
theorem obj (h:Mem W L) (i:Nat) {g:Nat} {o:Obj} (hi:L[i]?=some (.obj g o)):W.heap[g]?=some o:=h.holds i _ hi
theorem lt (h:Mem W L) (i:Nat) {g:Nat} {o:Obj} (hi:L[i]?=some (.obj g o)):g<W.heap.size:=AZ (h.holds i _ hi)
theorem cell (h:Mem W L) (i j:Nat) {g:Nat} {cs:Array Value} {t:TypeId} {v:Value} (hi:L[i]?=some (.obj g (.cells cs t (0,0)))) (hj:cs[j]?=some v):W.cell? ⟨g,j,none⟩=some v :=
 (Ay (h.holds i _ hi) j).trans hj
theorem cells (h:Mem W L) (i:Nat) {g:Nat} {cs:Array Value} {t:TypeId} (hi:L[i]?=some (.obj g (.cells cs t (0,0)))) (k:Nat):W.cell? ⟨g,k,none⟩=cs.toList[k]?:=by
 rw [Ay (h.holds i _ hi) k];simp
theorem frozen (h:Mem W L) (i j:Nat) {g:Nat} {cs:Array Value} {t:TypeId} (hi:L[i]?=some (.obj g (.cells cs t (0,0)))):W.frozen? ⟨g,j,none⟩=false:=DD (h.holds i _ hi) j
theorem rd (h:Mem W L) (i:Nat) {A:Option Addr} {vs:List Value} (hi:L[i]?=some (.rd A vs)):Rd W W.heap.size A vs:=h.holds i _ hi
theorem own (h:Mem W L) (i:Nat) {base e size n:Nat} {v:Value} {xs:List Value} (hi:L[i]?=some (.own base e size v n xs)):W.ownsRow base e size v n xs:=(h.holds i _ hi).1
theorem st (h:Mem W L) (i:Nat) {F:Nat->Prop} {P:World->Prop} (hi:L[i]?=some (.st F P)):P W:=(h.holds i _ hi).now
theorem rdAt (h:Mem W L) (i:Nat) {b off j:Nat} {u:Value} {vs:List Value} (hi:L[i]?=some (.rd (some ⟨b,off,none⟩) vs)) (hv:vs[j]?=some u):W.cell? ⟨b,off+j,none⟩=some u:=by
 obtain ⟨b',off',e,_,hc⟩:=h.rd i hi (by have:=(List.getElem?_eq_some_iff.1 hv).1;omega);injection e with e
 injection e with e1 e2
 subst e1;subst e2
 exact hc j u hv
theorem add_rd {w0:World} {B:Nat} {A:Option Addr} {vs:List Value} {i:Nat} (h:Mem W L) (hi:L[i]?=some (.bel B w0)) (hr:Rd w0 B A vs):Mem W (L++[.rd A vs]):=by
 have hh:=h.holds i _ hi;refine h.more hi (fun h=>h) ((hr.below hh.1).more (UM hh.2 hh.1.size)) (fun h=>h) ?_;rintro g ⟨h0,p,rfl,rfl⟩;obtain ⟨b,off,e,hb,_⟩:=hr h0;injection e with e
 subst e;exact hb
theorem push_rd {A:Option Addr} {vs:List Value} (h:Mem W L) (hb:Below W.heap.size W W') (hr:Rd W' W'.heap.size A vs) (hA:∀ p,A=some p->W.heap.size<=p.block):Mem W' (L++[.rd A vs]) :=
 h.push hb hr fun _ ⟨_,p,h1,h2⟩=>h2 ▸ hA p h1
theorem push_own {base e size n:Nat} {v:Value} {xs:List Value} (h:Mem W L) (hb:Below W.heap.size W W') (hr:W'.ownsRow base e size v n xs) (hB:W.heap.size=base):Mem W' (L++[.own base e size v n xs]) :=
 h.push hb ⟨hr,hB ▸ hb.size⟩ fun g hg=>hB ▸ (hr.lt g hg).1
end Mem
section
variable {P:Program} {Q:Exit->Act->World->Prop} {a:Act} {w:World}
theorem A9 {c:Code} (h:∀ W,Hid (W=w)->c.wp P Q a W):c.wp P Q a w:=h w (K1 rfl)
theorem Dw {f:FuncId} {args:Array Value} {R:Ending->World->Prop} (h:∀ W,Hid (W=w)->Calls P f args W R):Calls P f args w R:=h w (K1 rfl)
end
end
section
def cnt:List Int->Int
 | a::b::r=>(a+1)*b+cnt (b::r)
 | _=>0
theorem I9:∀ (zs:List Int) (k:Nat) (a b:Int),zs[k]?=some a->zs[k+1]?=some b->cnt (zs.take (k+2))=cnt (zs.take (k+1))+(a+1)*b
 | [],_,_,_,h,_=>by simp at h
 | [x],k,_,_,_,h=>by simp at h
 | x::y::r,0,a,b,h,h'=>by
   simp at h h';subst h;subst h'
   simp [cnt]
 | x::y::r,k+1,a,b,h,h'=>by
   have ih:=I9 (y::r) k a b (by simpa using h) (by simpa using h');simp only [List.take_succ_cons,cnt] at ih ⊢;rw [ih];omega
def okSz (x:Int):Bool:=decide (1<=x/\x<=1048576)
theorem Di {x:Int}:okSz x=true↔1<=x/\x<=1048576:=by simp [okSz]
theorem IA {x:Int}:okSz x=false↔x<1\/1048576<x:=by
 unfold okSz;rw [decide_eq_false_iff_not];omega
theorem JV (a b:Int) (ha:1<=a/\a<=1048576) (hb:1<=b/\b<=1048576):0<=(a+1)*b/\(a+1)*b<=1099512676352:=by
 constructor
 . exact Int.mul_nonneg (by omega) (by omega)
 . have h:(a+1)*b<=1048577*1048576:=Int.mul_le_mul (by omega) hb.2 (by omega) (by omega);omega
theorem GF:∀ (zs:List Int),(∀ z∈zs,okSz z=true)->0<=cnt zs/\cnt zs<=zs.length*1099512676352
 | [],_=>by simp [cnt]
 | [x],_=>by simp [cnt]
 | x::y::r,h=>by
   have ih:=GF (y::r) (fun z hz=>h z (List.mem_cons_of_mem _ hz));have hm:=JV x y (Di.1 (h x (by simp))) (Di.1 (h y (by simp)));simp only [cnt,UV] at ih ⊢;omega
def AV (zs:List Int):Int :=
 if zs.length<2\/16<zs.length then 5
 else if zs.all okSz=false then 5
 else if 1048576<cnt zs then 4 else 0
def lo (zs:List Int) (k:Nat):Int:=cnt (zs.take (k+1))
def zAt (zs:List Int) (k:Nat):Int:=zs.getD k 0
def mid (zs:List Int) (k:Nat):Int:=lo zs k+zAt zs (k+1)*zAt zs k
def wcells (zs:List Int):Nat->List Value
 | 0=>[]
 | k+1=>wcells zs k++[U O (lo zs k),U O (mid zs k)]
def bcells (zs:List Int):Nat->List Value
 | 0=>[]
 | k+1=>bcells zs k++[U O (mid zs k),U O (lo zs (k+1))]
theorem IB (zs:List Int) (k:Nat) (a b:Int) (ha:zs[k]?=some a) (hb:zs[k+1]?=some b):lo zs (k+1)=lo zs k+b*a+b:=by
 unfold lo;rw [I9 zs k a b ha hb,Int.add_mul,Int.one_mul,Int.mul_comm a b];omega
theorem IC (zs:List Int) (k:Nat) (a b:Int) (ha:zs[k]?=some a) (hb:zs[k+1]?=some b):mid zs k=lo zs k+b*a:=by
 simp [mid,zAt,List.getD,ha,hb]
end
section
structure RowT (P:Program) (t e:TypeId) (size bytes:Nat):Prop where
 ex:∃ i z,P.underlying t=some (.slice e)/\P.info? e=some i/\i.zero=some z/\i.size=size/\i.bytes=bytes/\z.cells.size=size/\0<size/\bytes<=1000
section
variable {P:Program} {w:World}
theorem NE (base:Nat) {t ty e:TypeId} {size bytes:Nat} (T:RowT P t e size bytes)
  (v:Value) (n:Nat) (xs:List Value) (hown:w.ownsRow base e size v n xs)
  (A:Option Addr) (m c:Nat) (news:List Value) (hr:Rd w w.heap.size A news) (hl:news.length=m*size) (h1:∀ u∈news,u.oneCell'=true)
  (hn:n+m<=1073741824) (hbase:base<=w.heap.size) :
  ∃ v' w',(Builtin.append_ #[t,t] ty #[v,Us A m c]).run P w=.ok v' w'/\w'.ownsRow base e size v' (n+m) (xs++news)/\w.grownBy w' v.ownBlock /\
    (v'.ownBlock=v.ownBlock\/v'.ownBlock=some w.heap.size):=by
 obtain ⟨i,z,ht,hi,hz,hsize,hby,hzs,hsz,hb⟩:=T.ex;have h63:n+m<=maxLen:=by simp only [maxLen];omega
 have hbytes:(n+m)*bytes<=140737488355328:=UM (Nat.mul_le_mul hn hb) (by decide)
 rcases UU news.length with h0 | h0
 . have hnn:news=[]:=List.eq_nil_of_length_eq_zero h0;subst hnn
   have hm:m=0:=by
    rcases UU m with h | h
    . exact h
    . have:=Nat.mul_pos h hsz;simp at hl;omega
   subst hm
   rcases A with _ | ad
   . exact ⟨v,w,N9 w base t ty e i size ht hi v n xs hown c,by simpa using hown,World.grownBy.refl w _,.inl rfl⟩
   . obtain ⟨v',w',hrun,h2,h3,_,h5⟩:=run_append_own_at (P:=P) w base t ty e i z size bytes ht hi hz hsize hby hzs hsz v n xs hown ad 0 c [] (by simp) (fun j u hu=>by simp at hu) h1 h63 hbytes hbase;exact ⟨v',w',hrun,h2,h3,h5⟩
 . obtain ⟨b,off,rfl,_,hc⟩:=hr h0;have hcells:∀ j u,news[j]?=some u->w.cell? ((⟨b,off,none⟩:Addr).add j)=some u:=fun j u hu=>by rw [Cg];exact hc j u hu
   obtain ⟨v',w',hrun,h2,h3,_,h5⟩:=run_append_own_at (P:=P) w base t ty e i z size bytes ht hi hz hsize hby hzs hsz v n xs hown ⟨b,off,none⟩ m c news hl hcells h1 h63 hbytes hbase;exact ⟨v',w',hrun,h2,h3,h5⟩
theorem JW {L:List Ch} (HM:Mem w L) (k:Nat) {base:Nat} {t ty e:TypeId} {size bytes:Nat} (T:RowT P t e size bytes)
  {v:Value} {n:Nat} {xs:List Value} (hk:L[k]?=some (.own base e size v n xs))
  (A:Option Addr) (m c:Nat) (news:List Value) (hr:Rd w w.heap.size A news) (hl:news.length=m*size) (h1:∀ u∈news,u.oneCell'=true) (hn:n+m<=1073741824) :
  ∃ A' c' w',(Builtin.append_ #[t,t] ty #[v,Us A m c]).run P w=.ok (Us A' (n+m) c') w'/\Mem w' (L.set k (.own base e size (Us A' (n+m) c') (n+m) (xs++news))):=by
 obtain ⟨v',w',hrun,h2,h3,h4⟩:=NE (ty:=ty) base T v n xs (HM.own k hk) A m c news hr hl h1 hn (HM.holds k _ hk).2;obtain ⟨A',c',rfl⟩:=DF h2;exact ⟨A',c',w',hrun,HM.grow hk h3 h2 (h4.imp id fun h=>⟨_,h,UN _⟩)⟩
variable {o:Oper} {a:Act} {Q:Exit->Act->World->Prop}
theorem NF {K:Act->World->Prop} (s x:Operand) (t:TypeId)
  (ho:o.op=.call { callee:=.builtin .append,args:=#[s,x],argTypes:=#[t,t] }) {L:List Ch} (HM:Mem w L) (k:Nat) {base:Nat} {e:TypeId} {size bytes:Nat} (T:RowT P t e size bytes)
  {v:Value} {n:Nat} {xs:List Value} (hk:L[k]?=some (.own base e size v n xs)) (hs:a.eval s=v)
  (A:Option Addr) (m c:Nat) (news:List Value) (hx:a.eval x=Us A m c) (hr:Rd w w.heap.size A news) (hl:news.length=m*size) (h1:∀ u∈news,u.oneCell'=true) (hn:n+m<=1073741824)
  (h:∀ A' c' w',Mem w' (L.set k (.own base e size (Us A' (n+m) c') (n+m) (xs++news)))->K (a.put o.dst (Us A' (n+m) c')) w'):o.wp P a w K Q:=by
 obtain ⟨A',c',w',hrun,h2⟩:=JW (ty:=o.type) HM k T hk A m c news hr hl h1 hn;unfold Oper.wp execOp;simp only [ho,resolve,invoke,builtin,Sem.run_bind,Sem.run_pure,Result.andThen_ok,List.map_toArray,List.map_cons,List.map_nil,hs,hx,hrun];exact h A' c' w' h2
theorem AQ {ops:Array Oper} {rest:List Oper} (hgd:o.guard=none) (s x:Operand) (t:TypeId)
  (ho:o.op=.call { callee:=.builtin .append,args:=#[s,x],argTypes:=#[t,t] }) {L:List Ch} (HM:Mem w L) (k:Nat) {base:Nat} {e:TypeId} {size bytes:Nat} (T:RowT P t e size bytes)
  {v:Value} {n:Nat} {xs:List Value} (hk:L[k]?=some (.own base e size v n xs)) (hs:a.eval s=v)
  (A:Option Addr) (m c:Nat) (news:List Value) (hx:a.eval x=Us A m c) (hr:Rd w w.heap.size A news) (hl:news.length=m*size) (h1:∀ u∈news,u.oneCell'=true) (hn:n+m<=1073741824)
  (h:∀ A' c' w',Mem w' (L.set k (.own base e size (Us A' (n+m) c') (n+m) (xs++news)))->wpList P ops Q rest (a.put o.dst (Us A' (n+m) c')) w'):wpList P ops Q (o::rest) a w :=
 wpList_plain hgd fun _ hK=>NF s x t ho HM k T hk hs A m c news hx hr hl h1 hn fun A' c' w' h2=>hK _ _ (h A' c' w' h2)
theorem NG {F:Fence} {f:Nat} {ops:Array Oper} {rest:List Oper} (hgd:o.guard=none) (s x:Operand) (t:TypeId)
  (ho:o.op=.call { callee:=.builtin .append,args:=#[s,x],argTypes:=#[t,t] }) {L:List Ch} (HM:Mem w L) (k:Nat) {base:Nat} {e:TypeId} {size bytes:Nat} (T:RowT P t e size bytes)
  {v:Value} {n:Nat} {xs:List Value} (hk:L[k]?=some (.own base e size v n xs)) (hs:a.eval s=v)
  (A:Option Addr) (m c:Nat) (news:List Value) (hx:a.eval x=Us A m c) (hr:Rd w w.heap.size A news) (hl:news.length=m*size) (h1:∀ u∈news,u.oneCell'=true) (hn:n+m<=1073741824)
  (h:∀ A' c' w',Mem w' (L.set k (.own base e size (Us A' (n+m) c') (n+m) (xs++news)))->wpListIn F f P ops Q rest (a.put o.dst (Us A' (n+m) c')) w'):wpListIn F f P ops Q (o::rest) a w:=by
 refine wpListIn_plain hgd fun K hK'=>?_;obtain ⟨A',c',w',hrun,h2⟩:=JW (ty:=o.type) HM k T hk A m c news hr hl h1 hn;unfold Oper.wpIn;refine ⟨?_,?_⟩
 . simp [Oper.about,ho,resolve,Target.leads,Sem.run_pure]
 . rw [Oper.semAt_plain F _ _ (by rw [ho];intro c hc';cases hc')];simp [execOp,ho,resolve,invoke,builtin,hs,hx,hrun,Result.andThen];exact hK' _ _ (h A' c' w' h2)
end
theorem Mem.box {W:World} {L:List Ch} (h:Mem W L) (i:Nat) {g:Nat} {cs:Array Value} {t:TypeId} (hi:L[i]?=some (.obj g (.cells cs t (0,0)))):Rd W W.heap.size (some ⟨g,0,none⟩) cs.toList:=fun _=>by
 refine ⟨g,0,rfl,h.lt i hi,fun j u hu=>?_⟩;rw [Nat.zero_add];exact (Ay (h.obj i hi) j).trans (by simpa using hu)
theorem Mem.allocd {W W':World} {L:List Ch} {o:Obj} (h:Mem W L) (hW:W'=(W.alloc o).drew):Mem W' (L++[.obj W.heap.size o]):=hW ▸ (h.alloc o).drew
theorem Mem.call_rd {W W':World} {L:List Ch} (h:Mem W L) {e size n:Nat} {v:Value} {xs:List Value} (hb:Below W.heap.size W W') (ho:W'.ownsRow W.heap.size e size v n xs):∃ A c,v=Us A n c/\n<=c/\Mem W' (L++[.rd A xs]):=by
 obtain ⟨A,c,rfl⟩:=DF ho;refine ⟨A,c,rfl,Be ho,h.push_rd hb (AJ ho) (AF ho)⟩
theorem Mem.call_own {W W':World} {L:List Ch} (h:Mem W L) {e size n:Nat} {v:Value} {xs:List Value} (hb:Below W.heap.size W W') (ho:W'.ownsRow W.heap.size e size v n xs):∃ A c,v=Us A n c/\n<=c/\Mem W' (L++[.own W.heap.size e size (Us A n c) n xs]):=by
 obtain ⟨A,c,rfl⟩:=DF ho;exact ⟨A,c,rfl,Be ho,h.push_own hb ho rfl⟩
end
section
open Lib renaming hid → K1
def betw (x lo hi:Int):Bool:=decide (lo<=x/\x<=hi)
theorem C9 (x lo hi:Int) (w:World) :
  Calls Tryz.prog 53 #[U O x,U O lo,U O hi] w fun e w'=>e=.returned (.bool (betw x lo hi))/\w=w':=by
 by_cases h1:lo<=x
 all_goals
  by_cases h2:x<=hi
  all_goals
   go_enter Tryz.func53,Tryz.ntmps53
   go_wp2
   go_ret;exact ⟨AY (by simp [betw,h1,h2]),rfl⟩
theorem ID (x:Int) (w:World) :
  Calls Tryz.prog 96 #[U O x] w fun e w'=>e=.returned (.bool (!okSz x))/\w=w':=by
 by_cases h1:x<1
 . go_enter Tryz.func96,Tryz.ntmps96
   go_wp2
   go_ret;exact ⟨AY (by simp [okSz];omega),rfl⟩
 . by_cases h2:1048576<x
   all_goals
    go_enter Tryz.func96,Tryz.ntmps96
    go_wp2
    go_ret;exact ⟨AY (by simp [okSz];omega),rfl⟩
theorem FF (A:Option Addr) (cap:Nat) (zs:List Int) (w:World) (hr:RdI w w.heap.size A zs) (hl:zs.length<=16) (hz:zs.all okSz=true) :
  Calls Tryz.prog 55 #[Us A zs.length cap] w fun e w'=>e=.returned (U O (cnt zs))/\∃ n,w'=w.drewN n:=by
 have hall:∀ z∈zs,okSz z=true:=List.all_eq_true.1 hz;have Hall:=K1 hall;clear hall hz;go_enter Tryz.func55,Tryz.ntmps55
 go_wp2
 go_loopw [3,4] (fun n i wr=>∃ k:Nat,k<=zs.length/\i=U O k/\n=U O (cnt (zs.take (k+1)))/\∃ q,wr=w.drewN q) (fun _ i _=>zs.length-(intOf i).toNat)
 case atStart =>
  refine ⟨0,Nat.zero_le _,rfl,?_,0,rfl⟩
  match zs with
  | []=>rfl
  | [_]=>rfl
  | _::_::_=>rfl
 case round =>
  obtain ⟨k,hk,rfl,rfl,q,rfl⟩:=hrel
  by_cases hlt:k+1<zs.length
  . obtain ⟨b,off,rfl,_,hc⟩:=hr.at_ (by omega);obtain ⟨x,hx⟩:=Au zs k (by omega);obtain ⟨y,hy⟩:=Au zs (k+1) hlt;have c1:w.cell? ⟨b,off+k,none⟩=some (U O x):=hc _ _ hx;have c2:w.cell? ⟨b,off+(k+1),none⟩=some (U O y):=hc _ _ hy;have bx:=Di.1 (Hall.out x (UX hx));have byy:=Di.1 (Hall.out y (UX hy));have bm:=JV x y bx byy;have bc:=GF (zs.take (k+1)) (fun z hz=>Hall.out z (List.mem_of_mem_take hz));have bl:((zs.take (k+1)).length:Int)<=16:=by have:=List.length_take_le (k+1) zs;omega
    have S:=K1 (I9 zs k x y hx hy);clear hx hy hc;generalize hC:cnt (zs.take (k+1))=C at *;have HC:=K1 hC;clear hC;have b0:0<=C:=by omega
    have b1:C<=17592202821632:=by omega
    clear bc bl
    go_wp2
    go_quiet (fail)
    go_wp2
    go_roundw
    case rel=>exact ⟨k+1,by omega,by go_num,by rw [S.out],_,rfl⟩
    case measure=>simp [intOf];omega
  . go_wp2
    go_ret;exact ⟨AN (by rw [Vh (by omega)]),_,rfl⟩
theorem IE (zs:List Int) (k:Nat) (z:Int) (h:zs[k]?=some z) (ha:(zs.take k).all okSz=true) (hz:okSz z=true):(zs.take (k+1)).all okSz=true:=by
 rw [List.take_add_one,h,List.all_append,ha];simp [hz]
theorem IF (zs:List Int) (k:Nat) (z:Int) (h:zs[k]?=some z) (hz:okSz z=false):zs.all okSz=false:=by
 rw [List.all_eq_false];exact ⟨z,UX h,by simp [hz]⟩
theorem GH (A:Option Addr) (cap:Nat) (zs:List Int) (w:World) (hr:RdI w w.heap.size A zs) (hm:zs.length<=9223372036854775807) :
  Calls Tryz.prog 89 #[Us A zs.length cap] w fun e w'=>e=.returned (U O (AV zs))/\∃ n,w'=w.drewN n:=by
 by_cases h2:zs.length<2
 . go_enter Tryz.func89,Tryz.ntmps89
   go_wp2
   go_ret;exact ⟨AN (by simp [AV,h2]),0,rfl⟩
 by_cases h16:16<zs.length
 . go_enter Tryz.func89,Tryz.ntmps89
   go_wp2
   go_ret;exact ⟨AN (by simp [AV,h16]),0,rfl⟩
 have hcode:AV zs=if zs.all okSz=false then 5 else if 1048576<cnt zs then 4 else 0:=by
  unfold AV;rw [if_neg (by omega)]
 have Hcode:=K1 hcode;clear hcode;obtain ⟨b,off,rfl,hb,hc⟩:=hr.at_ (by omega);have Hc:=K1 hc;clear hc;go_enter Tryz.func89,Tryz.ntmps89
 go_wp2
 go_loop [3] (fun i=>∃ k:Nat,k<=zs.length/\i=U O k/\Hid ((zs.take k).all okSz=true)) (fun i=>zs.length-(intOf i).toNat)
 case atStart=>exact ⟨0,Nat.zero_le _,rfl,K1 rfl⟩
 case round =>
  obtain ⟨k,hk,rfl,hall⟩:=hrel
  by_cases hlt:k<zs.length
  . obtain ⟨z,hz⟩:=Au zs k hlt;have c1:w.cell? ⟨b,off+k,none⟩=some (U O z):=Hc.out _ _ hz;have HZ:=K1 hz;clear hz
    by_cases l1:z<1
    . go_wp2
      go_ret;exact ⟨AN (by rw [Hcode.out,if_pos (IF zs k z HZ.out (IA.2 (.inl l1)))]),0,rfl⟩
    by_cases l2:1048576<z
    . go_wp2
      go_ret;exact ⟨AN (by rw [Hcode.out,if_pos (IF zs k z HZ.out (IA.2 (.inr l2)))]),0,rfl⟩
    . go_wp2
      go_round
      case rel=>exact ⟨k+1,by omega,by go_num,K1 (IE zs k z HZ.out hall.out (Di.2 (by omega)))⟩
      case measure=>simp [intOf];omega
  . have hall':Hid (zs.all okSz=true):=by
     have:=hall.out;rw [Vh (by omega)] at this;exact K1 this
    clear hall
    by_cases h4:1048576<cnt zs
    all_goals
     go_wp2_with (go_at_call 55;refine (FF _ _ zs _ hr (by omega) hall'.out).mono ?_;rintro e w' ⟨rfl,n,rfl⟩)
     go_ret;refine ⟨AN ?_,_,rfl⟩;rw [Hcode.out,if_neg (by rw [hall'.out];decide)];simp [h4]
end
end Go.Proofs.YtdpojpcoghcieaaGreat
