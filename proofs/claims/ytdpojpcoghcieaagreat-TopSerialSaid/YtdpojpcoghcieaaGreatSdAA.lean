/- A part of the proof of TopSerial: Words, Append, Own, PartP, Keep, Mem. Conditions: none. -/
import Derived.WalkKit
import Derived.WalkSpells
import Derived.WalkLawsBesides
import Derived.Lib.Hide
import Derived.IntWalk
import Derived.Deep.QuietTactic
import Derived.BigQuiet
import Derived.BigRegion
import Derived.Deep.RegionHeld3
import Derived.Deep.AppendLies
import Derived.Deep.LoopGhost
import Derived.Laws.OwnMore
import Derived.Deep.Onto
import Derived.Outline
import Derived.Maps.AppendAt
import Derived.RegionTactic
import Derived.OwnWalk
import Derived.RangeFuncOwn
import Derived.Test.YtdpojpcoghcieaaGreatProg
set_option maxHeartbeats 8000000
namespace Go.Proofs.YtdpojpcoghcieaaGreat
open Go.RowKit
def Rd (w:World) (B:Nat) (A:Option Addr) (vs:List Value):Prop :=
 0<vs.length→∃ b off,A=some ⟨b,off,none⟩∧b<B∧∀ j u,vs[j]?=some u→w.cell? ⟨b,off+j,none⟩=some u
theorem Rd.nil_ (w:World) (B:Nat) (A:Option Addr):Rd w B A []:=fun h=>absurd h (by simp)
theorem Rd.keep {w w':World} {B:Nat} {A:Option Addr} {vs:List Value} (h:Rd w B A vs) (hk:∀ p:Addr,p.block<B→w'.cell? p=w.cell? p):Rd w' B A vs:=fun h0=>by
 obtain ⟨b,off,e,hb,hc⟩:=h h0
 exact ⟨b,off,e,hb,fun j u hu=>(hk _ hb).trans (hc j u hu)⟩
theorem Rd.more {w:World} {B B':Nat} {A:Option Addr} {vs:List Value} (h:Rd w B A vs) (hB:B≤B'):Rd w B' A vs:=fun h0=>by
 obtain ⟨b,off,e,hb,hc⟩:=h h0
 exact ⟨b,off,e,by omega,hc⟩
theorem Rd.below {w w':World} {B:Nat} {A:Option Addr} {vs:List Value} (h:Rd w B A vs) (hb:Below B w w'):Rd w' B A vs:=h.keep fun _ hp=>hb.cell hp
theorem Rd.alloc {w:World} {B:Nat} {A:Option Addr} {vs:List Value} (h:Rd w B A vs) (hB:B≤w.heap.size) (o:Obj):Rd (w.alloc o) B A vs:=h.keep fun p hp=>World.cell?_alloc_lt w o p (by omega)
def RdI (w:World) (B:Nat) (A:Option Addr) (zs:List Int):Prop:=Rd w B A (zs.map (Value.int .i64))
theorem RdI.at_ {w:World} {B:Nat} {A:Option Addr} {zs:List Int} (h:RdI w B A zs) (h0:0<zs.length) :
  ∃ b off,A=some ⟨b,off,none⟩∧b<B∧∀ j z,zs[j]?=some z→w.cell? ⟨b,off+j,none⟩=some (.int .i64 z):=by
 obtain ⟨b,off,e,hb,hc⟩:=h (by simpa using h0)
 exact ⟨b,off,e,hb,fun j z hz=>hc j _ (by simp [hz])⟩
theorem RdI.below {w w':World} {B:Nat} {A:Option Addr} {zs:List Int} (h:RdI w B A zs) (hb:Below B w w'):RdI w' B A zs:=Rd.below h hb
theorem RdI.more {w:World} {B B':Nat} {A:Option Addr} {zs:List Int} (h:RdI w B A zs) (hB:B≤B'):RdI w B' A zs:=Rd.more h hB
theorem RdI.alloc {w:World} {B:Nat} {A:Option Addr} {zs:List Int} (h:RdI w B A zs) (hB:B≤w.heap.size) (o:Obj):RdI (w.alloc o) B A zs:=Rd.alloc h hB o
theorem get_some {α:Type} (l:List α) (k:Nat) (h:k<l.length):∃ z,l[k]?=some z:=⟨l[k],List.getElem?_eq_getElem h⟩
theorem below_drewN {B:Nat} {a w:World} (h:Below B a w) (n:Nat):Below B a (w.drewN n):=⟨h.os,h.tape,h.output,h.size,h.block⟩
theorem below_drew {B:Nat} {a w:World} (h:Below B a w):Below B a w.drew:=⟨h.os,h.tape,h.output,h.size,h.block⟩
theorem ret_int {k:IntKind} {a b:Int} (h:a=b):Ending.returned (.int k a)=.returned (.int k b):=by rw [h]
theorem ret_pi {v:Value} {k:IntKind} {a b:Int} (h:a=b):Ending.returned (.tuple #[v,.int k a])=.returned (.tuple #[v,.int k b]):=by rw [h]
theorem ret_bool {a b:Bool} (h:a=b):Ending.returned (.bool a)=.returned (.bool b):=by rw [h]
theorem blk_cell {w:World} {g:Nat} {t:TypeId} {cs:Array Value} (h:w.heap[g]?=some (.cells cs t (0,0))) (i:Nat):w.cell? ⟨g,i,none⟩=cs[i]?:=by simp [World.cell?,h]
theorem blk_frozen {w:World} {g:Nat} {t:TypeId} {cs:Array Value} (h:w.heap[g]?=some (.cells cs t (0,0))) (i:Nat):w.frozen? ⟨g,i,none⟩=false:=by simp [World.frozen?,h]
theorem blk_lt {w:World} {g:Nat} {o:Obj} (h:w.heap[g]?=some o):g<w.heap.size:=by
 rcases Nat.lt_or_ge g w.heap.size with hlt | hge
 · exact hlt
 · rw [Array.getElem?_eq_none hge] at h;cases h
theorem blk_alloc {w:World} {g:Nat} {o:Obj} (h:w.heap[g]?=some o) (o':Obj):(w.alloc o').heap[g]?=some o:=(Below.heap_alloc w o' g (blk_lt h)).trans h
theorem blk_set {w:World} {g:Nat} {t:TypeId} {cs:Array Value} (h:w.heap[g]?=some (.cells cs t (0,0))) (i:Nat) (u:Value):(w.setCell ⟨g,i,none⟩ u).heap[g]?=some (.cells (cs.setIfInBounds i u) t (0,0)):=by
 simp [World.setCell,Array.getElem?_modify,h]
theorem blk_far {w:World} {g:Nat} {o:Obj} (h:w.heap[g]?=some o) {p:Addr} (hp:g≠p.block) (u:Value):(w.setCell p u).heap[g]?=some o:=(Below.heap_setCell w p u g hp).trans h
theorem blk_grown {w w':World} {g:Nat} {o:Obj} (h:w.heap[g]?=some o) {row:Option Nat} (hg:w.grownBy w' row) (hne:some g≠row):w'.heap[g]?=some o:=(hg.block g (blk_lt h) hne).trans h
theorem blk_drew {w:World} {g:Nat} {o:Obj} (h:w.heap[g]?=some o):w.drew.heap[g]?=some o:=h
theorem blk_drewN {w:World} {g:Nat} {o:Obj} (h:w.heap[g]?=some o) (n:Nat):(w.drewN n).heap[g]?=some o:=h
theorem blk_below {w w':World} {B g:Nat} {o:Obj} (h:w.heap[g]?=some o) (hb:Below B w w') (hlt:g<B):w'.heap[g]?=some o:=(hb.block g hlt).trans h
theorem own_ne {w:World} {base e size n g:Nat} {v:Value} {xs:List Value} {t:TypeId} {cs:Array Value} (h:w.ownsRow base e size v n xs) (hg:w.heap[g]?=some (.cells cs t (0,0))) (hne:e≠t):v.ownBlock≠some g:=by
 rcases h.2 with ⟨rfl,_⟩ | ⟨g',cap,cur,rfl,_,hh,_⟩
 · simp [Value.ownBlock]
 · intro he
   have:g'=g:=by simpa [Value.ownBlock] using he
   subst this
   rw [hh] at hg
   injection hg with hg
   injection hg with _ ht
   exact hne ht
theorem own_ne2 {w:World} {base e e' size size' n n':Nat} {v v':Value} {xs xs':List Value} (h:w.ownsRow base e size v n xs) (h':w.ownsRow base e' size' v' n' xs') (hne:e≠e'):v.ownBlock=none∨v.ownBlock≠v'.ownBlock:=by
 rcases h'.2 with ⟨rfl,_⟩ | ⟨g',cap,cur,rfl,_,hh,_⟩
 · cases hv:v.ownBlock
   · exact .inl rfl
   · exact .inr (by simp [Value.ownBlock])
 · exact .inr (own_ne h hh hne)
def cur (w:World) (a:Addr):Value:=(w.cell? a).getD undef
theorem only_drew {a w:World} {row:Option Nat} (h:a.grownBy w row):a.grownBy w.drew row:=⟨h.os,h.tape,h.output,h.size,h.block⟩
theorem only_alloc {a w:World} {row:Option Nat} (h:a.grownBy w row) (o:Obj):a.grownBy (w.alloc o) row :=
 ⟨h.os,h.tape,h.output,Nat.le_trans h.size (by simp),fun i hi hne=>(Below.heap_alloc w o i (Nat.lt_of_lt_of_le hi h.size)).trans (h.block i hi hne)⟩
theorem only_setCell {a w:World} {g:Nat} (h:a.grownBy w (some g)) {p:Addr} (hp:p.block=g∨a.heap.size≤p.block) (u:Value):a.grownBy (w.setCell p u) (some g) :=
 ⟨h.os,h.tape,h.output,by simpa [World.setCell] using h.size,fun i hi hne=>(Below.heap_setCell w p u i (by
  rintro rfl
  rcases hp with hp | hp
  · exact hne (by rw [hp])
  · omega)).trans (h.block i hi hne)⟩
theorem rd_of_own {w:World} {base e cap n:Nat} {A:Option Addr} {size:Nat} {xs:List Value} (h:w.ownsRow base e size (.slice A n cap) n xs):Rd w w.heap.size A xs:=fun h0=>by
 have hn:0<n:=by
  rcases Nat.eq_zero_or_pos n with rfl | hp
  · have:=h.1;simp at this;subst this;simp at h0
  · exact hp
 rcases h.2 with ⟨hv,hz⟩ | ⟨g,c,cur,hv,hb,hh,_,_,_,ht⟩
 · omega
 · injection hv with hA _ _
   subst hA
   refine ⟨g,0,rfl,blk_lt hh,fun j u hu=>?_⟩
   rw [Nat.zero_add,blk_cell hh]
   rw [← ht,List.getElem?_take] at hu
   split at hu
   · simpa using hu
   · cases hu
theorem add_none (b off j:Nat):(⟨b,off,none⟩:Addr).add j=⟨b,off+j,none⟩:=by
 unfold Addr.add;split <;> simp_all
section
variable {P:Program} (w:World)
theorem run_append_nil (base:Nat) (t ty e:TypeId) (i:TypeInfo) (size:Nat) (ht:P.underlying t=some (.slice e)) (hi:P.info? e=some i)
  (v:Value) (n:Nat) (xs:List Value) (hown:w.ownsRow base e size v n xs) (c:Nat):(Builtin.append_ #[t,t] ty #[v,.slice none 0 c]).run P w=.ok v w:=by
 rcases hown.2 with ⟨rfl,rfl⟩ | ⟨g,cap,cur,rfl,_,_,hnc,_⟩
 · simp [Builtin.append_,run_underlying ht,sizeOf,typeInfo,hi,Builtin.lenOf,Builtin.firstCells]
 · simp [Builtin.append_,run_underlying ht,sizeOf,typeInfo,hi,Builtin.lenOf,Builtin.firstCells,hnc,storeCells]
end
theorem own_cap {w:World} {base e size n cap:Nat} {A:Option Addr} {xs:List Value} (h:w.ownsRow base e size (.slice A n cap) n xs):n≤cap:=by
 rcases h.2 with ⟨hv,hz⟩ | ⟨g,c,cur,hv,hb,hh,hc,_⟩
 · omega
 · injection hv with _ _ e3;omega
theorem own_slice {w:World} {base e size n:Nat} {v:Value} {xs:List Value} (h:w.ownsRow base e size v n xs):∃ A cap,v=.slice A n cap:=by
 rcases h.2 with ⟨rfl,rfl⟩ | ⟨g,c,cur,rfl,_⟩
 · exact ⟨_,_,rfl⟩
 · exact ⟨_,_,rfl⟩
theorem own_nil (w:World) (base e size:Nat):w.ownsRow base e size (.slice none 0 0) 0 []:=⟨by simp,.inl ⟨rfl,rfl⟩⟩
theorem ints_one {k:IntKind} (zs:List Int):∀ u∈zs.map (Value.int k),u.oneCell'=true:=fun u hu=>by
 obtain ⟨z,_,rfl⟩:=List.mem_map.1 hu
 rfl
theorem below_own {w w1 w2:World} {B B' e size n:Nat} {v:Value} {xs:List Value} (hb:Below B w w1) (hB:B≤w.heap.size) (hBB:B≤B') (hown:w1.ownsRow B' e size v n xs) (hg:w1.grownBy w2 v.ownBlock):Below B w w2:=by
 refine hb.grown hg (Nat.le_trans hB hb.size) fun k hk=>?_
 rcases hown.2 with ⟨rfl,_⟩ | ⟨g,cap,cur,rfl,hge,_⟩
 · simp [Value.ownBlock] at hk
 · simp [Value.ownBlock] at hk;omega
end Go.Proofs.YtdpojpcoghcieaaGreat
namespace Go.Proofs.YtdpojpcoghcieaaGreat
open Lib renaming hid → K1
open Go.RowKit
theorem own_below {w w':World} {base e size n:Nat} {v:Value} {xs:List Value} (h:w.ownsRow base e size v n xs) (hb:Below w.heap.size w w'):w'.ownsRow base e size v n xs:=by
 rcases h.2 with ⟨rfl,h0⟩ | ⟨g,cap,cur,rfl,hg,hgh,h1⟩
 · exact ⟨h.1,.inl ⟨rfl,h0⟩⟩
 · exact ⟨h.1,.inr ⟨g,cap,cur,rfl,hg,(hb.block g (blk_lt hgh)).trans hgh,h1⟩⟩
def rcells (l:List (Nat × Nat)):List Value:=l.flatMap fun p=>[.int .i64 p.1,.int .i64 p.2]
theorem rcells_len (l:List (Nat × Nat)):(rcells l).length=l.length*2:=by
 induction l with
 | nil=>rfl
 | cons p r ih=>simp only [rcells,List.flatMap_cons,List.length_append,List.length_cons,List.length_nil] at ih ⊢;omega
theorem rcells_snoc (l:List (Nat × Nat)) (p:Nat × Nat):rcells (l++[p])=rcells l++[.int .i64 p.1,.int .i64 p.2]:=by simp [rcells]
theorem rcells_at:∀ (l:List (Nat × Nat)) (j:Nat) (p:Nat × Nat),l[j]?=some p→(rcells l)[j*2]?=some (.int .i64 p.1)∧(rcells l)[j*2+1]?=some (.int .i64 p.2)
 | [],j,p,h=>by simp at h
 | q::r,0,p,h=>by
   simp at h;subst h
   simp [rcells]
 | q::r,j+1,p,h=>by
   have ih:=rcells_at r j p (by simpa using h)
   have e:rcells (q::r)=[.int .i64 q.1,.int .i64 q.2]++rcells r:=by simp [rcells]
   rw [e,List.getElem?_append_right (by simp;omega),List.getElem?_append_right (by simp;omega)]
   simp only [List.length_cons,List.length_nil]
   rw [show (j+1)*2-(0+1+1)=j*2 by omega,show (j+1)*2+1-(0+1+1)=j*2+1 by omega]
   exact ih
def pcnt (n s:Nat):Nat:=if n=0 then 0 else (n-1) / s+1
def blk1 (n s i:Nat):Nat × Nat:=(i*s,i*s+min s (n-i*s))
def blocksL (n s:Nat):List (Nat × Nat):=(List.range (pcnt n s)).map (blk1 n s)
theorem pcnt_le (n s:Nat):pcnt n s≤n:=by
 unfold pcnt
 split
 · omega
 · have:=Nat.div_le_self (n-1) s
   omega
theorem pcnt_lt {n s i:Nat} (hs:1≤s) (h:i<pcnt n s):i*s<n:=by
 unfold pcnt at h
 split at h
 · omega
 · have h1:i≤(n-1) / s:=by omega
   have h2:=(Nat.le_div_iff_mul_le (by omega)).1 h1
   omega
theorem blocks_len (n s:Nat):(blocksL n s).length=pcnt n s:=by simp [blocksL]
theorem blocks_snoc (n s k:Nat):(List.range (k+1)).map (blk1 n s)=(List.range k).map (blk1 n s)++[blk1 n s k]:=by
 rw [List.range_succ,List.map_append];rfl
def bnd (n k i:Nat):Nat:=i*(n / k)+min i (n % k)
def evenL (n k:Nat):List (Nat × Nat):=(List.range k).map fun i=>(bnd n k i,bnd n k (i+1))
theorem even_len (n k:Nat):(evenL n k).length=k:=by simp [evenL]
theorem bnd_mono (n k i:Nat):bnd n k i≤bnd n k (i+1):=by
 unfold bnd
 rw [Nat.succ_mul]
 generalize i*(n / k)=a
 generalize n / k=b
 generalize n % k=c
 omega
theorem bnd_end (n k:Nat) (hk:1≤k):bnd n k k=n:=by
 unfold bnd
 have h1:=Nat.mod_lt n (show k > 0 by omega)
 rw [Nat.min_eq_right (by omega)]
 exact Nat.div_add_mod n k
theorem bnd_le {n k:Nat} (hk:1≤k):∀ {i:Nat},i≤k→bnd n k i≤n:=fun {i} hi=>by
 have key:∀ d,i+d=k→bnd n k i≤n:=by
  intro d
  induction d generalizing i with
  | zero=>intro h;rw [show i=k by omega,bnd_end n k hk];exact Nat.le_refl _
  | succ d ih=>intro h;exact Nat.le_trans (bnd_mono n k i) (ih (i:=i+1) (by omega) (by omega))
 exact key (k-i) (by omega)
theorem infoPR:(Tryz.prog.info? 47).map (fun i=>(i.zero,i.size,i.bytes))=some (some (.agg #[.int .i64 0,.int .i64 0]),2,16):=by kernel_rfl
theorem newAtP (w:World) (o:Obj) {g:Nat} (hg:w.heap.size=g):(w.alloc o).heap[g]?=some o:=by subst hg;exact heap_alloc_new w o
def OwnR (w:World) (base:Nat) (v:Value) (l:List (Nat × Nat)):Prop:=w.ownsRow base 47 2 v l.length (rcells l)
theorem OwnR.nil_ (w:World) (base:Nat):OwnR w base (.slice none 0 0) []:=own_nil w base _ _
theorem OwnR.snoc {w:World} {base n:Nat} {v:Value} {l:List (Nat × Nat)} {x y:Nat} (h:w.ownsRow base 47 2 v (n+1) (rcells l++[.int .i64 x,.int .i64 y])) (hn:l.length=n):OwnR w base v (l++[(x,y)]):=by
 unfold OwnR
 rw [rcells_snoc,List.length_append,hn]
 exact h
theorem own_from {w:World} {b1 b2 e size n:Nat} {v:Value} {xs:List Value} (hb:b2≤b1) (h:w.ownsRow b1 e size v n xs):w.ownsRow b2 e size v n xs:=by
 rcases h.2 with h1 | ⟨g,cap,cur,e1,hg,h1⟩
 · exact ⟨h.1,.inl h1⟩
 · exact ⟨h.1,.inr ⟨g,cap,cur,e1,by omega,h1⟩⟩
def RdR (w:World) (B:Nat) (A:Option Addr) (l:List (Nat × Nat)):Prop:=Rd w B A (rcells l)
theorem OwnR.rd {w:World} {base cap:Nat} {A:Option Addr} {l:List (Nat × Nat)} {n:Nat} (h:OwnR w base (.slice A n cap) l):RdR w w.heap.size A l∧n=l.length∧n≤cap:=by
 have hn:n=l.length:=by
  rcases h.2 with ⟨hv,hz⟩ | ⟨g,c,cur,hv,_⟩
  · injection hv with _ h2 _;omega
  · injection hv
 subst hn
 exact ⟨rd_of_own h,rfl,own_cap h⟩
theorem RdR.at_ {w:World} {B:Nat} {A:Option Addr} {l:List (Nat × Nat)} (h:RdR w B A l) (h0:0<l.length) :
  ∃ b off,A=some ⟨b,off,none⟩∧b<B∧∀ j p,l[j]?=some p→w.cell? ⟨b,off+j*2,none⟩=some (.int .i64 p.1)∧w.cell? ⟨b,off+j*2+1,none⟩=some (.int .i64 p.2):=by
 obtain ⟨b,off,e,hb,hc⟩:=h (by rw [rcells_len];omega)
 exact ⟨b,off,e,hb,fun j p hj=>⟨hc _ _ (rcells_at l j p hj).1,by rw [Nat.add_assoc];exact hc _ _ (rcells_at l j p hj).2⟩⟩
theorem RdR.below {w w':World} {B:Nat} {A:Option Addr} {l:List (Nat × Nat)} (h:RdR w B A l) (hb:Below B w w'):RdR w' B A l:=Rd.below h hb
theorem RdR.more {w:World} {B B':Nat} {A:Option Addr} {l:List (Nat × Nat)} (h:RdR w B A l) (hB:B≤B'):RdR w B' A l:=Rd.more h hB
structure Keep (E:Nat→Prop) (w w':World):Prop where
 os:w'.os=w.os
 tape:w'.tape=w.tape
 output:w'.output=w.output
 size:w.heap.size≤w'.heap.size
 block:∀ g,g<w.heap.size→¬ E g→w'.heap[g]?=w.heap[g]?
theorem Keep.refl (E:Nat→Prop) (w:World):Keep E w w:=⟨rfl,rfl,rfl,Nat.le_refl _,fun _ _ _=>rfl⟩
theorem Keep.of_below {E:Nat→Prop} {B:Nat} {a b:World} (h:Below B a b) (hE:∀ g,B≤g→g<a.heap.size→E g):Keep E a b:=⟨h.os,h.tape,h.output,h.size,fun g hg hn=>h.block g (by
 rcases Nat.lt_or_ge g B with h1 | h1
 · exact h1
 · exact absurd (hE g h1 hg) hn)⟩
theorem Keep.of_below0 {E:Nat→Prop} {a b:World} (h:Below a.heap.size a b):Keep E a b:=Keep.of_below h fun g h1 h2=>by omega
theorem Keep.set {E:Nat→Prop} {a b:World} (h:Keep E a b) {p:Addr} (hp:E p.block∨a.heap.size≤p.block) (u:Value):Keep E a (b.setCell p u) :=
 ⟨h.os,h.tape,h.output,by simpa [World.setCell] using h.size,fun g hg hn=>(Below.heap_setCell b p u g (by
  rintro rfl
  rcases hp with hp | hp
  · exact hn hp
  · omega)).trans (h.block g hg hn)⟩
theorem Keep.grown {E:Nat→Prop} {a b c:World} {row:Option Nat} (h:Keep E a b) (hg:b.grownBy c row) (hr:∀ k,row=some k→E k∨a.heap.size≤k):Keep E a c :=
 ⟨hg.os.trans h.os,hg.tape.trans h.tape,hg.output.trans h.output,Nat.le_trans h.size hg.size,fun g hlt hn=>(hg.block g (Nat.lt_of_lt_of_le hlt h.size) (fun e=>by
  rcases hr g e.symm with h1 | h1
  · exact hn h1
  · omega)).trans (h.block g hlt hn)⟩
theorem Keep.put {E:Nat→Prop} {a b:World} (h:Keep E a b) {k:Nat} (hk:E k∨a.heap.size≤k) (o:Obj):Keep E a (b.putObj k o) :=
 h.grown (grownBy_putObj' b k o) fun j e=>by injection e with e;subst e;exact hk
theorem Keep.blk {E:Nat→Prop} {a b:World} (h:Keep E a b) {g:Nat} {o:Obj} (ho:a.heap[g]?=some o) (hg:¬ E g):b.heap[g]?=some o:=(h.block g (blk_lt ho) hg).trans ho
theorem Keep.cell {E:Nat→Prop} {a b:World} (h:Keep E a b) {p:Addr} {v:Value} (hc:a.cell? p=some v) (hp:¬ E p.block):b.cell? p=some v :=
 (World.cell?_of_block (w:=a) (w':=b) (h.block p.block (World.block_lt_of_cell? a p hc) hp)).trans hc
theorem Keep.own {E:Nat→Prop} {a b:World} {base e size n:Nat} {v:Value} {xs:List Value} (h:Keep E a b) (ho:a.ownsRow base e size v n xs) (hv:∀ k,v.ownBlock=some k→¬ E k):b.ownsRow base e size v n xs:=by
 rcases ho.2 with ⟨rfl,h0⟩ | ⟨g,cap,cur,rfl,hg,hgh,h1⟩
 · exact ⟨ho.1,.inl ⟨rfl,h0⟩⟩
 · exact ⟨ho.1,.inr ⟨g,cap,cur,rfl,hg,h.blk hgh (hv g rfl),h1⟩⟩
theorem own_from_base {w:World} {base e size n cap:Nat} {A:Option Addr} {xs:List Value} (h:w.ownsRow base e size (.slice A n cap) n xs):∀ p,A=some p→base≤p.block:=by
 rintro p rfl
 rcases h.2 with ⟨hv,_⟩ | ⟨g,c,cur,hv,hg,_⟩
 · cases hv
 · injection hv with h1
   injection h1 with h1
   subst h1
   exact hg
inductive Ch where
 | bel (B:Nat) (w0:World)
 | obj (g:Nat) (o:Obj)
 | rd (A:Option Addr) (vs:List Value)
 | own (base e size:Nat) (v:Value) (n:Nat) (xs:List Value)
 | st (F:Nat→Prop) (P:World→Prop)
structure Local (F:Nat→Prop) (P:World→Prop) (W:World):Prop where
 now:P W
 lt:∀ g,F g→g<W.heap.size
 keep:∀ W1 W2:World,W1.heap.size≤W2.heap.size→(∀ g,F g→W2.heap[g]?=W1.heap[g]?)→P W1→P W2
def Ch.Holds (W:World):Ch→Prop
 | .bel B w0=>Below B w0 W∧B≤w0.heap.size
 | .obj g o=>W.heap[g]?=some o
 | .rd A vs=>Rd W W.heap.size A vs
 | .own base e size v n xs=>W.ownsRow base e size v n xs∧base≤W.heap.size
 | .st F P=>Local F P W
def Ch.fp:Ch→Nat→Prop
 | .bel B _,g=>g<B
 | .obj k _,g=>g=k
 | .rd A vs,g=>0<vs.length∧∃ p:Addr,A=some p∧p.block=g
 | .own _ _ _ v _ _,g=>v.ownBlock=some g
 | .st F _,g=>F g
def Ch.mut:Ch→Prop
 | .obj ..=>True
 | .own ..=>True
 | _=>False
theorem Ch.lt {W:World} {c:Ch} (h:c.Holds W) {g:Nat} (hg:c.fp g):g<W.heap.size:=by
 cases c with
 | bel B w0=>exact Nat.lt_of_lt_of_le hg (Nat.le_trans h.2 h.1.size)
 | obj k o=>cases hg;exact blk_lt h
 | rd A vs =>
   obtain ⟨h0,p,rfl,rfl⟩:=hg
   obtain ⟨b,off,e,hb,_⟩:=h h0
   injection e with e
   subst e
   exact hb
 | own=>exact (h.1.lt g hg).2
 | st F P=>exact h.lt g hg
theorem Ch.keep {W W':World} {E:Nat→Prop} {c:Ch} (h:c.Holds W) (k:Keep E W W') (hE:∀ g,c.fp g→¬ E g):c.Holds W':=by
 cases c with
 | bel B w0 =>
   have hB:B≤W.heap.size:=Nat.le_trans h.2 h.1.size
   exact ⟨h.1.trans ⟨k.os,k.tape,k.output,k.size,fun g hg=>k.block g (by omega) (hE g hg)⟩,h.2⟩
 | obj g o=>exact k.blk h (hE g rfl)
 | rd A vs=>exact Rd.more (fun h0=>by
   obtain ⟨b,off,e,hb,hc⟩:=h h0
   exact ⟨b,off,e,hb,fun j u hu=>k.cell (hc j u hu) (hE b ⟨h0,_,e,rfl⟩)⟩) k.size
 | own=>exact ⟨k.own h.1 fun g hg=>hE g hg,Nat.le_trans h.2 k.size⟩
 | st F P=>exact ⟨h.keep W W' k.size (fun g hg=>k.block g (h.lt g hg) (hE g hg)) h.now,fun g hg=>Nat.lt_of_lt_of_le (h.lt g hg) k.size,h.keep⟩
structure Mem (W:World) (L:List Ch):Prop where
 holds:∀ (i:Nat) (c:Ch),L[i]?=some c→c.Holds W
 sep:∀ (i j:Nat) (c d:Ch),i≠j→L[i]?=some c→L[j]?=some d→c.mut→∀ g,c.fp g→¬ d.fp g
theorem snoc_at {α:Type} {L:List α} {c d:α} {i:Nat} (h:(L++[c])[i]?=some d):(i<L.length∧L[i]?=some d)∨(i=L.length∧d=c):=by
 rcases Nat.lt_trichotomy i L.length with hlt | he | hgt
 · rw [List.getElem?_append_left hlt] at h
   exact .inl ⟨hlt,h⟩
 · subst he
   simp at h
   exact .inr ⟨rfl,h.symm⟩
 · rw [List.getElem?_append_right (by omega)] at h
   rw [List.getElem?_eq_none (by simp;omega)] at h
   cases h
theorem at_l {L M:List Ch} {i:Nat} {c:Ch} (h:L[i]?=some c):(L++M)[i]?=some c:=by
 rw [List.getElem?_append_left (List.getElem?_eq_some_iff.1 h).1]
 exact h
theorem at_last {L:List Ch} {c:Ch}:(L++[c])[L.length]?=some c:=by simp
theorem at_set {L:List Ch} {i:Nat} {c d:Ch} (h:L[i]?=some c):(L.set i d)[i]?=some d:=List.getElem?_set_self (List.getElem?_eq_some_iff.1 h).1
theorem at_ne {L:List Ch} {i j:Nat} {c d:Ch} (hne:i≠j) (h:L[j]?=some c):(L.set i d)[j]?=some c:=by rw [List.getElem?_set_ne hne];exact h
theorem idx_ne {L:List Ch} {i j:Nat} {c d:Ch} (h:L[i]?=some c) (k:L[j]?=some d) (hne:c≠d):i≠j:=by
 rintro rfl
 rw [h] at k
 injection k with k
 exact hne k
theorem set_app {L M:List Ch} {i:Nat} {c d:Ch} (h:L[i]?=some c):(L++M).set i d=L.set i d++M:=List.set_append_left i d (List.getElem?_eq_some_iff.1 h).1
theorem set_same {L:List Ch} {i:Nat} {c:Ch} (h:L[i]?=some c):L.set i c=L:=by
 apply List.ext_getElem?
 intro j
 by_cases hij:i=j
 · subst hij;rw [at_set h,h]
 · rw [List.getElem?_set_ne hij]
theorem take_app {L M:List Ch}:(L++M).take L.length=L:=by simp
def two (L:List Ch) (o i:Nat) (x y:Ch):List Ch:=(L.set o x).set i y
theorem two_o {L:List Ch} {o i:Nat} {x y c:Ch} (h:L[o]?=some c) (hne:i≠o):(two L o i x y)[o]?=some x:=at_ne hne (at_set h)
theorem two_i {L:List Ch} {o i:Nat} {x y c:Ch} (h:L[i]?=some c) (hne:i≠o):(two L o i x y)[i]?=some y:=at_set (at_ne (Ne.symm hne) h)
theorem two_ne {L:List Ch} {o i k:Nat} {x y c:Ch} (h:L[k]?=some c) (h1:o≠k) (h2:i≠k):(two L o i x y)[k]?=some c:=at_ne h2 (at_ne h1 h)
theorem two_two {L B:List Ch} {o i:Nat} {x y x' y' c d:Ch} (h:L[o]?=some c) (k:L[i]?=some d) (hne:i≠o):((two L o i x y++B).set o x').set i y'=two L o i x' y'++B:=by
 rw [set_app (two_o h hne),set_app (i:=i) (c:=y) (at_ne (Ne.symm hne) (two_i k hne))]
 unfold two
 rw [List.set_comm (l:=L.set o x) y x' hne,List.set_set,List.set_set]
theorem two_same {L:List Ch} {o i:Nat} {x y:Ch} (h:L[o]?=some x) (k:L[i]?=some y):two L o i x y=L:=by
 unfold two;rw [set_same h,set_same k]
theorem two_len {L:List Ch} {o i:Nat} {x y:Ch}:(two L o i x y).length=L.length:=by simp [two]
theorem two_at {L B:List Ch} {o i:Nat} {x y c:Ch} (j:Nat) (h:B[j]?=some c):(two L o i x y++B)[L.length+j]?=some c:=by
 rw [List.getElem?_append_right (by rw [two_len];omega),two_len,Nat.add_sub_cancel_left]
 exact h
namespace Mem
variable {W W':World} {L:List Ch}
theorem start (w:World):Mem w [.bel w.heap.size w]:=⟨fun i c h=>by
  cases i with
  | zero=>simp at h;subst h;exact ⟨Below.refl _ _,Nat.le_refl _⟩
  | succ i=>simp at h,fun i j c d hne h1 h2=>by
  cases i <;> cases j <;> simp at h1 h2 hne⟩
theorem keep {E:Nat→Prop} (h:Mem W L) (k:Keep E W W') (hE:∀ (i:Nat) (c:Ch),L[i]?=some c→∀ g,c.fp g→¬ E g):Mem W' L :=
 ⟨fun i c hi=>Ch.keep (h.holds i c hi) k (hE i c hi),h.sep⟩
theorem below (h:Mem W L) (hb:Below W.heap.size W W'):Mem W' L:=h.keep (Keep.of_below0 (E:=fun _=>False) hb) fun _ _ _ _ _ h=>h
theorem drew (h:Mem W L):Mem W.drew L:=h.below ⟨rfl,rfl,rfl,Nat.le_refl _,fun _ _=>rfl⟩
theorem drewN (h:Mem W L) (n:Nat):Mem (W.drewN n) L:=h.below ⟨rfl,rfl,rfl,Nat.le_refl _,fun _ _=>rfl⟩
theorem add {c:Ch} (h:Mem W L) (hc:c.Holds W) (hs:∀ (i:Nat) (d:Ch),L[i]?=some d→(c.mut∨d.mut)→∀ g,c.fp g→¬ d.fp g):Mem W (L++[c]):=by
 constructor
 · intro i d hi
   rcases snoc_at hi with ⟨_,h1⟩ | ⟨_,rfl⟩
   · exact h.holds i d h1
   · exact hc
 · intro i j a b hne hi hj hm g ha hb
   rcases snoc_at hi with ⟨h1,h2⟩ | ⟨h1,rfl⟩ <;> rcases snoc_at hj with ⟨k1,k2⟩ | ⟨k1,rfl⟩
   · exact h.sep i j a b hne h2 k2 hm g ha hb
   · exact hs i a h2 (.inr hm) g hb ha
   · exact hs j b k2 (.inl hm) g ha hb
   · omega
theorem push {c:Ch} (h:Mem W L) (hb:Below W.heap.size W W') (hc:c.Holds W') (hf:∀ g,c.fp g→W.heap.size≤g):Mem W' (L++[c]) :=
 (h.below hb).add hc fun i d hi _ g h1 h2=>by
  have:=hf g h1
  have:=Ch.lt (h.holds i d hi) h2
  omega
theorem alloc (h:Mem W L) (o:Obj):Mem (W.alloc o) (L++[.obj W.heap.size o]) :=
 h.push ((Below.refl _ _).alloc (Nat.le_refl _) o) (heap_alloc_new W o) fun g hg=>by cases hg;exact Nat.le_refl _
theorem alloc_ {o:Obj} (h:Mem W L) (hW:W'=W.alloc o):Mem W' (L++[.obj W.heap.size o]):=hW ▸ h.alloc o
theorem more {c d:Ch} {i:Nat} (h:Mem W L) (hi:L[i]?=some c) (hm:¬ c.mut) (hd:d.Holds W) (hdm:¬ d.mut) (hf:∀ g,d.fp g→c.fp g):Mem W (L++[d]) :=
 h.add hd fun j e hj hme g h1 h2=>by
  rcases hme with hme | hme
  · exact hdm hme
  · have hne:j≠i:=by
     rintro rfl
     rw [hi] at hj
     injection hj with hj
     subst hj
     exact hm hme
    exact h.sep j i e c hne hj hi hme g h2 (hf g h1)
theorem upd {c c':Ch} {i:Nat} (h:Mem W L) (hi:L[i]?=some c) (hm:c.mut) (k:Keep (fun g=>c.fp g) W W') (hc:c'.Holds W') (hf:∀ g,c'.fp g→c.fp g∨W.heap.size≤g):Mem W' (L.set i c'):=by
 have hlt:i<L.length:=by
  rcases Nat.lt_or_ge i L.length with h1 | h1
  · exact h1
  · rw [List.getElem?_eq_none h1] at hi;cases hi
 have old:∀ j d,j≠i→(L.set i c')[j]?=some d→L[j]?=some d:=fun j d hne hj=>by
  rw [List.getElem?_set_ne (Ne.symm hne)] at hj;exact hj
 have new:∀ d,(L.set i c')[i]?=some d→d=c':=fun d hd=>by
  rw [List.getElem?_set_self hlt] at hd;injection hd with hd;exact hd.symm
 have off:∀ j d,j≠i→L[j]?=some d→∀ g,c'.fp g→¬ d.fp g:=fun j d hne hj g h1 h2=>by
  rcases hf g h1 with h3 | h3
  · exact h.sep i j c d (Ne.symm hne) hi hj hm g h3 h2
  · have:=Ch.lt (h.holds j d hj) h2
    omega
 constructor
 · intro j d hj
   by_cases hji:j=i
   · subst hji;rw [new d hj];exact hc
   · have h1:=old j d hji hj
     exact Ch.keep (h.holds j d h1) k fun g h2 h3=>h.sep i j c d (Ne.symm hji) hi h1 hm g h3 h2
 · intro j l a b hne hj hl ha g h1 h2
   by_cases hji:j=i
   · subst hji
     rw [new a hj] at h1
     exact off l b (Ne.symm hne) (old l b (Ne.symm hne) hl) g h1 h2
   · by_cases hli:l=i
     · subst hli
       rw [new b hl] at h2
       exact off j a hji (old j a hji hj) g h2 h1
     · exact h.sep j l a b hne (old j a hji hj) (old l b hli hl) ha g h1 h2
theorem turn {c c':Ch} {i:Nat} (h:Mem W L) (hi:L[i]?=some c) (hc:c'.Holds W) (hf:∀ g,c'.fp g→c.fp g) (hm:c.mut):Mem W (L.set i c') :=
 h.upd hi hm ⟨rfl,rfl,rfl,Nat.le_refl _,fun _ _ _=>rfl⟩ hc fun g hg=>.inl (hf g hg)
theorem set {g j:Nat} {cs:Array Value} {t:TypeId} {i:Nat} (h:Mem W L) (hi:L[i]?=some (.obj g (.cells cs t (0,0)))) (v:Value) :
  Mem (W.setCell ⟨g,j,none⟩ v) (L.set i (.obj g (.cells (cs.setIfInBounds j v) t (0,0)))) :=
 h.upd hi trivial ((Keep.refl (fun k=>k=g) W).set (p:=⟨g,j,none⟩) (.inl rfl) v) (blk_set (h.holds i _ hi) j v) fun _ hg=>.inl hg
theorem put {g:Nat} {o:Obj} {i:Nat} (h:Mem W L) (hi:L[i]?=some (.obj g o)) (o':Obj):Mem (W.putObj g o') (L.set i (.obj g o')) :=
 h.upd hi trivial ((Keep.refl (fun k=>k=g) W).put (k:=g) (.inl rfl) o') (World.putObj_heap_same (blk_lt (h.holds i _ hi))) fun _ hg=>.inl hg
theorem grow {base e size n n':Nat} {v v':Value} {xs xs':List Value} {i:Nat} (h:Mem W L) (hi:L[i]?=some (.own base e size v n xs)) (hg:W.grownBy W' v.ownBlock) (ho:W'.ownsRow base e size v' n' xs') (hv:v'.ownBlock=v.ownBlock∨∃ k,v'.ownBlock=some k∧W.heap.size≤k) :
  Mem W' (L.set i (.own base e size v' n' xs')) :=
 h.upd hi trivial ((Keep.refl _ W).grown hg fun k hk=>.inl hk) ⟨ho,Nat.le_trans (h.holds i _ hi).2 hg.size⟩ fun g hg=>by
  rcases hv with hv | ⟨k,hk,hle⟩
  · exact .inl (hv.symm.trans hg)
  · refine .inr ?_
    have e1:v'.ownBlock=some g:=hg
    rw [hk] at e1
    injection e1 with e1
    omega
theorem setOwn {base e size n cap g j:Nat} {xs:List Value} {i:Nat} (h:Mem W L) (hi:L[i]?=some (.own base e size (.slice (some ⟨g,0,none⟩) n cap) n xs)) (u:Value) :
  Mem (W.setCell ⟨g,j,none⟩ u) (L.set i (.own base e size (.slice (some ⟨g,0,none⟩) n cap) n (xs.set j u))) :=
 h.grow hi ((h.holds i _ hi).1.stored j u).2 ((h.holds i _ hi).1.stored j u).1 (.inl rfl)
theorem freeze {base e size n cap:Nat} {A:Option Addr} {xs:List Value} {i:Nat} (h:Mem W L) (hi:L[i]?=some (.own base e size (.slice A n cap) n xs)):Mem W (L.set i (.rd A xs)) :=
 h.turn hi (rd_of_own (h.holds i _ hi).1) (fun g hg=>by
  obtain ⟨_,p,rfl,rfl⟩:=hg
  rfl) trivial
theorem pick (h:Mem W L) (is:List Nat) (L':List Ch) (he:is.map (fun i=>L[i]?)=L'.map some) (hn:is.Nodup):Mem W L':=by
 have key:∀ (i:Nat) (c:Ch),L'[i]?=some c→∃ k,is[i]?=some k∧L[k]?=some c:=fun i c hi=>by
  have h1:=congrArg (fun l=>l[i]?) he
  simp only [List.getElem?_map,hi,Option.map_some] at h1
  cases hk:is[i]? with
  | none=>rw [hk] at h1;cases h1
  | some k=>rw [hk] at h1;exact ⟨k,rfl,by simpa using h1⟩
 constructor
 · intro i c hi
   obtain ⟨k,_,h2⟩:=key i c hi
   exact h.holds k c h2
 · intro i j c d hne hi hj hm g hc hd
   obtain ⟨k,k1,k2⟩:=key i c hi
   obtain ⟨l,l1,l2⟩:=key j d hj
   refine h.sep k l c d (fun e=>hne ?_) k2 l2 hm g hc hd
   subst e
   obtain ⟨hi',e1⟩:=List.getElem?_eq_some_iff.1 k1
   obtain ⟨hj',e2⟩:=List.getElem?_eq_some_iff.1 l1
   rcases Nat.lt_trichotomy i j with h1 | h1 | h1
   · exact absurd (e1.trans e2.symm) (List.pairwise_iff_getElem.1 hn i j hi' hj' h1)
   · exact h1
   · exact absurd (e2.trans e1.symm) (List.pairwise_iff_getElem.1 hn j i hj' hi' h1)
theorem front (h:Mem W L) (n:Nat):Mem W (L.take n):=by
 have key:∀ (i:Nat) (c:Ch),(L.take n)[i]?=some c→L[i]?=some c:=fun i c hi=>by
  rw [List.getElem?_take] at hi
  split at hi
  · exact hi
  · cases hi
 exact ⟨fun i c hi=>h.holds i c (key i c hi),fun i j c d hne hi hj=>h.sep i j c d hne (key i c hi) (key j d hj)⟩
theorem setl {M:List Ch} {i:Nat} {c d:Ch} (h:Mem W ((L++M).set i c)) (hi:L[i]?=some d):Mem W (L.set i c):=by
 rw [set_app hi] at h
 have:=h.front (L.set i c).length
 rwa [take_app] at this
theorem asc {X B C:List Ch} (h:Mem W ((X++B)++C)):Mem W (X++(B++C)):=by rw [← List.append_assoc];exact h
theorem left2 {X B C:List Ch} (h:Mem W (X++(B++C))):Mem W (X++B):=by
 rw [← List.append_assoc] at h
 have:=h.front (X++B).length
 rwa [take_app] at this
theorem left {M:List Ch} (h:Mem W (L++M)):Mem W L:=by
 have:=h.front L.length
 rwa [take_app] at this
theorem bel (h:Mem W L) (i:Nat) {B:Nat} {w0:World} (hi:L[i]?=some (.bel B w0)):Below B w0 W:=(h.holds i _ hi).1
theorem obj (h:Mem W L) (i:Nat) {g:Nat} {o:Obj} (hi:L[i]?=some (.obj g o)):W.heap[g]?=some o:=h.holds i _ hi
theorem lt (h:Mem W L) (i:Nat) {g:Nat} {o:Obj} (hi:L[i]?=some (.obj g o)):g<W.heap.size:=blk_lt (h.holds i _ hi)
theorem cell (h:Mem W L) (i j:Nat) {g:Nat} {cs:Array Value} {t:TypeId} {v:Value} (hi:L[i]?=some (.obj g (.cells cs t (0,0)))) (hj:cs[j]?=some v):W.cell? ⟨g,j,none⟩=some v :=
 (blk_cell (h.holds i _ hi) j).trans hj
theorem cells (h:Mem W L) (i:Nat) {g:Nat} {cs:Array Value} {t:TypeId} (hi:L[i]?=some (.obj g (.cells cs t (0,0)))) (k:Nat):W.cell? ⟨g,k,none⟩=cs.toList[k]?:=by
 rw [blk_cell (h.holds i _ hi) k];simp
theorem frozen (h:Mem W L) (i j:Nat) {g:Nat} {cs:Array Value} {t:TypeId} (hi:L[i]?=some (.obj g (.cells cs t (0,0)))):W.frozen? ⟨g,j,none⟩=false:=blk_frozen (h.holds i _ hi) j
theorem rd (h:Mem W L) (i:Nat) {A:Option Addr} {vs:List Value} (hi:L[i]?=some (.rd A vs)):Rd W W.heap.size A vs:=h.holds i _ hi
theorem own (h:Mem W L) (i:Nat) {base e size n:Nat} {v:Value} {xs:List Value} (hi:L[i]?=some (.own base e size v n xs)):W.ownsRow base e size v n xs:=(h.holds i _ hi).1
theorem st (h:Mem W L) (i:Nat) {F:Nat→Prop} {P:World→Prop} (hi:L[i]?=some (.st F P)):P W:=(h.holds i _ hi).now
theorem rdAt (h:Mem W L) (i:Nat) {b off j:Nat} {u:Value} {vs:List Value} (hi:L[i]?=some (.rd (some ⟨b,off,none⟩) vs)) (hv:vs[j]?=some u):W.cell? ⟨b,off+j,none⟩=some u:=by
 obtain ⟨b',off',e,_,hc⟩:=h.rd i hi (by have:=(List.getElem?_eq_some_iff.1 hv).1;omega)
 injection e with e
 injection e with e1 e2
 subst e1;subst e2
 exact hc j u hv
theorem add_rd {w0:World} {B:Nat} {A:Option Addr} {vs:List Value} {i:Nat} (h:Mem W L) (hi:L[i]?=some (.bel B w0)) (hr:Rd w0 B A vs):Mem W (L++[.rd A vs]):=by
 have hh:=h.holds i _ hi
 refine h.more hi (fun h=>h) ((hr.below hh.1).more (Nat.le_trans hh.2 hh.1.size)) (fun h=>h) ?_
 rintro g ⟨h0,p,rfl,rfl⟩
 obtain ⟨b,off,e,hb,_⟩:=hr h0
 injection e with e
 subst e
 exact hb
theorem push_rd {A:Option Addr} {vs:List Value} (h:Mem W L) (hb:Below W.heap.size W W') (hr:Rd W' W'.heap.size A vs) (hA:∀ p,A=some p→W.heap.size≤p.block):Mem W' (L++[.rd A vs]) :=
 h.push hb hr fun _ ⟨_,p,h1,h2⟩=>h2 ▸ hA p h1
theorem push_own {base e size n:Nat} {v:Value} {xs:List Value} (h:Mem W L) (hb:Below W.heap.size W W') (hr:W'.ownsRow base e size v n xs) (hB:W.heap.size=base):Mem W' (L++[.own base e size v n xs]) :=
 h.push hb ⟨hr,hB ▸ hb.size⟩ fun g hg=>hB ▸ (hr.lt g hg).1
end Mem
section
variable {P:Program} {Q:Exit→Act→World→Prop} {a:Act} {w:World}
theorem name_wp {c:Code} (h:∀ W,Hid (W=w)→c.wp P Q a W):c.wp P Q a w:=h w (K1 rfl)
theorem name_calls {f:FuncId} {args:Array Value} {R:Ending→World→Prop} (h:∀ W,Hid (W=w)→Calls P f args W R):Calls P f args w R:=h w (K1 rfl)
end
end Go.Proofs.YtdpojpcoghcieaaGreat
