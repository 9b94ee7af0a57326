/- A part of the proof of TopSerial: Grow, ItemP, Clones. Conditions: none. -/
import Derived.OwnWalkIn
import Derived.Test.YtdpojpcoghcieaaGreatSdAA
set_option maxHeartbeats 8000000
namespace Go.Proofs.YtdpojpcoghcieaaGreat
open Go.RowKit
structure RowT (P:Program) (t e:TypeId) (size bytes:Nat):Prop where
 ex:∃ i z,P.underlying t=some (.slice e)∧P.info? e=some i∧i.zero=some z∧i.size=size∧i.bytes=bytes∧z.cells.size=size∧0<size∧bytes≤1000
section
variable {P:Program} {w:World}
theorem run_append_any (base:Nat) {t ty e:TypeId} {size bytes:Nat} (T:RowT P t e size bytes)
  (v:Value) (n:Nat) (xs:List Value) (hown:w.ownsRow base e size v n xs)
  (A:Option Addr) (m c:Nat) (news:List Value) (hr:Rd w w.heap.size A news) (hl:news.length=m*size) (h1:∀ u∈news,u.oneCell'=true)
  (hn:n+m≤1073741824) (hbase:base≤w.heap.size) :
  ∃ v' w',(Builtin.append_ #[t,t] ty #[v,.slice A m c]).run P w=.ok v' w'∧w'.ownsRow base e size v' (n+m) (xs++news)∧w.grownBy w' v.ownBlock ∧
    (v'.ownBlock=v.ownBlock∨v'.ownBlock=some w.heap.size):=by
 obtain ⟨i,z,ht,hi,hz,hsize,hby,hzs,hsz,hb⟩:=T.ex
 have h63:n+m≤maxLen:=by simp only [maxLen];omega
 have hbytes:(n+m)*bytes≤140737488355328:=Nat.le_trans (Nat.mul_le_mul hn hb) (by decide)
 rcases Nat.eq_zero_or_pos news.length with h0 | h0
 · have hnn:news=[]:=List.eq_nil_of_length_eq_zero h0
   subst hnn
   have hm:m=0:=by
    rcases Nat.eq_zero_or_pos m with h | h
    · exact h
    · have:=Nat.mul_pos h hsz
      simp at hl
      omega
   subst hm
   rcases A with _ | ad
   · exact ⟨v,w,run_append_nil w base t ty e i size ht hi v n xs hown c,by simpa using hown,World.grownBy.refl w _,.inl rfl⟩
   · obtain ⟨v',w',hrun,h2,h3,_,h5⟩:=run_append_own_at (P:=P) w base t ty e i z size bytes ht hi hz hsize hby hzs hsz v n xs hown ad 0 c [] (by simp) (fun j u hu=>by simp at hu) h1 h63 hbytes hbase
     exact ⟨v',w',hrun,h2,h3,h5⟩
 · obtain ⟨b,off,rfl,_,hc⟩:=hr h0
   have hcells:∀ j u,news[j]?=some u→w.cell? ((⟨b,off,none⟩:Addr).add j)=some u:=fun j u hu=>by rw [add_none];exact hc j u hu
   obtain ⟨v',w',hrun,h2,h3,_,h5⟩:=run_append_own_at (P:=P) w base t ty e i z size bytes ht hi hz hsize hby hzs hsz v n xs hown ⟨b,off,none⟩ m c news hl hcells h1 h63 hbytes hbase
   exact ⟨v',w',hrun,h2,h3,h5⟩
theorem run_append_mem {L:List Ch} (HM:Mem w L) (k:Nat) {base:Nat} {t ty e:TypeId} {size bytes:Nat} (T:RowT P t e size bytes)
  {v:Value} {n:Nat} {xs:List Value} (hk:L[k]?=some (.own base e size v n xs))
  (A:Option Addr) (m c:Nat) (news:List Value) (hr:Rd w w.heap.size A news) (hl:news.length=m*size) (h1:∀ u∈news,u.oneCell'=true) (hn:n+m≤1073741824) :
  ∃ A' c' w',(Builtin.append_ #[t,t] ty #[v,.slice A m c]).run P w=.ok (.slice A' (n+m) c') w'∧Mem w' (L.set k (.own base e size (.slice A' (n+m) c') (n+m) (xs++news))):=by
 obtain ⟨v',w',hrun,h2,h3,h4⟩:=run_append_any (ty:=ty) base T v n xs (HM.own k hk) A m c news hr hl h1 hn (HM.holds k _ hk).2
 obtain ⟨A',c',rfl⟩:=own_slice h2
 exact ⟨A',c',w',hrun,HM.grow hk h3 h2 (h4.imp id fun h=>⟨_,h,Nat.le_refl _⟩)⟩
variable {o:Oper} {a:Act} {Q:Exit→Act→World→Prop}
theorem wp_append_mem {K:Act→World→Prop} (s x:Operand) (t:TypeId)
  (ho:o.op=.call { callee:=.builtin .append,args:=#[s,x],argTypes:=#[t,t] }) {L:List Ch} (HM:Mem w L) (k:Nat) {base:Nat} {e:TypeId} {size bytes:Nat} (T:RowT P t e size bytes)
  {v:Value} {n:Nat} {xs:List Value} (hk:L[k]?=some (.own base e size v n xs)) (hs:a.eval s=v)
  (A:Option Addr) (m c:Nat) (news:List Value) (hx:a.eval x=.slice A m c) (hr:Rd w w.heap.size A news) (hl:news.length=m*size) (h1:∀ u∈news,u.oneCell'=true) (hn:n+m≤1073741824)
  (h:∀ A' c' w',Mem w' (L.set k (.own base e size (.slice A' (n+m) c') (n+m) (xs++news)))→K (a.put o.dst (.slice A' (n+m) c')) w'):o.wp P a w K Q:=by
 obtain ⟨A',c',w',hrun,h2⟩:=run_append_mem (ty:=o.type) HM k T hk A m c news hr hl h1 hn
 unfold Oper.wp execOp
 simp only [ho,resolve,invoke,builtin,Sem.run_bind,Sem.run_pure,Result.andThen_ok,List.map_toArray,List.map_cons,List.map_nil,hs,hx,hrun]
 exact h A' c' w' h2
theorem wpList_append_mem {ops:Array Oper} {rest:List Oper} (hgd:o.guard=none) (s x:Operand) (t:TypeId)
  (ho:o.op=.call { callee:=.builtin .append,args:=#[s,x],argTypes:=#[t,t] }) {L:List Ch} (HM:Mem w L) (k:Nat) {base:Nat} {e:TypeId} {size bytes:Nat} (T:RowT P t e size bytes)
  {v:Value} {n:Nat} {xs:List Value} (hk:L[k]?=some (.own base e size v n xs)) (hs:a.eval s=v)
  (A:Option Addr) (m c:Nat) (news:List Value) (hx:a.eval x=.slice A m c) (hr:Rd w w.heap.size A news) (hl:news.length=m*size) (h1:∀ u∈news,u.oneCell'=true) (hn:n+m≤1073741824)
  (h:∀ A' c' w',Mem w' (L.set k (.own base e size (.slice A' (n+m) c') (n+m) (xs++news)))→wpList P ops Q rest (a.put o.dst (.slice A' (n+m) c')) w'):wpList P ops Q (o::rest) a w :=
 wpList_plain hgd fun _ hK=>wp_append_mem s x t ho HM k T hk hs A m c news hx hr hl h1 hn fun A' c' w' h2=>hK _ _ (h A' c' w' h2)
theorem wpListIn_append_mem {F:Fence} {f:Nat} {ops:Array Oper} {rest:List Oper} (hgd:o.guard=none) (s x:Operand) (t:TypeId)
  (ho:o.op=.call { callee:=.builtin .append,args:=#[s,x],argTypes:=#[t,t] }) {L:List Ch} (HM:Mem w L) (k:Nat) {base:Nat} {e:TypeId} {size bytes:Nat} (T:RowT P t e size bytes)
  {v:Value} {n:Nat} {xs:List Value} (hk:L[k]?=some (.own base e size v n xs)) (hs:a.eval s=v)
  (A:Option Addr) (m c:Nat) (news:List Value) (hx:a.eval x=.slice A m c) (hr:Rd w w.heap.size A news) (hl:news.length=m*size) (h1:∀ u∈news,u.oneCell'=true) (hn:n+m≤1073741824)
  (h:∀ A' c' w',Mem w' (L.set k (.own base e size (.slice A' (n+m) c') (n+m) (xs++news)))→wpListIn F f P ops Q rest (a.put o.dst (.slice A' (n+m) c')) w'):wpListIn F f P ops Q (o::rest) a w:=by
 refine wpListIn_plain hgd fun K hK'=>?_
 obtain ⟨A',c',w',hrun,h2⟩:=run_append_mem (ty:=o.type) HM k T hk A m c news hr hl h1 hn
 unfold Oper.wpIn
 refine ⟨?_,?_⟩
 · simp [Oper.about,ho,resolve,Target.leads,Sem.run_pure]
 · rw [Oper.semAt_plain F _ _ (by rw [ho];intro c hc';cases hc')]
   simp [execOp,ho,resolve,invoke,builtin,hs,hx,hrun,Result.andThen]
   exact hK' _ _ (h A' c' w' h2)
end
theorem Mem.box {W:World} {L:List Ch} (h:Mem W L) (i:Nat) {g:Nat} {cs:Array Value} {t:TypeId} (hi:L[i]?=some (.obj g (.cells cs t (0,0)))):Rd W W.heap.size (some ⟨g,0,none⟩) cs.toList:=fun _=>by
 refine ⟨g,0,rfl,h.lt i hi,fun j u hu=>?_⟩
 rw [Nat.zero_add]
 exact (blk_cell (h.obj i hi) j).trans (by simpa using hu)
theorem Mem.allocd {W W':World} {L:List Ch} {o:Obj} (h:Mem W L) (hW:W'=(W.alloc o).drew):Mem W' (L++[.obj W.heap.size o]):=hW ▸ (h.alloc o).drew
theorem Mem.call_rd {W W':World} {L:List Ch} (h:Mem W L) {e size n:Nat} {v:Value} {xs:List Value} (hb:Below W.heap.size W W') (ho:W'.ownsRow W.heap.size e size v n xs):∃ A c,v=.slice A n c∧n≤c∧Mem W' (L++[.rd A xs]):=by
 obtain ⟨A,c,rfl⟩:=own_slice ho
 refine ⟨A,c,rfl,own_cap ho,h.push_rd hb (rd_of_own ho) (own_from_base ho)⟩
theorem Mem.call_own {W W':World} {L:List Ch} (h:Mem W L) {e size n:Nat} {v:Value} {xs:List Value} (hb:Below W.heap.size W W') (ho:W'.ownsRow W.heap.size e size v n xs):∃ A c,v=.slice A n c∧n≤c∧Mem W' (L++[.own W.heap.size e size (.slice A n c) n xs]):=by
 obtain ⟨A,c,rfl⟩:=own_slice ho
 exact ⟨A,c,rfl,own_cap ho,h.push_own hb ho rfl⟩
end Go.Proofs.YtdpojpcoghcieaaGreat
namespace Go.Proofs.YtdpojpcoghcieaaGreat
open Lib renaming hid → K1
open Go.RowKit
structure Ac where
 send:Bool
 add:Bool
 step:Nat
 bucket:Nat
 phase:Nat
 round:Nat
 chunk:Nat
 lo:Nat
 hi:Nat
 deriving DecidableEq,Inhabited
structure It where
 kind:Nat
 step:Nat
 n:Nat
 a:Ac
 deriving DecidableEq,Inhabited
def Ac.cells (a:Ac):List Value:=[.bool a.send,.bool a.add,.int .i64 a.step,.int .i64 a.bucket,.int .i64 a.phase,.int .i64 a.round,.int .i64 a.chunk,.int .i64 a.lo,.int .i64 a.hi]
def It.cells (x:It):List Value:=[.int .i64 x.kind,.int .i64 x.step,.int .i64 x.n]++x.a.cells
def Ac.zero:Ac:=⟨false,false,0,0,0,0,0,0,0⟩
def acells (l:List Ac):List Value:=l.flatMap Ac.cells
def icells (l:List It):List Value:=l.flatMap It.cells
theorem flat_len {α:Type} (f:α→List Value) (k:Nat) (hf:∀ a,(f a).length=k):∀ l:List α,(l.flatMap f).length=l.length*k
 | []=>by simp
 | a::r=>by rw [List.flatMap_cons,List.length_append,hf,flat_len f k hf r,List.length_cons,Nat.succ_mul,Nat.add_comm]
theorem flat_at {α:Type} (f:α→List Value) (k:Nat) (hf:∀ a,(f a).length=k):∀ (l:List α) (j:Nat) (a:α),l[j]?=some a→∀ i u,(f a)[i]?=some u→(l.flatMap f)[j*k+i]?=some u
 | [],j,a,h,_,_,_=>by simp at h
 | b::r,0,a,h,i,u,hu=>by
   simp at h;subst h
   rw [List.flatMap_cons,Nat.zero_mul,Nat.zero_add]
   have hi:=(List.getElem?_eq_some_iff.1 hu).1
   rw [List.getElem?_append_left hi]
   exact hu
 | b::r,j+1,a,h,i,u,hu=>by
   have ih:=flat_at f k hf r j a (by simpa using h) i u hu
   rw [List.flatMap_cons,List.getElem?_append_right (by rw [hf,Nat.succ_mul];omega),hf,show (j+1)*k+i-k=j*k+i by rw [Nat.succ_mul];omega]
   exact ih
theorem acells_len (l:List Ac):(acells l).length=l.length*9:=flat_len _ 9 (fun _=>rfl) l
theorem acells_snoc (l:List Ac) (a:Ac):acells (l++[a])=acells l++a.cells:=by simp [acells]
theorem icells_snoc (l:List It) (a:It):icells (l++[a])=icells l++a.cells:=by simp [icells]
theorem acells_one (a:Ac):∀ u∈a.cells,u.oneCell'=true:=by
 intro u hu
 simp only [Ac.cells,List.mem_cons,List.not_mem_nil,or_false] at hu
 rcases hu with rfl | rfl | rfl | rfl | rfl | rfl | rfl | rfl | rfl <;> rfl
theorem icells_one (a:It):∀ u∈a.cells,u.oneCell'=true:=by
 intro u hu
 simp only [It.cells,List.mem_append] at hu
 rcases hu with hu | hu
 · simp only [List.mem_cons,List.not_mem_nil,or_false] at hu
   rcases hu with rfl | rfl | rfl <;> rfl
 · exact acells_one _ u hu
theorem infoAc:(Tryz.prog.info? 144).map (fun i=>(i.zero,i.size,i.bytes))=some (some (.agg Ac.zero.cells.toArray),9,64):=by kernel_rfl
theorem infoIt:(Tryz.prog.info? 146).map (fun i=>(i.zero,i.size,i.bytes))=some (some (.agg (It.cells ⟨0,0,0,Ac.zero⟩).toArray),12,88):=by kernel_rfl
theorem rowAc:RowT Tryz.prog 278 144 9 64:=by
 obtain ⟨i0,hi,hz0,hz1,hz2⟩:=info_parts infoAc
 exact ⟨i0,_,Tryz.underlying278,hi,hz0,hz1,hz2,rfl,by decide,by decide⟩
theorem rowIt:RowT Tryz.prog 166 146 12 88:=by
 obtain ⟨i0,hi,hz0,hz1,hz2⟩:=info_parts infoIt
 exact ⟨i0,_,Tryz.underlying166,hi,hz0,hz1,hz2,rfl,by decide,by decide⟩
theorem own_empty_at (w:World) (e:TypeId) (size:Nat):(w.alloc (.cells #[] e)).ownsRow w.heap.size e size (.slice (some ⟨w.heap.size,0,none⟩) 0 0) 0 [] :=
 ⟨by simp,.inr ⟨w.heap.size,0,#[],rfl,Nat.le_refl _,heap_alloc_new w _,Nat.le_refl _,by simp [maxLen],by simp,by simp⟩⟩
theorem rd_none {w:World} {B:Nat} {vs:List Value} (h:Rd w B none vs):vs=[]:=by
 cases vs with
 | nil=>rfl
 | cons v r=>obtain ⟨b,off,e,_⟩:=h (by simp);cases e
theorem infoCR:(Tryz.prog.info? 47).map (fun i=>(i.zero,i.size,i.bytes))=some (some (.agg #[.int .i64 0,.int .i64 0]),2,16):=by kernel_rfl
theorem rowCR:RowT Tryz.prog 44 47 2 16:=by
 obtain ⟨i0,hi,hz0,hz1,hz2⟩:=info_parts infoCR
 exact ⟨i0,_,Tryz.underlying44,hi,hz0,hz1,hz2,rfl,by decide,by decide⟩
theorem cloneR_any (A:Option Addr) (n cap:Nat) (vs:List Value) (w:World) (hr:Rd w w.heap.size A vs) (hl:vs.length=n*2) (h1:∀ u∈vs,u.oneCell'=true) (hn:n≤1000000000) :
  Calls Tryz.prog 113 #[.slice A n cap] w fun e w'=>∃ A' c',e=.returned (.slice A' n c')∧w'.ownsRow w.heap.size 47 2 (.slice A' n c') n vs∧n≤c'∧Below w.heap.size w w':=by
 rcases A with _ | a
 · obtain rfl:=rd_none hr
   obtain rfl:n=0:=by simp at hl;omega
   have he:=fun c=>Lib.run_eql_slice_nil (P:=Tryz.prog) w 44 47 none 0 c 0 0 Tryz.underlying44
   go_enter Tryz.func113,Tryz.ntmps113
   go_wp2
   go_ret
   exact ⟨none,0,rfl,own_nil _ _ _ _,Nat.le_refl _,Below.refl _ _⟩
 · have hM:=(Mem.start w).push_own ((Below.refl w.heap.size w).alloc (Nat.le_refl _) (.cells #[] 47)) (own_empty_at w 47 2) rfl
   have hr2:=Rd.more (hr.alloc (Nat.le_refl _) (.cells #[] 47)) (B':=(w.alloc (.cells #[] 47)).heap.size) (by simp)
   have HM:=K1 (And.intro hM (And.intro hr2 (And.intro hl (And.intro h1 hn))))
   clear hM hr2 hr hl h1 hn
   have he:=Lib.run_eql_slice_nil (P:=Tryz.prog) w 44 47 (some a) n cap 0 0 Tryz.underlying44
   go_enter Tryz.func113,Tryz.ntmps113
   go_wp2_with (at_builtin;refine wpList_append_mem rfl _ _ 44 rfl HM.out.1 1 rowCR rfl rfl (some a) n cap vs rfl HM.out.2.1 HM.out.2.2.1 HM.out.2.2.2.1 (by have:=HM.out.2.2.2.2;omega) ?_;intro A' c' w1 hM1)
   have HF:=K1 hM1
   clear hM1
   go_wp2
   go_ret
   have h2:=HF.out.own 1 rfl
   simp only [Nat.zero_add,List.nil_append] at h2
   exact ⟨A',c',by go_num,h2,own_cap h2,HF.out.bel 0 rfl⟩
theorem infoCV:(Tryz.prog.info? 2).map (fun i=>(i.zero,i.size,i.bytes))=some (some (.int .i64 0),1,8):=by kernel_rfl
theorem rowCV:RowT Tryz.prog 87 2 1 8:=by
 obtain ⟨i0,hi,hz0,hz1,hz2⟩:=info_parts infoCV
 exact ⟨i0,_,Tryz.underlying87,hi,hz0,hz1,hz2,rfl,by decide,by decide⟩
theorem cloneV_any (A:Option Addr) (n cap:Nat) (vs:List Value) (w:World) (hr:Rd w w.heap.size A vs) (hl:vs.length=n*1) (h1:∀ u∈vs,u.oneCell'=true) (hn:n≤1000000000) :
  Calls Tryz.prog 143 #[.slice A n cap] w fun e w'=>∃ A' c',e=.returned (.slice A' n c')∧w'.ownsRow w.heap.size 2 1 (.slice A' n c') n vs∧n≤c'∧Below w.heap.size w w':=by
 rcases A with _ | a
 · obtain rfl:=rd_none hr
   obtain rfl:n=0:=by simp at hl;omega
   have he:=fun c=>Lib.run_eql_slice_nil (P:=Tryz.prog) w 87 2 none 0 c 0 0 Tryz.underlying87
   go_enter Tryz.func143,Tryz.ntmps143
   go_wp2
   go_ret
   exact ⟨none,0,rfl,own_nil _ _ _ _,Nat.le_refl _,Below.refl _ _⟩
 · have hM:=(Mem.start w).push_own ((Below.refl w.heap.size w).alloc (Nat.le_refl _) (.cells #[] 2)) (own_empty_at w 2 1) rfl
   have hr2:=Rd.more (hr.alloc (Nat.le_refl _) (.cells #[] 2)) (B':=(w.alloc (.cells #[] 2)).heap.size) (by simp)
   have HM:=K1 (And.intro hM (And.intro hr2 (And.intro hl (And.intro h1 hn))))
   clear hM hr2 hr hl h1 hn
   have he:=Lib.run_eql_slice_nil (P:=Tryz.prog) w 87 2 (some a) n cap 0 0 Tryz.underlying87
   go_enter Tryz.func143,Tryz.ntmps143
   go_wp2_with (at_builtin;refine wpList_append_mem rfl _ _ 87 rfl HM.out.1 1 rowCV rfl rfl (some a) n cap vs rfl HM.out.2.1 HM.out.2.2.1 HM.out.2.2.2.1 (by have:=HM.out.2.2.2.2;omega) ?_;intro A' c' w1 hM1)
   have HF:=K1 hM1
   clear hM1
   go_wp2
   go_ret
   have h2:=HF.out.own 1 rfl
   simp only [Nat.zero_add,List.nil_append] at h2
   exact ⟨A',c',by go_num,h2,own_cap h2,HF.out.bel 0 rfl⟩
theorem infoCL:(Tryz.prog.info? 2).map (fun i=>(i.zero,i.size,i.bytes))=some (some (.int .i64 0),1,8):=by kernel_rfl
theorem rowCL:RowT Tryz.prog 26 2 1 8:=by
 obtain ⟨i0,hi,hz0,hz1,hz2⟩:=info_parts infoCL
 exact ⟨i0,_,Tryz.underlying26,hi,hz0,hz1,hz2,rfl,by decide,by decide⟩
theorem cloneL_any (A:Option Addr) (n cap:Nat) (vs:List Value) (w:World) (hr:Rd w w.heap.size A vs) (hl:vs.length=n*1) (h1:∀ u∈vs,u.oneCell'=true) (hn:n≤1000000000) :
  Calls Tryz.prog 129 #[.slice A n cap] w fun e w'=>∃ A' c',e=.returned (.slice A' n c')∧w'.ownsRow w.heap.size 2 1 (.slice A' n c') n vs∧n≤c'∧Below w.heap.size w w':=by
 rcases A with _ | a
 · obtain rfl:=rd_none hr
   obtain rfl:n=0:=by simp at hl;omega
   have he:=fun c=>Lib.run_eql_slice_nil (P:=Tryz.prog) w 26 2 none 0 c 0 0 Tryz.underlying26
   go_enter Tryz.func129,Tryz.ntmps129
   go_wp2
   go_ret
   exact ⟨none,0,rfl,own_nil _ _ _ _,Nat.le_refl _,Below.refl _ _⟩
 · have hM:=(Mem.start w).push_own ((Below.refl w.heap.size w).alloc (Nat.le_refl _) (.cells #[] 2)) (own_empty_at w 2 1) rfl
   have hr2:=Rd.more (hr.alloc (Nat.le_refl _) (.cells #[] 2)) (B':=(w.alloc (.cells #[] 2)).heap.size) (by simp)
   have HM:=K1 (And.intro hM (And.intro hr2 (And.intro hl (And.intro h1 hn))))
   clear hM hr2 hr hl h1 hn
   have he:=Lib.run_eql_slice_nil (P:=Tryz.prog) w 26 2 (some a) n cap 0 0 Tryz.underlying26
   go_enter Tryz.func129,Tryz.ntmps129
   go_wp2_with (at_builtin;refine wpList_append_mem rfl _ _ 26 rfl HM.out.1 1 rowCL rfl rfl (some a) n cap vs rfl HM.out.2.1 HM.out.2.2.1 HM.out.2.2.2.1 (by have:=HM.out.2.2.2.2;omega) ?_;intro A' c' w1 hM1)
   have HF:=K1 hM1
   clear hM1
   go_wp2
   go_ret
   have h2:=HF.out.own 1 rfl
   simp only [Nat.zero_add,List.nil_append] at h2
   exact ⟨A',c',by go_num,h2,own_cap h2,HF.out.bel 0 rfl⟩
theorem infoCU:(Tryz.prog.info? 141).map (fun i=>(i.zero,i.size,i.bytes))=some (some (.int .u64 0),1,8):=by kernel_rfl
theorem rowCU:RowT Tryz.prog 27 141 1 8:=by
 obtain ⟨i0,hi,hz0,hz1,hz2⟩:=info_parts infoCU
 exact ⟨i0,_,Tryz.underlying27,hi,hz0,hz1,hz2,rfl,by decide,by decide⟩
theorem cloneU_any (A:Option Addr) (n cap:Nat) (vs:List Value) (w:World) (hr:Rd w w.heap.size A vs) (hl:vs.length=n*1) (h1:∀ u∈vs,u.oneCell'=true) (hn:n≤1000000000) :
  Calls Tryz.prog 137 #[.slice A n cap] w fun e w'=>∃ A' c',e=.returned (.slice A' n c')∧w'.ownsRow w.heap.size 141 1 (.slice A' n c') n vs∧n≤c'∧Below w.heap.size w w':=by
 rcases A with _ | a
 · obtain rfl:=rd_none hr
   obtain rfl:n=0:=by simp at hl;omega
   have he:=fun c=>Lib.run_eql_slice_nil (P:=Tryz.prog) w 27 141 none 0 c 0 0 Tryz.underlying27
   go_enter Tryz.func137,Tryz.ntmps137
   go_wp2
   go_ret
   exact ⟨none,0,rfl,own_nil _ _ _ _,Nat.le_refl _,Below.refl _ _⟩
 · have hM:=(Mem.start w).push_own ((Below.refl w.heap.size w).alloc (Nat.le_refl _) (.cells #[] 141)) (own_empty_at w 141 1) rfl
   have hr2:=Rd.more (hr.alloc (Nat.le_refl _) (.cells #[] 141)) (B':=(w.alloc (.cells #[] 141)).heap.size) (by simp)
   have HM:=K1 (And.intro hM (And.intro hr2 (And.intro hl (And.intro h1 hn))))
   clear hM hr2 hr hl h1 hn
   have he:=Lib.run_eql_slice_nil (P:=Tryz.prog) w 27 141 (some a) n cap 0 0 Tryz.underlying27
   go_enter Tryz.func137,Tryz.ntmps137
   go_wp2_with (at_builtin;refine wpList_append_mem rfl _ _ 27 rfl HM.out.1 1 rowCU rfl rfl (some a) n cap vs rfl HM.out.2.1 HM.out.2.2.1 HM.out.2.2.2.1 (by have:=HM.out.2.2.2.2;omega) ?_;intro A' c' w1 hM1)
   have HF:=K1 hM1
   clear hM1
   go_wp2
   go_ret
   have h2:=HF.out.own 1 rfl
   simp only [Nat.zero_add,List.nil_append] at h2
   exact ⟨A',c',by go_num,h2,own_cap h2,HF.out.bel 0 rfl⟩
theorem infoCI:(Tryz.prog.info? 3).map (fun i=>(i.zero,i.size,i.bytes))=some (some (.int .i64 0),1,8):=by kernel_rfl
theorem rowCI:RowT Tryz.prog 22 3 1 8:=by
 obtain ⟨i0,hi,hz0,hz1,hz2⟩:=info_parts infoCI
 exact ⟨i0,_,Tryz.underlying22,hi,hz0,hz1,hz2,rfl,by decide,by decide⟩
theorem cloneI_any (A:Option Addr) (n cap:Nat) (vs:List Value) (w:World) (hr:Rd w w.heap.size A vs) (hl:vs.length=n*1) (h1:∀ u∈vs,u.oneCell'=true) (hn:n≤1000000000) :
  Calls Tryz.prog 98 #[.slice A n cap] w fun e w'=>∃ A' c',e=.returned (.slice A' n c')∧w'.ownsRow w.heap.size 3 1 (.slice A' n c') n vs∧n≤c'∧Below w.heap.size w w':=by
 rcases A with _ | a
 · obtain rfl:=rd_none hr
   obtain rfl:n=0:=by simp at hl;omega
   have he:=fun c=>Lib.run_eql_slice_nil (P:=Tryz.prog) w 22 3 none 0 c 0 0 Tryz.underlying22
   go_enter Tryz.func98,Tryz.ntmps98
   go_wp2
   go_ret
   exact ⟨none,0,rfl,own_nil _ _ _ _,Nat.le_refl _,Below.refl _ _⟩
 · have hM:=(Mem.start w).push_own ((Below.refl w.heap.size w).alloc (Nat.le_refl _) (.cells #[] 3)) (own_empty_at w 3 1) rfl
   have hr2:=Rd.more (hr.alloc (Nat.le_refl _) (.cells #[] 3)) (B':=(w.alloc (.cells #[] 3)).heap.size) (by simp)
   have HM:=K1 (And.intro hM (And.intro hr2 (And.intro hl (And.intro h1 hn))))
   clear hM hr2 hr hl h1 hn
   have he:=Lib.run_eql_slice_nil (P:=Tryz.prog) w 22 3 (some a) n cap 0 0 Tryz.underlying22
   go_enter Tryz.func98,Tryz.ntmps98
   go_wp2_with (at_builtin;refine wpList_append_mem rfl _ _ 22 rfl HM.out.1 1 rowCI rfl rfl (some a) n cap vs rfl HM.out.2.1 HM.out.2.2.1 HM.out.2.2.2.1 (by have:=HM.out.2.2.2.2;omega) ?_;intro A' c' w1 hM1)
   have HF:=K1 hM1
   clear hM1
   go_wp2
   go_ret
   have h2:=HF.out.own 1 rfl
   simp only [Nat.zero_add,List.nil_append] at h2
   exact ⟨A',c',by go_num,h2,own_cap h2,HF.out.bel 0 rfl⟩
end Go.Proofs.YtdpojpcoghcieaaGreat
