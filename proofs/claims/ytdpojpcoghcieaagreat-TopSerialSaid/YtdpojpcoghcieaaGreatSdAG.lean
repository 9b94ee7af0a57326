/- A part of the proof of TopSerial: ListAdd, PlanP, Rounds, Reverse. Conditions: none. -/
import Derived.Test.YtdpojpcoghcieaaGreatSdAF
set_option maxHeartbeats 8000000
namespace Go.Proofs.YtdpojpcoghcieaaGreat
open Lib renaming hid → K1
open List renaming filterMap_cons → p1, filterMap_nil → p2, getElem?_cons_zero → p3, getElem?_cons_succ → p4
open Go.RowKit
set_option maxRecDepth 100000 in
theorem ladd_any (w:World) (L:List Ch) (h:Mem w L) (kind n step bl base:Nat) (x:Ac) (A:Option Addr) (c:Nat) (its:List It) (i o:Nat)
  (hi:L[i]?=some (.obj bl (.cells #[.int .i64 step,.slice A its.length c] 258 (0,0)))) (ho:L[o]?=some (.own base 146 12 (.slice A its.length c) its.length (icells its))) (hl:its.length≤1000000000) :
  Calls Tryz.prog 141 #[.pointer (some ⟨bl,0,none⟩),.int .i64 kind,.int .i64 n,.agg x.cells.toArray] w fun e w'=>e=.returned (.tuple #[])∧∃ A' c',Mem w' ((L.set o (.own base 146 12 (.slice A' (its.length+1) c') (its.length+1) (icells (its++[⟨kind,step,n,x⟩])))).set i (.obj bl (.cells #[.int .i64 step,.slice A' (its.length+1) c'] 258 (0,0)))):=by
 have H0:=K1 h
 have HI:=K1 hi
 have HO:=K1 ho
 have HL:=K1 hl
 clear h hi ho hl
 simp only [Ac.cells]
 go_enter Tryz.func141,Tryz.ntmps141
 go_wp2_with fail
 refine name_wp fun W hW=>?_
 have HM:=K1 (H0.out.alloc_ hW.out)
 clear hW
 refine wp_region_spine 13 2 (fun W'=>W'.heap[bl]?=some (.cells #[.int .i64 step,.slice A its.length c] 258 (0,0))∧W'.heap[w.heap.size]?=some (.cells #[.bool x.send,.bool x.add,.int .i64 x.step,.int .i64 x.bucket,.int .i64 x.phase,.int .i64 x.round,.int .i64 x.chunk,.int .i64 x.lo,.int .i64 x.hi] 144 (0,0)))
  (by kernel_rfl) (by kernel_rfl) (by kernel_rfl) (by intro d v c a w h;cases d <;> exact h) ⟨HM.out.drew.obj i (at_l HI.out),HM.out.drew.obj _ at_last⟩ ?_
 apply Exists.intro
 apply And.intro
 · intro W' hS
   obtain ⟨s1,s2⟩:=hS
   have c1:=fun i=>blk_cell s1 i
   have c2:=fun i=>blk_cell s2 i
   clear s1 s2
   simp only [List.take_succ_cons,List.take_zero]
   repeat still_step
   exact wpStill_nil rfl
 simp only [List.drop_succ_cons,List.drop_zero,List.take_succ_cons,List.take_zero]
 refine Spine.step ?_
 go_wp2_with fail
 refine name_behind fun W2 hW=>?_
 have HM2:=K1 (HM.out.drew.alloc_ hW.out)
 clear hW HM
 refine Behind.go ⟨HM2.out.obj i (at_l (at_l HI.out)),HM2.out.obj _ (at_l at_last)⟩ (Spine.step ?_)
 go_wp2_with (at_builtin;refine wpList_append_mem rfl _ _ 166 rfl HM2.out o rowIt (at_l (at_l HO.out)) rfl _ 1 _ (It.cells ⟨kind,step,n,x⟩) rfl (HM2.out.box _ at_last) rfl (icells_one _) (by have:=HL.out;omega) ?_;intro A' c' W3 hM3)
 have HM3:=K1 (Mem.setl hM3 (at_l HO.out))
 clear hM3 HM2
 refine Behind.go ⟨HM3.out.obj i (at_ne (idx_ne HO.out HI.out (by simp)) (at_l HI.out)),HM3.out.obj _ (at_ne (Nat.ne_of_lt (List.getElem?_eq_some_iff.1 HO.out).1) at_last)⟩ (Spine.nil_ ?_)
 have HM4:=K1 (Mem.setl HM3.out HO.out)
 have HI4:=K1 (at_ne (d:=.own base 146 12 (.slice A' (its.length+1) c') (its.length+1) (icells its++(It.cells ⟨kind,step,n,x⟩))) (idx_ne HO.out HI.out (by simp)) HI.out)
 have c1:W3.cell? ⟨bl,1,none⟩=some (.slice A its.length c):=HM4.out.cell i 1 HI4.out rfl
 have f1:W3.frozen? ⟨bl,1,none⟩=false:=HM4.out.frozen i 1 HI4.out
 have HF:=K1 (HM4.out.set (j:=1) HI4.out (.slice A' (its.length+1) c'))
 clear HM3
 go_wp2
 go_end0
 refine ⟨rfl,A',c',?_⟩
 rw [icells_snoc]
 exact HF.out
structure Sg where
 As:Option Addr
 ns:Nat
 cs:Nat
 sh:Int
 ra:Int
 mo:Int
 k:Nat
 ba:Int
 mi:Nat
 st:Int
 bu:Int
 s:Nat
 wi:Int
 ca:Int
 Ab:Option Addr
 bs:List (Nat × Nat)
 cb:Nat
 Ag:Option Addr
 gs:List (Nat × Nat)
 cg:Nat
def Sg.cells (g:Sg):List Value:=[.slice g.As g.ns g.cs,.int .i64 g.sh,.int .i64 g.ra,.int .i64 g.mo,.int .i64 g.k,.int .i64 g.ba,.int .i64 g.mi,.int .i64 g.st,.int .i64 g.bu,.int .i64 g.s,.int .i64 g.wi,.int .i64 g.ca,
 .slice g.Ab g.bs.length g.cb,.slice g.Ag g.gs.length g.cg]
def jobOf (bs:List (Nat × Nat)) (k s t b:Nat):Jb:=⟨t,b,(bs[b]?.getD (0,0)).1,(bs[b]?.getD (0,0)).2,k,s⟩
def actIt (t:Nat) (a:Ac):It:=⟨if a.send then 3 else 4,t,0,a⟩
def rndB (bs:List (Nat × Nat)) (k s t w q b:Nat):List It:=(roundL (jobOf bs k s t b) w (q / (k-1)) (q % (k-1))).map (actIt t)
def rndBs (bs:List (Nat × Nat)) (k s t w q lo n:Nat):List It:=(List.range n).flatMap fun i=>rndB bs k s t w q (lo+i)
def rndsTo (bs:List (Nat × Nat)) (k s t w lo n m:Nat):List It:=(List.range m).flatMap fun q=>rndBs bs k s t w q lo n
def roundsL (bs:List (Nat × Nat)) (k s t w:Nat) (g:Nat × Nat):List It:=rndsTo bs k s t w g.1 (g.2-g.1) (2*(k-1))
def plainIt (kind t:Nat) (n:Nat):It:=⟨kind,t,n,Ac.zero⟩
def fromTo (kind t lo n:Nat):List It:=(List.range n).map fun i=>plainIt kind t (lo+i)
def groupL (bs:List (Nat × Nat)) (k s t w:Nat) (g:Nat × Nat):List It:=fromTo 2 t g.1 (g.2-g.1)++roundsL bs k s t w g++fromTo 5 t g.1 (g.2-g.1)
def itemsL (bs gs:List (Nat × Nat)) (k s mi t w:Nat):List It:=fromTo 1 t 0 mi++gs.flatMap (groupL bs k s t w)++[plainIt 6 t 0]
theorem rndBs_succ (bs:List (Nat × Nat)) (k s t w q lo n:Nat):rndBs bs k s t w q lo (n+1)=rndBs bs k s t w q lo n++rndB bs k s t w q (lo+n):=by simp [rndBs,List.range_succ]
theorem rndsTo_succ (bs:List (Nat × Nat)) (k s t w lo n m:Nat):rndsTo bs k s t w lo n (m+1)=rndsTo bs k s t w lo n m++rndBs bs k s t w m lo n:=by simp [rndsTo,List.range_succ]
theorem fromTo_succ (kind t lo n:Nat):fromTo kind t lo (n+1)=fromTo kind t lo n++[plainIt kind t (lo+n)]:=by simp [fromTo,List.range_succ]
def BsOk (bs:List (Nat × Nat)):Prop:=∀ p∈bs,p.1≤p.2∧p.2≤1000
theorem roundL_len {j:Jb} {u ph r:Nat} (h:j.lo≤j.hi) (hk:1≤j.workers) (hhi:j.hi≤1000):(roundL j u ph r).length≤2000:=by
 have hl1:=segS_lt (w:=u) (ph:=ph) (r:=r) hk
 have hl2:=segR_lt (w:=u) (ph:=ph) (r:=r) hk
 have hsl:(jobSegs j).length=j.workers:=by rw [jobSegs,shift_len,even_len]
 obtain ⟨p,hp⟩:=get_some (jobSegs j) (segS j.workers u ph r) (by omega)
 obtain ⟨q,hq⟩:=get_some (jobSegs j) (segR j.workers u ph r) (by omega)
 have h1:=segs_in h hk _ (List.mem_of_getElem? hp)
 have h2:=segs_in h hk _ (List.mem_of_getElem? hq)
 rw [round_eq hp hq]
 have h3:=addsTo_len j ph r (segChunks j.chunk p) (segChunks j.chunk q) (max (segChunks j.chunk p).length (segChunks j.chunk q).length)
 have h4:=segChunks_len j.chunk p
 have h5:=segChunks_len j.chunk q
 have h6:=pcnt_le (p.2-p.1) j.chunk
 have h7:=pcnt_le (q.2-q.1) j.chunk
 have h8:max (segChunks j.chunk p).length (segChunks j.chunk q).length≤1000:=Nat.max_le.2 ⟨by omega,by omega⟩
 omega
theorem jobOf_at {bs:List (Nat × Nat)} {k s t b x y:Nat} (h:bs[b]?=some (x,y)):jobOf bs k s t b=⟨t,b,x,y,k,s⟩:=by
 unfold jobOf;rw [h];rfl
theorem rndB_len {bs:List (Nat × Nat)} {k s t w q b:Nat} (hb:BsOk bs) (hk:1≤k) (hlt:b<bs.length):(rndB bs k s t w q b).length≤2000:=by
 obtain ⟨p,hp⟩:=get_some bs b hlt
 obtain ⟨x,y⟩:=p
 have:=hb _ (List.mem_of_getElem? hp)
 rw [rndB,List.length_map,jobOf_at hp]
 exact roundL_len this.1 hk this.2
theorem rndBs_len {bs:List (Nat × Nat)} {k s t w q lo:Nat} (hb:BsOk bs) (hk:1≤k):∀ n,lo+n≤bs.length→(rndBs bs k s t w q lo n).length≤2000*n
 | 0,_=>by simp [rndBs]
 | n+1,h=>by
   rw [rndBs_succ,List.length_append]
   have h1:=rndBs_len (s:=s) (t:=t) (w:=w) (q:=q) (lo:=lo) hb hk n (by omega)
   have h2:=rndB_len (s:=s) (t:=t) (w:=w) (q:=q) (b:=lo+n) hb hk (by omega)
   omega
theorem rndsTo_len {bs:List (Nat × Nat)} {k s t w lo n:Nat} (hb:BsOk bs) (hk:1≤k) (h:lo+n≤bs.length):∀ m,(rndsTo bs k s t w lo n m).length≤2000*n*m
 | 0=>by simp [rndsTo]
 | m+1=>by
   rw [rndsTo_succ,List.length_append,Nat.mul_succ]
   have h1:=rndsTo_len (s:=s) (t:=t) (w:=w) hb hk h m
   have h2:=rndBs_len (s:=s) (t:=t) (w:=w) (q:=m) hb hk n h
   omega
def GsOk (n:Nat) (gs:List (Nat × Nat)):Prop:=∀ p∈gs,p.1≤p.2∧p.2≤n
def groupsTo (bs gs:List (Nat × Nat)) (k s t w m:Nat):List It:=(gs.take m).flatMap (groupL bs k s t w)
theorem groupsTo_succ {bs gs:List (Nat × Nat)} {k s t w m:Nat} {g:Nat × Nat} (h:gs[m]?=some g):groupsTo bs gs k s t w (m+1)=groupsTo bs gs k s t w m++groupL bs k s t w g:=by
 unfold groupsTo
 rw [List.take_add_one,h,List.flatMap_append]
 simp
theorem fromTo_len (kind t lo n:Nat):(fromTo kind t lo n).length=n:=by simp [fromTo]
theorem groupL_len {bs:List (Nat × Nat)} {k s t w:Nat} {g:Nat × Nat} (hb:BsOk bs) (hl:bs.length≤60) (hk:1≤k∧k≤8) (h1:g.1≤g.2) (h2:g.2≤bs.length):(groupL bs k s t w g).length≤2000000:=by
 unfold groupL roundsL
 rw [List.length_append,List.length_append,fromTo_len,fromTo_len]
 have h:=rndsTo_len (s:=s) (t:=t) (w:=w) (lo:=g.1) (n:=g.2-g.1) hb hk.1 (by omega) (2*(k-1))
 have h3:2000*(g.2-g.1)*(2*(k-1))≤2000*60*14:=Nat.mul_le_mul (Nat.mul_le_mul_left _ (by omega)) (by omega)
 omega
theorem groupsTo_len {bs gs:List (Nat × Nat)} {k s t w:Nat} (hb:BsOk bs) (hl:bs.length≤60) (hk:1≤k∧k≤8) (hg:GsOk bs.length gs):∀ m,m≤gs.length→(groupsTo bs gs k s t w m).length≤2000000*m
 | 0,_=>by simp [groupsTo]
 | m+1,h=>by
   obtain ⟨g,hgm⟩:=get_some gs m (by omega)
   have:=hg _ (List.mem_of_getElem? hgm)
   rw [groupsTo_succ hgm,List.length_append]
   have h1:=groupsTo_len (s:=s) (t:=t) (w:=w) hb hl hk hg m (by omega)
   have h2:=groupL_len (s:=s) (t:=t) (w:=w) hb hl hk this.1 this.2
   omega
def listO (base:Nat) (its:List It) (A:Option Addr) (c:Nat):Ch:=.own base 146 12 (.slice A its.length c) its.length (icells its)
def listB (bl step:Nat) (its:List It) (A:Option Addr) (c:Nat):Ch:=.obj bl (.cells #[.int .i64 step,.slice A its.length c] 258 (0,0))
theorem ladd_two (w:World) (L B:List Ch) (kind n step bl base:Nat) (x:Ac) (A:Option Addr) (c:Nat) (its:List It) (i o:Nat) (hne:i≠o) (hi:i<L.length) (ho:o<L.length)
  (h:Mem w (two L o i (listO base its A c) (listB bl step its A c)++B)) (hl:its.length≤1000000000) :
  Calls Tryz.prog 141 #[.pointer (some ⟨bl,0,none⟩),.int .i64 kind,.int .i64 n,.agg x.cells.toArray] w fun e w'=>e=.returned (.tuple #[])∧∃ A' c',Mem w' (two L o i (listO base (its++[⟨kind,step,n,x⟩]) A' c') (listB bl step (its++[⟨kind,step,n,x⟩]) A' c')++B):=by
 obtain ⟨a,ha⟩:=get_some L i hi
 obtain ⟨b,hb⟩:=get_some L o ho
 refine (ladd_any w _ h kind n step bl base x A c its i o (at_l (two_i ha hne)) (at_l (two_o hb hne)) hl).mono ?_
 rintro e w' ⟨he,A',c',h'⟩
 refine ⟨he,A',c',?_⟩
 rw [two_two hb ha hne] at h'
 have e1:(its++[(⟨kind,step,n,x⟩:It)]).length=its.length+1:=by simp
 unfold listO listB
 rw [e1]
 exact h'
theorem Mem.action {W:World} {L:List Ch} (h:Mem W L) (ix:Nat) {b off i:Nat} {l:List Ac} {a:Ac} (hx:L[ix]?=some (.rd (some ⟨b,off,none⟩) (acells l))) (hi:l[i]?=some a) :
  W.cell? ⟨b,off+i*9,none⟩=some (.bool a.send)∧W.cell? ⟨b,off+i*9+1,none⟩=some (.bool a.add)∧W.cell? ⟨b,off+i*9+2,none⟩=some (.int .i64 a.step)∧W.cell? ⟨b,off+i*9+3,none⟩=some (.int .i64 a.bucket)∧W.cell? ⟨b,off+i*9+4,none⟩=some (.int .i64 a.phase) ∧
  W.cell? ⟨b,off+i*9+5,none⟩=some (.int .i64 a.round)∧W.cell? ⟨b,off+i*9+6,none⟩=some (.int .i64 a.chunk)∧W.cell? ⟨b,off+i*9+7,none⟩=some (.int .i64 a.lo)∧W.cell? ⟨b,off+i*9+8,none⟩=some (.int .i64 a.hi):=by
 have key:∀ j u,a.cells[j]?=some u→W.cell? ⟨b,off+i*9+j,none⟩=some u:=fun j u hu=>by
  rw [Nat.add_assoc]
  exact h.rdAt ix hx (flat_at Ac.cells 9 (fun _=>rfl) l i a hi j u hu)
 exact ⟨key 0 _ rfl,key 1 _ rfl,key 2 _ rfl,key 3 _ rfl,key 4 _ rfl,key 5 _ rfl,key 6 _ rfl,key 7 _ rfl,key 8 _ rfl⟩
theorem Mem.rdA {W:World} {L:List Ch} (h:Mem W L) (i:Nat) {A:Option Addr} {vs:List Value} (hi:L[i]?=some (.rd A vs)) (h0:0<vs.length):∃ b off,A=some ⟨b,off,none⟩:=by
 obtain ⟨b,off,e,_⟩:=h.rd i hi h0
 exact ⟨b,off,e⟩
set_option maxRecDepth 100000 in
theorem rounds_any (w:World) (L:List Ch) (g:Sg) (u step bl base glo ghi:Nat) (A:Option Addr) (c:Nat) (its:List It) (il io ib:Nat) (hne:il≠io) (hi:il<L.length) (ho:io<L.length)
  (h:Mem w (two L io il (listO base its A c) (listB bl step its A c))) (hb:L[ib]?=some (.rd g.Ab (rcells g.bs))) (h1:ib≠il) (h2:ib≠io)
  (hk:1≤g.k∧g.k≤1000) (hu:u<g.k) (hs:1≤g.s∧g.s≤1048576) (hB:BsOk g.bs) (hg1:glo≤ghi) (hg2:ghi≤g.bs.length) (hbl:g.bs.length≤1000) (hcb:g.bs.length≤g.cb) (hl:its.length+2000*(ghi-glo)*(2*(g.k-1))≤1000000000) :
  Calls Tryz.prog 142 #[.agg g.cells.toArray,.pointer (some ⟨bl,0,none⟩),.int .i64 u,.agg #[.int .i64 glo,.int .i64 ghi]] w fun e w'=>e=.returned (.tuple #[])∧∃ A' c',Mem w' (two L io il (listO base (its++roundsL g.bs g.k g.s step u (glo,ghi)) A' c') (listB bl step (its++roundsL g.bs g.k g.s step u (glo,ghi)) A' c')):=by
 obtain ⟨As,ns,cs,sh,ra,mo,k,ba,mi,st,bu,s,wi,ca,Ab,bs,cb,Ag,gs,cg⟩:=g
 dsimp only [Sg.cells,roundsL] at *
 obtain ⟨d,hd⟩:∃ d,d=k-1:=⟨_,rfl⟩
 rw [← hd] at hl ⊢
 obtain ⟨m,hm⟩:∃ m,m=2*d:=⟨_,rfl⟩
 rw [← hm] at hl ⊢
 obtain ⟨n,hn⟩:∃ n,n=ghi-glo:=⟨_,rfl⟩
 rw [← hn] at hl ⊢
 have e0:(k:Int)-1=(d:Int):=by omega
 have e1:(2:Int)*(d:Int)=(m:Int):=by omega
 have hm2:m≤2000:=by omega
 have hd2:d≤1000:=by omega
 have HMD:=K1 (And.intro hm (And.intro hd hn))
 have HRL:=K1 (fun q=>rndsTo_len (s:=s) (t:=step) (w:=u) (lo:=glo) (n:=n) hB hk.1 (by omega) q)
 have HRB:=K1 (fun q b (hb:glo+b≤bs.length)=>rndBs_len (s:=s) (t:=step) (w:=u) (q:=q) (lo:=glo) hB hk.1 b hb)
 have HBS:=K1 hB
 have hmm:=(h.alloc (.cells (Sg.cells ⟨As,ns,cs,sh,ra,mo,k,ba,mi,st,bu,s,wi,ca,Ab,bs,cb,Ag,gs,cg⟩).toArray 210)).alloc (.cells #[.int .i64 glo,.int .i64 ghi] 47)
 simp only [World.size_alloc,Sg.cells] at hmm
 have HM0:=K1 hmm.asc
 have HIX:=K1 (And.intro hne (And.intro hi (And.intro ho (And.intro h1 (And.intro h2 hb)))))
 have HL:=K1 hl
 clear hmm hm hd hn h hB hne hi ho h1 h2 hb hl
 go_enter Tryz.func142,Tryz.ntmps142
 go_wp2_with fail
 generalize w.heap.size=B0 at *
 go_loopw [19] (fun i wr=>∃ (q:Nat) (A:Option Addr) (c:Nat),q≤m∧i=.int .i64 q∧Hid (Mem wr (two L io il (listO base (its++rndsTo bs k s step u glo n q) A c) (listB bl step (its++rndsTo bs k s step u glo n q) A c) ++
   [.obj B0 (.cells #[.slice As ns cs,.int .i64 sh,.int .i64 ra,.int .i64 mo,.int .i64 k,.int .i64 ba,.int .i64 mi,.int .i64 st,.int .i64 bu,.int .i64 s,.int .i64 wi,.int .i64 ca,.slice Ab bs.length cb,.slice Ag gs.length cg] 210 (0,0)),.obj (B0+1) (.cells #[.int .i64 glo,.int .i64 ghi] 47 (0,0))]))) (fun i _=>m-(intOf i).toNat)
 case atStart=>exact ⟨0,A,c,Nat.zero_le _,rfl,K1 (by rw [show its++rndsTo bs k s step u glo n 0=its by simp [rndsTo]];exact HM0.out)⟩
 case round =>
  clear HM0
  obtain ⟨q,A,c,hq,rfl,HM⟩:=hrel
  by_cases hlt:q<m
  · have c1:=HM.out.cells (L.length+1) (two_at 1 rfl)
    go_wp2_with fail
    clear c1
    generalize hI1:its++rndsTo bs k s step u glo n q=its1 at *
    have HI1:=K1 hI1
    clear hI1
    go_loopw [9] (fun i wr=>∃ (b:Nat) (A:Option Addr) (c:Nat),b≤n∧i=.int .i64 (glo+b:Nat)∧Hid (Mem wr (two L io il (listO base (its1++rndBs bs k s step u q glo b) A c) (listB bl step (its1++rndBs bs k s step u q glo b) A c) ++
      [.obj B0 (.cells #[.slice As ns cs,.int .i64 sh,.int .i64 ra,.int .i64 mo,.int .i64 k,.int .i64 ba,.int .i64 mi,.int .i64 st,.int .i64 bu,.int .i64 s,.int .i64 wi,.int .i64 ca,.slice Ab bs.length cb,.slice Ag gs.length cg] 210 (0,0)),.obj (B0+1) (.cells #[.int .i64 glo,.int .i64 ghi] 47 (0,0))]))) (fun i _=>ghi-(intOf i).toNat)
    case atStart=>exact ⟨0,A,c,Nat.zero_le _,rfl,K1 (by rw [show its1++rndBs bs k s step u q glo 0=its1 by simp [rndBs]];exact HM.out)⟩
    case round =>
     clear HM
     obtain ⟨b,A,c,hb,rfl,HM⟩:=hrel
     have c1:=HM.out.cells (L.length+1) (two_at 1 rfl)
     obtain ⟨j,hj⟩:∃ j,j=glo+b:=⟨_,rfl⟩
     rw [← hj]
     by_cases hltb:j<ghi
     · obtain ⟨p,hp⟩:=get_some bs j (by omega)
       obtain ⟨x,y⟩:=p
       have hxy:=HBS.out _ (List.mem_of_getElem? hp)
       dsimp only at hxy
       have HXY:=K1 (And.intro hp hxy)
       have HJ:=K1 hj
       have hjl:j<bs.length:=by omega
       clear hj hp hxy
       obtain ⟨bb,ob,rfl,_⟩:=HM.out.ranges ib (at_l (two_ne HIX.out.2.2.2.2.2 (Ne.symm HIX.out.2.2.2.2.1) (Ne.symm HIX.out.2.2.2.1))) (by omega)
       go_wp2_with fail
       refine wp_region_spine 17 1 (fun W'=>W'.cell? ⟨bl,0,none⟩=some (.int .i64 step)∧(∀ i,W'.cell? ⟨B0,i,none⟩=([.slice As ns cs,.int .i64 sh,.int .i64 ra,.int .i64 mo,.int .i64 k,.int .i64 ba,.int .i64 mi,.int .i64 st,.int .i64 bu,.int .i64 s,.int .i64 wi,.int .i64 ca,.slice (some ⟨bb,ob,none⟩) bs.length cb,.slice Ag gs.length cg]:List Value)[i]?)∧W'.cell? ⟨bb,ob+j*2,none⟩=some (.int .i64 x)∧W'.cell? ⟨bb,ob+j*2+1,none⟩=some (.int .i64 y))
        (by kernel_rfl) (by kernel_rfl) (by kernel_rfl) (by intro d v c a w h;cases d <;> exact h)
        ⟨HM.out.drew.cell il 0 (at_l (two_i (get_some L il HIX.out.2.1).choose_spec HIX.out.1)) rfl,HM.out.drew.cells (L.length+0) (two_at 0 rfl),HM.out.drew.range2 ib (at_l (two_ne HIX.out.2.2.2.2.2 (Ne.symm HIX.out.2.2.2.2.1) (Ne.symm HIX.out.2.2.2.1))) HXY.out.1⟩ ?_
       apply Exists.intro
       apply And.intro
       · intro W' hS
         obtain ⟨s1,s2,s3,s4⟩:=hS
         simp only [List.take_succ_cons,List.take_zero]
         repeat still_step
         exact wpStill_nil rfl
       simp only [List.drop_succ_cons,List.drop_zero,List.take_succ_cons,List.take_zero]
       refine Spine.step ?_
       go_wp2_with fail
       have HMa:=K1 (HM.out.drew.alloc (.cells #[.int .i64 0,.int .i64 0,.int .i64 0,.int .i64 0,.int .i64 0,.int .i64 0] 277))
       refine Behind.go ⟨HMa.out.cell il 0 (at_l (at_l (two_i (get_some L il HIX.out.2.1).choose_spec HIX.out.1))) rfl,HMa.out.cells (L.length+0) (at_l (two_at 0 rfl)),HMa.out.range2 ib (at_l (at_l (two_ne HIX.out.2.2.2.2.2 (Ne.symm HIX.out.2.2.2.2.1) (Ne.symm HIX.out.2.2.2.1)))) HXY.out.1⟩ (Spine.nil_ ?_)
       clear HMa
       go_wp2_with fail
       refine name_wp fun W2 hW=>?_
       have HM2:=K1 (HM.out.allocd hW.out).asc
       clear hW HM
       generalize wr.heap.size=gj at *
       obtain ⟨ph,hph⟩:∃ ph,ph=q / d:=⟨_,rfl⟩
       obtain ⟨rr,hrr⟩:∃ rr,rr=q % d:=⟨_,rfl⟩
       have e2:(q:Int).tdiv (d:Int)=(ph:Int):=by rw [hph];exact (Int.ofNat_tdiv _ _).symm
       have e3:(q:Int).tmod (d:Int)=(rr:Int):=by rw [hrr];exact (Int.ofNat_tmod _ _).symm
       have hd1:1≤d:=by have:=HMD.out.1;omega
       have hph1:ph≤1:=by
        have h1:q<2*d:=by have:=HMD.out.1;omega
        rw [hph]
        have:=(Nat.div_lt_iff_lt_mul hd1).2 h1
        omega
       have hrr1:rr+1<k:=by have:=Nat.mod_lt q hd1;have:=HMD.out.2.1;omega
       have HPR:=K1 (And.intro hph hrr)
       clear hph hrr
       have w1:IntKind.i64.wrap (d:Int)=(d:Int):=IntWalk.i64_in _ (by omega)
       have w2:IntKind.i64.wrap (ph:Int)=(ph:Int):=IntWalk.i64_in _ (by omega)
       have w3:IntKind.i64.wrap (rr:Int)=(rr:Int):=IntWalk.i64_in _ (by omega)
       have hd0:¬ d=0:=by omega
       have CR:=K1 (fun W=>round_any ⟨step,j,x,y,k,s⟩ u ph rr W hk hu hrr1 hph1 HXY.out.2.1 (Nat.le_trans HXY.out.2.2 (by decide)) hs)
       dsimp only [Jb.cells] at CR
       replace HM2:=K1 HM2.out.drew
       refine wp_region_reads [0,1,2,3,4,5,6,7,8,9,10,11,12,13,16] [14,15] (fun w'=>(∀ i,w'.cell? ⟨gj,i,none⟩=([.int .i64 step,.int .i64 j,.int .i64 x,.int .i64 y,.int .i64 k,.int .i64 s]:List Value)[i]?)∧(∀ i,w'.cell? ⟨B0,i,none⟩=([.slice As ns cs,.int .i64 sh,.int .i64 ra,.int .i64 mo,.int .i64 k,.int .i64 ba,.int .i64 mi,.int .i64 st,.int .i64 bu,.int .i64 s,.int .i64 wi,.int .i64 ca,.slice (some ⟨bb,ob,none⟩) bs.length cb,.slice Ag gs.length cg]:List Value)[i]?))
        (by kernel_rfl) (by kernel_rfl) (by kernel_rfl) (by kernel_rfl) (by intro d v c a w h;cases d <;> exact h)
        ⟨HM2.out.cells (L.length+2) (two_at 2 rfl),HM2.out.cells (L.length+0) (two_at 0 rfl)⟩ ?_
       simp only [pickO,p1,p2,p3,p4]
       apply Exists.intro
       apply And.intro
       · intro W' hS
         obtain ⟨s1,s2⟩:=hS
         repeat still_step
         exact wpStill_nil rfl
       refine Spine.step ?_
       go_wp2_with fail
       (with_reducible refine (CR.out _).mono ?_)
       rintro e w4 ⟨v,rfl,hv,hb⟩
       obtain ⟨A4,cap4,rfl,hcap,hmm⟩:=HM2.out.call_rd hb hv
       replace HM2:=K1 hmm.asc
       clear hb hv hmm CR
       go_wp2_with fail
       refine Behind.go ⟨HM2.out.cells (L.length+2) (two_at 2 rfl),HM2.out.cells (L.length+0) (two_at 0 rfl)⟩ (Spine.step ?_)
       go_wp2_with fail
       refine Behind.go ⟨HM2.out.cells (L.length+2) (two_at 2 rfl),HM2.out.cells (L.length+0) (two_at 0 rfl)⟩ (Spine.nil_ ?_)
       have HRND:Hid (rndBs bs k s step u q glo (b+1)=rndBs bs k s step u q glo b++(roundL ⟨step,j,x,y,k,s⟩ u ph rr).map (actIt step)):=K1 (by
        rw [rndBs_succ,rndB,← HJ.out,jobOf_at HXY.out.1,← HMD.out.2.1,← HPR.out.1,← HPR.out.2])
       have HAL:=K1 (show (roundL ⟨step,j,x,y,k,s⟩ u ph rr).length≤2000 from roundL_len HXY.out.2.1 hk.1 HXY.out.2.2)
       generalize roundL ⟨step,j,x,y,k,s⟩ u ph rr=acs at *
       have HIL:Hid ((its1++rndBs bs k s step u q glo b).length+2000≤1000000000):=K1 (by
        have h1:=HRL.out q
        have h2:=HRB.out q b (by have:=HJ.out;omega)
        have h3:2000*n*(q+1)≤2000*n*m:=Nat.mul_le_mul_left _ (by omega)
        rw [Nat.mul_succ] at h3
        have h4:=HL.out
        have h5:=HJ.out
        have h6:=HMD.out.2.2
        rw [List.length_append,← HI1.out,List.length_append]
        omega)
       generalize hI2:its1++rndBs bs k s step u q glo b=its2 at *
       have HI2:=K1 hI2
       clear hI2 w1 w2 w3 e2 e3
       go_wp2_with fail
       go_loopw [63] (fun i wr=>∃ (e:Nat) (A:Option Addr) (c:Nat),e≤acs.length∧i=.int .i64 e∧Hid (Mem wr (two L io il (listO base (its2++(acs.take e).map (actIt step)) A c) (listB bl step (its2++(acs.take e).map (actIt step)) A c) ++
         [.obj B0 (.cells #[.slice As ns cs,.int .i64 sh,.int .i64 ra,.int .i64 mo,.int .i64 k,.int .i64 ba,.int .i64 mi,.int .i64 st,.int .i64 bu,.int .i64 s,.int .i64 wi,.int .i64 ca,.slice (some ⟨bb,ob,none⟩) bs.length cb,.slice Ag gs.length cg] 210 (0,0)),.obj (B0+1) (.cells #[.int .i64 glo,.int .i64 ghi] 47 (0,0)),.obj gj (.cells #[.int .i64 step,.int .i64 j,.int .i64 x,.int .i64 y,.int .i64 k,.int .i64 s] 277 (0,0)),.rd A4 (acells acs)]))) (fun i _=>acs.length-(intOf i).toNat)
       case atStart=>exact ⟨0,A,c,Nat.zero_le _,rfl,K1 (by rw [List.take_zero,List.map_nil,List.append_nil];exact HM2.out)⟩
       case round =>
        clear HM2
        obtain ⟨e,A,c,he,rfl,HM⟩:=hrel
        have hal:=HAL.out
        by_cases hlte:e<acs.length
        · obtain ⟨a,ha⟩:=get_some acs e hlte
          obtain ⟨b4,o4,rfl⟩:=HM.out.rdA (L.length+3) (two_at 3 rfl) (by rw [acells_len];omega)
          have HTK:Hid (its2++(acs.take (e+1)).map (actIt step)=(its2++(acs.take e).map (actIt step))++[actIt step a]):=K1 (by
           rw [List.take_add_one,ha,List.map_append,List.append_assoc];rfl)
          have HIE:Hid ((its2++(acs.take e).map (actIt step)).length≤1000000000):=K1 (by
           have:=HIL.out
           have:=HAL.out
           rw [List.length_append,List.length_map,List.length_take]
           omega)
          have hact:=HM.out.action (L.length+3) (two_at 3 rfl) ha
          clear ha
          obtain ⟨sd,ad,st',bk,ph',rd',ck,lo',hi'⟩:=a
          dsimp only at hact
          obtain ⟨q0,q1,q2,q3,q4,q5,q6,q7,q8⟩:=hact
          cases sd
          all_goals
           go_wp2_with fail
           refine name_calls fun W3 hW=>?_
           have HM3:=K1 (HM.out.alloc_ hW.out).asc
           clear hW q0 q1 q2 q3 q4 q5 q6 q7 q8
           refine (ladd_two W3 L _ _ 0 step bl base ⟨_,ad,st',bk,ph',rd',ck,lo',hi'⟩ A c _ il io HIX.out.1 HIX.out.2.1 HIX.out.2.2.1 HM3.out HIE.out).mono ?_
           rintro e' w5 ⟨rfl,A5,c5,hm5⟩
           have HM5:=K1 (hm5.left2 (B:=[_,_,_,_]) (C:=[_]))
           clear hm5 HM3 HM
           go_wp2_with fail
           go_roundw
           case rel =>
            refine ⟨e+1,A5,c5,by omega,by go_num,?_⟩
            rw [HTK.out]
            exact HM5
           case measure=>simp [intOf];omega
        · have hel:e=acs.length:=by omega
          subst hel
          have HF:=K1 (show Mem wr (two L io il (listO base (its1++rndBs bs k s step u q glo (b+1)) A c) (listB bl step (its1++rndBs bs k s step u q glo (b+1)) A c)++[_,_]) by
           have:=HM.out
           rw [List.take_length,← HI2.out,List.append_assoc,← HRND.out] at this
           exact this.left2 (B:=[_,_]) (C:=[_,_]))
          clear HM
          go_wp2_with fail
          go_roundw
          case rel=>exact ⟨b+1,A,c,by have:=HJ.out;have:=HMD.out.2.2;omega,congrArg (Value.int .i64) (by have:=HJ.out;omega),HF⟩
          case measure=>simp [intOf];omega
     · have hbn:b=n:=by have:=HMD.out.2.2;omega
       subst hbn
       have HF:=K1 (show Mem wr (two L io il (listO base (its++rndsTo bs k s step u glo b (q+1)) A c) (listB bl step (its++rndsTo bs k s step u glo b (q+1)) A c)++[_,_]) by
        have:=HM.out
        rw [← HI1.out,List.append_assoc,← rndsTo_succ] at this
        exact this)
       clear HM hj
       go_wp2_with fail
       go_roundw
       case rel=>exact ⟨q+1,A,c,by omega,by go_num,HF⟩
       case measure=>simp [intOf];omega
  · have hqm:q=m:=by omega
    subst hqm
    have HF:=K1 HM.out.left
    clear HM
    go_wp2_with fail
    go_end0
    exact ⟨rfl,A,c,HF.out⟩
def revTo (l:List (Nat × Nat)):Nat→List (Nat × Nat)
 | 0=>l
 | k+1=>((revTo l k).set k ((revTo l k)[l.length-1-k]?.getD (0,0))).set (l.length-1-k) ((revTo l k)[k]?.getD (0,0))
theorem revTo_len (l:List (Nat × Nat)):∀ k,(revTo l k).length=l.length
 | 0=>rfl
 | k+1=>by simp [revTo,revTo_len l k]
theorem revTo_at (l:List (Nat × Nat)):∀ k,2*k≤l.length→∀ t,t<l.length→(revTo l k)[t]?=if t<k∨l.length-k≤t then l[l.length-1-t]? else l[t]?
 | 0,_,t,ht=>by rw [if_neg (by omega)];rfl
 | k+1,hk,t,ht=>by
   have ih:=revTo_at l k (by omega)
   have hl:=revTo_len l k
   simp only [revTo]
   by_cases h1:t=l.length-1-k
   · subst h1
     rw [List.getElem?_set_self (by rw [List.length_set,hl];omega),if_pos (by omega),ih k (by omega),if_neg (by omega),show l.length-1-(l.length-1-k)=k by omega]
     obtain ⟨p,hp⟩:=get_some l k (by omega)
     rw [hp];rfl
   · rw [List.getElem?_set_ne (by omega)]
     by_cases h2:t=k
     · subst h2
       rw [List.getElem?_set_self (by rw [hl];omega),if_pos (by omega),ih _ (by omega),if_neg (by omega)]
       obtain ⟨p,hp⟩:=get_some l (l.length-1-t) (by omega)
       rw [hp];rfl
     · rw [List.getElem?_set_ne (by omega),ih t ht]
       by_cases h3:t<k∨l.length-k≤t
       · rw [if_pos h3,if_pos (by omega)]
       · rw [if_neg h3,if_neg (by omega)]
theorem revTo_end (l:List (Nat × Nat)):revTo l (l.length / 2)=l.reverse:=by
 apply List.ext_getElem?
 intro t
 by_cases ht:t<l.length
 · rw [revTo_at l _ (by omega) t ht,List.getElem?_reverse ht]
   by_cases h:t<l.length / 2∨l.length-l.length / 2≤t
   · rw [if_pos h]
   · rw [if_neg h,show l.length-1-t=t by omega]
 · rw [List.getElem?_eq_none (by rw [revTo_len];omega),List.getElem?_eq_none (by rw [List.length_reverse];omega)]
theorem rcells_set:∀ (l:List (Nat × Nat)) (i x y:Nat),i<l.length→rcells (l.set i (x,y))=((rcells l).set (i*2) (.int .i64 x)).set (i*2+1) (.int .i64 y)
 | [],i,_,_,h=>by simp at h
 | p::r,0,x,y,_=>by simp [rcells]
 | p::r,i+1,x,y,h=>by
   have ih:=rcells_set r i x y (by simpa using h)
   have e:∀ (q:Nat × Nat) (s:List (Nat × Nat)),rcells (q::s)=.int .i64 q.1::.int .i64 q.2::rcells s:=fun q s=>by simp [rcells]
   rw [List.set_cons_succ,e,e,ih,show (i+1)*2=i*2+1+1 by omega]
   rfl
def ownR (base:Nat) (l:List (Nat × Nat)) (A:Option Addr) (c:Nat):Ch:=.own base 47 2 (.slice A l.length c) l.length (rcells l)
theorem Mem.ownA {W:World} {L:List Ch} (h:Mem W L) (i:Nat) {base e size n c:Nat} {A:Option Addr} {xs:List Value} (hi:L[i]?=some (.own base e size (.slice A n c) n xs)) (h0:0<n):∃ g,A=some ⟨g,0,none⟩:=by
 rcases (h.own i hi).2 with ⟨_,h1⟩ | ⟨g,cap,cur,hv,_⟩
 · omega
 · injection hv with h1;exact ⟨g,h1⟩
theorem Mem.ownR2 {W:World} {L:List Ch} (h:Mem W L) (ix:Nat) {base g c i x y:Nat} {l:List (Nat × Nat)} (hx:L[ix]?=some (ownR base l (some ⟨g,0,none⟩) c)) (hi:l[i]?=some (x,y)) :
  W.cell? ⟨g,i*2,none⟩=some (.int .i64 x)∧W.cell? ⟨g,i*2+1,none⟩=some (.int .i64 y):=by
 have ho:=h.own ix hx
 have hlt:=(List.getElem?_eq_some_iff.1 hi).1
 exact ⟨(ho.cellAt _ (by omega)).trans (rcells_at l i _ hi).1,(ho.cellAt _ (by omega)).trans (rcells_at l i _ hi).2⟩
theorem Mem.ownF {W:World} {L:List Ch} (h:Mem W L) (ix:Nat) {base e size n c g:Nat} {xs:List Value} (hx:L[ix]?=some (.own base e size (.slice (some ⟨g,0,none⟩) n c) n xs)) (j:Nat):W.frozen? ⟨g,j,none⟩=false:=(h.own ix hx).frozenAt j
set_option maxRecDepth 100000 in
theorem reverse_any (w:World) (L:List Ch) (h:Mem w L) (l:List (Nat × Nat)) (A:Option Addr) (c base i:Nat) (hi:L[i]?=some (ownR base l A c)) (hl:l.length≤1000000) :
  Calls Tryz.prog 40 #[.slice A l.length c] w fun e w'=>e=.returned (.tuple #[])∧Mem w' (L.set i (ownR base l.reverse A c)):=by
 have H0:=K1 h
 have HI:=K1 hi
 obtain ⟨n,hn⟩:∃ n,n=l.length:=⟨_,rfl⟩
 rw [← hn] at hl ⊢
 have HN:=K1 hn
 clear h hi hn
 go_enter Tryz.func40,Tryz.ntmps40
 go_wp2_with fail
 go_loopw [2,3] (fun i2 i3 wr=>∃ k:Nat,2*k≤n∧i2=.int .i64 k∧i3=.int .i64 ((n:Int)-1-k)∧Hid (Mem wr (L.set i (ownR base (revTo l k) A c)))) (fun i2 _ _=>n-(intOf i2).toNat)
 case atStart=>exact ⟨0,by omega,rfl,by go_num,K1 (by rw [show revTo l 0=l from rfl,set_same HI.out];exact H0.out)⟩
 case round =>
  clear H0
  obtain ⟨k,hk,rfl,rfl,HM⟩:=hrel
  by_cases hlt:(k:Int)<(n:Int)-1-k
  · obtain ⟨m,hm⟩:∃ m:Nat,m=n-1-k:=⟨_,rfl⟩
    have hmi:(n:Int)-1-k=(m:Int):=by omega
    rw [hmi] at hlt ⊢
    have hml:m<n:=by omega
    have hlen:(revTo l k).length=n:=by rw [revTo_len,HN.out]
    obtain ⟨p,hp⟩:=get_some (revTo l k) k (by omega)
    obtain ⟨q,hq⟩:=get_some (revTo l k) m (by omega)
    obtain ⟨px,py⟩:=p
    obtain ⟨qx,qy⟩:=q
    have hat:=at_set (d:=ownR base (revTo l k) A c) HI.out
    obtain ⟨g,rfl⟩:=HM.out.ownA i hat (by omega)
    have HNEXT:Hid (revTo l (k+1)=((revTo l k).set k (qx,qy)).set m (px,py)):=K1 (by simp only [revTo];rw [← HN.out,← hm,hq,hp];rfl)
    have HPQ:=K1 (And.intro hp (And.intro hq hlen))
    have HM2:=K1 (And.intro hm hmi)
    have HAT:=K1 hat
    clear hm hmi hp hq hat hlen
    go_wp2_with fail
    obtain ⟨k1,k2⟩:=HM.out.ownR2 i HAT.out HPQ.out.1
    obtain ⟨k3,k4⟩:=HM.out.ownR2 i HAT.out HPQ.out.2.1
    have kf:=HM.out.ownF i HAT.out
    have hne1:¬ k=m:=by omega
    go_region
    have HF:=K1 (show Mem ((((wr.setCell ⟨g,k*2,none⟩ (.int .i64 qx)).setCell ⟨g,k*2+1,none⟩ (.int .i64 qy)).setCell ⟨g,m*2,none⟩ (.int .i64 px)).setCell ⟨g,m*2+1,none⟩ (.int .i64 py)).drew (L.set i (ownR base (revTo l (k+1)) (some ⟨g,0,none⟩) c)) by
     have e1:=HNEXT.out
     have h1:=((((HM.out.setOwn (j:=k*2) HAT.out (.int .i64 qx)).setOwn (j:=k*2+1) (at_set HAT.out) (.int .i64 qy)).setOwn (j:=m*2) (at_set (at_set HAT.out)) (.int .i64 px)).setOwn (j:=m*2+1) (at_set (at_set (at_set HAT.out))) (.int .i64 py)).drew
     rw [← rcells_set _ _ _ _ (by rw [HPQ.out.2.2];omega),← rcells_set _ _ _ _ (by rw [List.length_set,HPQ.out.2.2];omega),← e1] at h1
     simp only [List.set_set] at h1
     unfold ownR
     rw [show (revTo l (k+1)).length=(revTo l k).length by rw [revTo_len,revTo_len]]
     exact h1)
    obtain ⟨W2,hW2⟩:∃ W2,W2=((((wr.setCell ⟨g,k*2,none⟩ (.int .i64 qx)).setCell ⟨g,k*2+1,none⟩ (.int .i64 qy)).setCell ⟨g,m*2,none⟩ (.int .i64 px)).setCell ⟨g,m*2+1,none⟩ (.int .i64 py)).drew:=⟨_,rfl⟩
    rw [← hW2] at HF ⊢
    clear hW2 k1 k2 k3 k4 kf HM
    go_wp2_with fail
    go_roundw
    case rel=>exact ⟨k+1,by have:=HM2.out.1;omega,by go_num,congrArg (Value.int .i64) (by have:=HM2.out.2;omega),HF⟩
    case measure=>simp [intOf];omega
  · have hke:k=n / 2:=by omega
    have HF:=K1 HM.out
    clear HM
    go_wp2_with fail
    go_end0
    refine ⟨rfl,?_⟩
    have h1:=HF.out
    rw [hke,HN.out,revTo_end] at h1
    exact h1
end Go.Proofs.YtdpojpcoghcieaaGreat
