/- A part of the proof of TopTags: Finish, Small, SmallRun, Works. Conditions: none. -/
import Derived.ScopeJumps
import Derived.Test.YtdpojpcoghcieaaGreatSxBM
import Derived.Test.YtdpojpcoghcieaaGreatSxBL
set_option maxHeartbeats 8000000
set_option linter.all false
namespace Go.Proofs.YtdpojpcoghcieaaGreat
open Lib renaming hid → K1
open Go.RowKit
set_option maxRecDepth 100000
open Value renaming int → U
open IntKind renaming i64 → O
open And renaming intro → Ajb
open List renaming getElem?_map → Ajc, map_map → Aje, mem_cons → Ajf, not_mem_nil → Ajg, map_set → Ajh, range → Aji, mem_of_getElem? → Ajk, length_map → Ajl
open Nat renaming le_refl → Ajd
open IntWalk renaming i64_in → Ajj
section
def FinR (r:Rn) (x:Wv) (most n:Nat) (x':Wv):Prop:=n<=most/\x'.Ok r/\x'.g=x.g/\∃ c,RunR r x (turns r.c.k n) c x'
theorem FinR.next {r:Rn} {x x' y:Wv} {most n:Nat} {b:Bool} (h:FinR r x most n x') (hn:n<most) (hy:y.Ok r) (hg:y.g=x'.g) (hp:Cj r x' ((n % r.c.k:Nat):Int) b y):FinR r x most (n+1) y:=by
 obtain ⟨h1,h2,h3,c,h4⟩:=h;refine ⟨hn,hy,hg.trans h3,c+b.toNat,?_⟩
 have e:turns r.c.k (n+1)=turns r.c.k n++[((n % r.c.k:Nat):Int)]:=by
  unfold turns;rw [List.range_succ,List.map_append];rfl
 rw [e];exact RunR.snoc hp _ h4
theorem Uo {P:Program} {a:Act} {w:World} {Q:Exit->Act->World->Prop} {rest:Code} (l:Nat) (J:Act->World->Prop) (μ:Act->World->Nat) (h0:J a w)
  (pass:∀ a w,J a w->rest.wp P (Exit.jump l (fun a' w'=>J a' w'/\μ a' w'<μ a w) Q) a w):(Code.scope ((Code.label l).seq rest)).wp P Q a w:=by
 refine wp_scope_jumps l J μ (rest:=Code.skip.seq rest) (by simp [findLabel]) ?_ fun a w h=>wp_seq (wp_skip (pass a w h));refine wp_seq (wp_label ?_);refine Code.wp_mono ?_ (pass a w h0);rintro e a' w' h
 cases e with
 | goto l'=>exact ⟨h.1,h.2.1⟩
 | _=>exact h
def FinJ (r:Rn) (x:Wv) (R:List Ch) (most:Nat) (a':Act) (w':World):Prop:=∃ (n:Nat) (y:Wv) (u2 u3 u5 u6 u7 u8 u9 u10 u11 u12 u13 u14 u15 u16 u17 u18 u19 u20 u21 u22 u23 u24 u25 u26:Value),a'={ tmps:=#[.pointer (some ⟨x.g,0,none⟩),U O most,u2,u3,U O n,u5,u6,u7,u8,u9,u10,u11,u12,u13,u14,u15,u16,u17,u18,u19,u20,u21,u22,u23,u24,u25,u26],defers:=[] }/\FinR r x most n y/\Mem w' (y.ps++R)
theorem Up (w:World) (x:Wv) (r:Rn) (R:List Ch) (h:Mem w (x.ps++R)) (ho:x.Ok r) (most:Nat) (hb:x.count+most<=1000000) :
  Calls Tryz.prog 11 #[.pointer (some ⟨x.g,0,none⟩),U O most] w fun e w'=>∃ (n:Nat) (b:Bool) (x':Wv),e=.returned (.tuple #[U O n,.bool b])/\FinR r x most n x'/\(b=true↔∀ m∈x'.ms,r.c.st<=m.t)/\(b=true\/n=most)/\Mem w' (x'.ps++R):=by
 have hk:=ho.c.k;have HM:=K1 h;have HF0:=K1 (show FinR r x most 0 x from ⟨Nat.zero_le _,ho,rfl,0,⟨rfl,rfl⟩⟩);have CP:=K1 (fun W (y:Wv) hM hy hc z=>MX W y r R hM hy hc z);have CD:=K1 (fun W (y:Wv) hM hy=>MY W y r R hM hy)
 have HC:=K1 (show ∀ (n:Nat) (y:Wv),FinR r x most n y->y.count<=1000000 from fun n y hf=>by
  obtain ⟨h1,_,_,c,h4⟩:=hf;have:=RunR.count _ h4;have h5:(turns r.c.k n).length=n:=by simp [turns]
  omega)
 have HCL:=K1 (show ∀ y:Wv,y.Ok r->∀ W,Mem W (y.ps++R)->W.cell? ⟨y.g,0,none⟩=some (.slice y.Aw r.c.k y.cw) from fun y hy W hM=>by rw [<- hy.lm];exact Af (hM.obj 0 rfl) 0);clear h ho;go_enter Tryz.func11,Tryz.ntmps11;go_wp2_with fail;refine Uo 0 (fun a' w'=>FinJ r x R most a' w') (fun a' _=>most-(intOf (a'.tmps.getD 4 undef)).toNat) ?_ ?_
 . exact ⟨0,x,_,_,_,_,_,_,_,_,_,_,_,_,_,_,_,_,_,_,_,_,_,_,_,_,rfl,HF0.out,HM.out⟩
 . clear HM HF0;rintro a' w' ⟨n,y,u2,u3,u5,u6,u7,u8,u9,u10,u11,u12,u13,u14,u15,u16,u17,u18,u19,u20,u21,u22,u23,u24,u25,u26,rfl,hf,hm⟩;have HF:=K1 hf;have HM:=K1 hm;have hyg:=hf.2.2.1;have hyo:=hf.2.1;have hnm:=hf.1;have CDk:=K1 (CD.out w' y hm hyo);rw [hyg] at CDk;clear hf hm;dsimp only;go_wp2_with fail;refine CDk.out.mono ?_;rintro e w1 ⟨b,rfl,hbd,hb1⟩;replace HM:=K1 (HM.out.below hb1);have HBD:=K1 hbd;have CD2:=K1 (CD.out w1 y HM.out hyo);rw [hyg] at CD2;clear hb1 hbd CDk
   cases b
   . by_cases hlt:n<most
     . have cc:=HCL.out y hyo w1 HM.out;rw [hyg] at cc
       obtain ⟨q,hq⟩:∃ q,q=n % r.c.k:=⟨_,rfl⟩
       have e3:(n:Int).tmod (r.c.k:Int)=(q:Int):=by rw [hq];exact (Int.ofNat_tmod _ _).symm
       have w3:IntKind.i64.wrap (q:Int)=(q:Int):=Ajj _ (by have:=Nat.mod_le n r.c.k;omega);have hz:¬ r.c.k=0:=by omega
       have hzi:((r.c.k:Int) == 0)=false:=beq_eq_false_iff_ne.2 (by omega);have CPk:=K1 (CP.out w1 y HM.out hyo (HC.out n y HF.out) (q:Int));rw [hyg] at CPk
       obtain ⟨n1,hn1⟩:∃ n1,n1=n+1:=⟨_,rfl⟩
       have hn1i:(n:Int)+1=(n1:Int):=by omega
       have wn1:IntKind.i64.wrap (n1:Int)=(n1:Int):=Ajj _ (by omega);have hge:¬ most<=n:=by omega
       have HN:=K1 (Ajb hq hn1);have HY:=K1 (Ajb hyg hyo);clear hq hn1 CD2 hyg hyo;go_wp2_with fail;refine CPk.out.mono ?_;rintro e w2 ⟨b2,y2,rfl,hy2,hg2,hp2,hm2⟩;rw [HN.out.1] at hp2;have HF2:=K1 (HF.out.next hlt hy2 (hg2.trans HY.out.1.symm) hp2);rw [<- HN.out.2] at HF2;have HM2:=K1 hm2;clear hy2 hg2 hp2 hm2 CPk cc;go_wp2_with fail
       go_step3
       refine ⟨rfl,⟨n1,y2,_,_,_,_,_,_,_,_,_,_,_,_,_,_,_,_,_,_,_,_,_,_,_,_,rfl,HF2.out,HM2.out⟩,?_⟩;have:=HN.out.2;simp [intOf];omega
     . have HE:=K1 (show n=most by omega);have hge:most<=n:=by omega
       go_wp2_with fail;refine CD2.out.mono ?_;rintro e w2 ⟨b2,rfl,hbd2,hb2⟩;have HF2:=K1 (Ajb hbd2 (HM.out.below hb2));clear hbd2 hb2 CD2;go_wp2_with fail;simp only [Exit.jump]
       go_ret2
       exact ⟨n,b2,y,rfl,HF.out,HF2.out.1,.inr HE.out,HF2.out.2⟩
   . go_wp2_with fail;refine CD2.out.mono ?_;rintro e w2 ⟨b2,rfl,hbd2,hb2⟩;have hb3:b2=true:=hbd2.2 (HBD.out.1 trivial);have HF2:=K1 (Ajb hbd2 (Ajb hb3 (HM.out.below hb2)));clear hbd2 hb2 CD2 hb3;go_wp2_with fail;simp only [Exit.jump]
     go_ret2
     exact ⟨n,b2,y,rfl,HF.out,HF2.out.1,.inl HF2.out.2.1,HF2.out.2.2⟩
def Bu:Rn:=⟨⟨1,1,1,2,2,1,1,2,1,1,1⟩,2,[1,1],2,[1,0],[([2],[6]),([4],[2])]⟩
def GC (x0 y0 x1 y1:Option Addr):List Ex:=[⟨x0,[2],1,y0,[6],1⟩,⟨x1,[4],1,y1,[2],1⟩]
def Eb (A D S R x0 y0 x1 y1:Option Addr):Inp:=⟨Bu,A,2,D,2,GC x0 y0 x1 y1,S,2,[4,2],R,2⟩
theorem Uq (A D S R x0 y0 x1 y1:Option Addr):(Eb A D S R x0 y0 x1 y1).Ok where
 c:=show Bu.c.Ok from ⟨by decide,by decide,by decide,by decide,by decide,by decide,by decide,by decide,by decide⟩
 p:=show 1<=Bu.p/\Bu.p<=60 by decide
 ns:=show NsOk Bu.ns from ⟨by decide,by decide,by decide⟩
 pn:=show Bu.p=offN Bu.ns (Bu.ns.length-1) by decide
 n:=show Bu.n<=1000/\Bu.c.ba<=Bu.n by decide
 l:=⟨rfl,rfl⟩
 ex:=⟨1,1,rfl,rfl,fun e he=>by
  simp only [Eb,GC,Ajf,Ajg,or_false] at he
  rcases he with rfl | rfl
  . exact ⟨rfl,rfl,fun z hz=>by simp at hz;omega,fun z hz=>by simp at hz;omega⟩
  . exact ⟨rfl,rfl,fun z hz=>by simp at hz;omega,fun z hz=>by simp at hz;omega⟩⟩
 st:=⟨rfl,fun z hz=>by simp [Eb] at hz;omega⟩
 ds:=show pcnt Bu.c.st (Bu.n / Bu.c.ba)*(Bu.n-1)<=Bu.ds.length/\Bu.ds.length<=1000000000 by decide
 cap:=show Bu.ns.length<=2 by decide
 ru:=show (⟨Bu.c.ra,Bu.c.mo,Bu.c.sh⟩:Ru).Ok from ⟨by decide,by decide,by decide⟩
 conf:=show AT (AX Bu.ns) Bu.c.cf=0 by decide
 shape:=show AV (AX Bu.ns)=0 by decide
 input:=by kernel_rfl
theorem Ur (w:World):Calls Tryz.prog 25 #[] w fun e w'=>∃ A D S R x0 y0 x1 y1:Option Addr,e=.returned (.agg (Eb A D S R x0 y0 x1 y1).cells.toArray)/\(Eb A D S R x0 y0 x1 y1).At w'/\Below w.heap.size w w':=by
 go_enter Tryz.func25,Tryz.ntmps25;go_wp2_with fail
 have hm:=(((((((((Mem.start w).alloc (.cells #[.slice (some ⟨w.heap.size+1,0,none⟩) 2 2,U O 1,U O 1,U O 1,U O 2,U O 2,U O 1,U O 1,U O 2,U O 1,U O 1,U O 1,.slice (some ⟨w.heap.size+1+1+1+1+1+1+1,0,none⟩) 2 2,.slice (some ⟨w.heap.size+1+1+1+1+1+1+1+1,0,none⟩) 2 2,.slice (some ⟨w.heap.size+1+1+1+1+1+1+1+1+1,0,none⟩) 2 2] 29)).alloc (.cells #[U O 1,U O 1] 3)).alloc (.cells #[.slice (some ⟨w.heap.size+1,0,none⟩) 2 2,U O 1,U O 1,U O 1,U O 2,U O 2,U O 1,U O 1,U O 2,U O 1,U O 1,U O 1] 24)).alloc (.cells #[U O 2] 2)).alloc (.cells #[U O 6] 2)).alloc (.cells #[U O 4] 2)).alloc (.cells #[U O 2] 2)).alloc (.cells #[.slice (some ⟨w.heap.size+1+1+1,0,none⟩) 1 1,.slice (some ⟨w.heap.size+1+1+1+1,0,none⟩) 1 1,.slice (some ⟨w.heap.size+1+1+1+1+1,0,none⟩) 1 1,.slice (some ⟨w.heap.size+1+1+1+1+1+1,0,none⟩) 1 1] 140)).alloc (.cells #[U O 4,U O 2] 2) |>.alloc (.cells #[.int .u64 1,.int .u64 0] 141)
 simp only [World.size_alloc] at hm;have HM:=K1 hm;clear hm;have c1:=HM.out.cells 1 rfl
 have hrx:∀ e∈GC (some ⟨w.heap.size+1+1+1,0,none⟩) (some ⟨w.heap.size+1+1+1+1,0,none⟩) (some ⟨w.heap.size+1+1+1+1+1,0,none⟩) (some ⟨w.heap.size+1+1+1+1+1+1,0,none⟩),RdX _ _ e:=fun e he=>by
  simp only [GC,Ajf,Ajg,or_false] at he
  rcases he with rfl | rfl
  . exact ⟨HM.out.box 4 rfl,HM.out.box 5 rfl,Ajd _,Ajd _,show (1:Nat)<=9223372036854775807 by decide,show (1:Nat)<=9223372036854775807 by decide⟩
  . exact ⟨HM.out.box 6 rfl,HM.out.box 7 rfl,Ajd _,Ajd _,show (1:Nat)<=9223372036854775807 by decide,show (1:Nat)<=9223372036854775807 by decide⟩
 have hat:(Eb (some ⟨w.heap.size+1,0,none⟩) (some ⟨w.heap.size+1+1+1+1+1+1+1,0,none⟩) (some ⟨w.heap.size+1+1+1+1+1+1+1+1,0,none⟩) (some ⟨w.heap.size+1+1+1+1+1+1+1+1+1,0,none⟩) (some ⟨w.heap.size+1+1+1,0,none⟩) (some ⟨w.heap.size+1+1+1+1,0,none⟩) (some ⟨w.heap.size+1+1+1+1+1,0,none⟩) (some ⟨w.heap.size+1+1+1+1+1+1,0,none⟩)).At _:=⟨HM.out.box 2 rfl,⟨HM.out.box 8 rfl,hrx⟩,fun a ha=>by
  simp only [Eb,GC,Bf,List.flatMap_cons,List.flatMap_nil,List.append_nil,List.cons_append,List.nil_append,Ajf,Ajg,or_false] at ha
  rcases ha with rfl | rfl | rfl | rfl
  . exact HM.out.box 4 rfl
  . exact HM.out.box 5 rfl
  . exact HM.out.box 6 rfl
  . exact HM.out.box 7 rfl,HM.out.box 9 rfl,HM.out.box 10 rfl⟩
 refine bodyPost_ret (v:=.agg (Eb (some ⟨w.heap.size+1,0,none⟩) (some ⟨w.heap.size+1+1+1+1+1+1+1,0,none⟩) (some ⟨w.heap.size+1+1+1+1+1+1+1+1,0,none⟩) (some ⟨w.heap.size+1+1+1+1+1+1+1+1+1,0,none⟩) (some ⟨w.heap.size+1+1+1,0,none⟩) (some ⟨w.heap.size+1+1+1+1,0,none⟩) (some ⟨w.heap.size+1+1+1+1+1,0,none⟩) (some ⟨w.heap.size+1+1+1+1+1+1,0,none⟩)).cells.toArray) ?_ rfl ⟨(some ⟨w.heap.size+1,0,none⟩),(some ⟨w.heap.size+1+1+1+1+1+1+1,0,none⟩),(some ⟨w.heap.size+1+1+1+1+1+1+1+1,0,none⟩),(some ⟨w.heap.size+1+1+1+1+1+1+1+1+1,0,none⟩),(some ⟨w.heap.size+1+1+1,0,none⟩),(some ⟨w.heap.size+1+1+1+1,0,none⟩),(some ⟨w.heap.size+1+1+1+1+1,0,none⟩),(some ⟨w.heap.size+1+1+1+1+1+1,0,none⟩),rfl,hat,HM.out.bel 0 rfl⟩
 simp [results,Tryz.results25,go_sem,c1,Inp.cells,Eb,Bu]
def rF (r:Rn) (u:Nat):Mf:=⟨0,u,r.c,r.p,r.ns,0,0,0,r.n,0,0,0,r.ds,0,0,0,none,0,r.dat.map fun p=>⟨none,p.1,0,none,p.2,0⟩,none,0⟩
theorem Us (r:Rn) (u:Nat):(rF r u).Of r:=⟨rfl,rfl,rfl,rfl,rfl,by simp [rF,Ex.nums,Function.comp_def]⟩
theorem Iy {r:Rn} {f:Mf} {u t:Nat} (hf:f.Of r) (hu:f.u=u):Bo f t=Bo (rF r u) t:=by
 unfold Bo rF;dsimp only;rw [hf.c,hf.p,hu]
theorem JO {r:Rn} {f:Mf} {u:Nat} (hf:f.Of r) (hu:f.u=u) (a:Am):BZ f a=BZ (rF r u) a:=by
 unfold BZ;rw [Iy hf hu]
theorem Ut {l l':List Ex} (h:l.map Ex.nums=l'.map Ex.nums) (js:List Nat):exAt l js=exAt l' js:=by
 unfold exAt;refine List.map_congr_left fun j _=>?_;have:=congrArg (fun z=>z[j]?) h;simp only [Ajc] at this;rw [this]
theorem Uu {r:Rn} {f:Mf} {u:Nat} (hf:f.Of r) (hu:f.u=u) (a:Am) (x:It):ownA f a x=ownA (rF r u) a x:=by
 have h2:=Us r u;have e1:∀ js,exAt f.xs js=exAt (rF r u).xs js:=fun js=>Ut (hf.dat.trans h2.dat.symm) js
 unfold ownA Mf.ru;rw [e1,hf.ns,hf.c,hf.p,hf.ds,hf.n,hu,h2.ns,h2.c,h2.p,h2.ds,h2.n];rfl
instance tgDec:DecidableEq Tg:=fun a b=>decidable_of_iff (a.step=b.step/\a.bucket=b.bucket/\a.phase=b.phase/\a.round=b.round/\a.chunk=b.chunk) (by cases a;cases b;simp)
structure Qw where
 ms:List Am
 qs:List (List (Tg × List Int))
def Wv.abs (x:Wv):Qw:=⟨x.ms.map Mc.abs,x.ls.map Ln.q⟩
def EW (r:Rn) (s:Qw) (u:Nat):Qw :=
 match s.ms[u]? with
 | none=>s
 | some a =>
   match (Bo (rF r u) a.t)[a.next]? with
   | none=>s
   | some x =>
     if x.kind=3 then
      match s.qs[u]? with
      | none=>s
      | some q=>if q.length<r.c.ca then ⟨s.ms.set u (BZ (rF r u) a),s.qs.set u (q++[(tgOf x.a,subL a.G x.a.lo x.a.hi)])⟩ else s
     else if x.kind=4 then
      match s.qs[(u+r.c.k-1) % r.c.k]? with
      | some ((t,v)::q)=>if t=tgOf x.a then ⟨s.ms.set u (BZ (rF r u) (Ip a x v)),s.qs.set ((u+r.c.k-1) % r.c.k) q⟩ else s
      | _=>s
     else ⟨s.ms.set u (BZ (rF r u) (ownA (rF r u) a x)),s.qs⟩
theorem Uv {r:Rn} {x x':Wv} {u:Nat} (ho:x.Ok r) (h:Moved r x u x'):x'.abs=EW r x.abs u:=by
 obtain ⟨m,m',it,h1,h2,h3,h4,h5,h6⟩:=h;obtain ⟨_,k2,k3,_⟩:=ho.m u m h1;have e1:x.abs.ms[u]?=some m.abs:=by show (x.ms.map Mc.abs)[u]?=_;rw [Ajc,h1];rfl
 have e2:(Bo (rF r u) m.abs.t)[m.abs.next]?=some it:=by rw [<- Iy k3 k2];exact h2
 have e4:x'.abs.ms=x.abs.ms.set u m'.abs:=by show x'.ms.map Mc.abs=_;rw [h4,Ajh];rfl
 have key:x'.abs=⟨x'.abs.ms,x'.abs.qs⟩:=rfl;unfold EW;rw [e1];dsimp only;rw [e2];dsimp only;rw [key,e4]
 rcases h6 with ⟨n3,n4,el,ea⟩ | ⟨k3',l,l',hl,el,hlt,hc,hq,ea⟩ | ⟨k4,l,l',v,q,hl,hlq,el,hc,hq,ea⟩
 . rw [if_neg n3,if_neg n4,ea,Uu k3 k2,JO k3 k2]
   congr 1
   show x'.ls.map Ln.q=x.ls.map Ln.q;rw [el]
 . have eq:x.abs.qs[u]?=some l.q:=by show (x.ls.map Ln.q)[u]?=_;rw [Ajc,hl];rfl
   have hca:=(ho.l u l hl).2.1;rw [if_pos k3',eq];dsimp only;rw [if_pos (by omega),ea,JO k3 k2]
   congr 1
   show x'.ls.map Ln.q=_;rw [el,Ajh,hq];rfl
 . have eq:x.abs.qs[(u+r.c.k-1) % r.c.k]?=some ((tgOf it.a,v)::q):=by show (x.ls.map Ln.q)[_]?=_;rw [Ajc,hl,<- hlq];rfl
   rw [if_neg (by omega),if_pos k4,eq];dsimp only;rw [if_pos rfl,ea,JO k3 k2]
   congr 1
   show x'.ls.map Ln.q=_;rw [el,Ajh,hq];rfl
theorem Uw {r:Rn} {x:Wv} {u:Nat} (ho:x.Ok r) (h:Stuck r x u):EW r x.abs u=x.abs:=by
 obtain ⟨m,h1,hs⟩:=h;obtain ⟨_,k2,k3,_⟩:=ho.m u m h1;have e1:x.abs.ms[u]?=some m.abs:=by show (x.ms.map Mc.abs)[u]?=_;rw [Ajc,h1];rfl
 unfold EW;rw [e1];dsimp only
 rcases hs with h0 | ⟨it,h2,hs⟩
 . have e2:(Bo (rF r u) m.abs.t)[m.abs.next]?=none:=by rw [<- Iy k3 k2];exact h0
   rw [e2]
 . have e2:(Bo (rF r u) m.abs.t)[m.abs.next]?=some it:=by rw [<- Iy k3 k2];exact h2
   rw [e2];dsimp only
   rcases hs with ⟨k3',l,hl,hf⟩ | ⟨k4,l,hl,hno⟩
   . have eq:x.abs.qs[u]?=some l.q:=by show (x.ls.map Ln.q)[u]?=_;rw [Ajc,hl];rfl
     have hca:=(ho.l u l hl).2.1;rw [if_pos k3',eq];dsimp only;rw [if_neg (by omega)]
   . have eq:x.abs.qs[(u+r.c.k-1) % r.c.k]?=some l.q:=by show (x.ls.map Ln.q)[_]?=_;rw [Ajc,hl];rfl
     rw [if_neg (by omega),if_pos k4,eq]
     cases hq:l.q with
     | nil=>rfl
     | cons a q =>
       obtain ⟨t,v⟩:=a;dsimp only
       by_cases e:t=tgOf it.a
       . subst e;exact absurd hq (hno v q)
       . rw [if_neg e]
theorem Nx {r:Rn}:∀ (us:List Nat) {x x':Wv} {n:Nat},x.Ok r->(∀ u∈us,u<r.c.k)->RunR r x (us.map fun u:Nat=>(u:Int)) n x'->x'.abs=us.foldl (EW r) x.abs
 | [],x,x',n,_,_,h=>by
   obtain ⟨_,rfl⟩:=h;rfl
 | u::us,x,x',n,ho,hu,⟨b,y,n',h1,h2,_⟩=>by
   replace h1:Cj r x (u:Int) b y:=h1;have hy:=Cj.ok ho h1;rw [List.foldl_cons,<- show y.abs=EW r x.abs u from ?_]
   . exact Nx us hy (fun v hv=>hu v (List.mem_cons_of_mem _ hv)) h2
   . have huk:=hu u (List.mem_cons_self ..)
     rcases h1 with ⟨_,rfl,h | h | ⟨v,hv,hs⟩⟩ | ⟨_,_,v,hv,hm⟩
     . omega
     . omega
     . have:v=u:=by omega
       subst this;exact (Uw ho hs).symm
     . have:v=u:=by omega
       subst this;exact Uv ho hm
def JP:Qw:=⟨List.replicate 2 ⟨[4,2],[0,0],[0,0],[([4,2],[0,0])],0,0,0,[]⟩,[[],[]]⟩
def Ny (n:Nat):Bool :=
 let s:=(((Aji n).map fun i=>i % 2).foldl (EW Bu) JP)
 !(s.ms.all fun a=>decide (1<=a.t)) || ((s.ms[1]?).map fun a=>a.rcd.map Prod.fst) == some [[4,2],[-4,-2]]
theorem Ux:(Aji 101).all Ny=true:=by kernel_rfl
theorem Nz {r:Rn} {st:List Int} {x:Wv} (ho:x.Ok r) (hcn:x.count=0) (hm:∀ m∈x.ms,m.abs=⟨st,AE r.p,AE r.p,[(st,AE r.p)],0,0,0,[]⟩) (hl:∀ l∈x.ls,l.q=[]):C7 r x:=by
 have hz:∀ (u:Nat) (m:Mc),x.ms[u]?=some m->m.cnt=0/\m.t=0/\m.next=0:=fun u m h=>by
  have:=hm m (Ajk h);exact ⟨congrArg Am.cnt this,congrArg Am.t this,congrArg Am.next this⟩
 have hcu:∀ u,cntU x u=0:=fun u=>by
  unfold cntU
  cases h:x.ms[u]? with
  | none=>rfl
  | some m=>exact (hz u m h).1
 refine ⟨ho,⟨fun u m h=>?_,?_⟩,⟨fun u l h=>?_,fun u _=>?_⟩⟩
 . obtain ⟨e1,e2,e3⟩:=hz u m h;rw [e1,e2,e3];omega
 . rw [hcn,DW (g:=fun _=>0) (fun u _=>hcu u),Fj];omega
 . rw [hl l (Ajk h),hcu,List.take_zero,Sk,List.drop_nil];rfl
 . unfold rcvN;rw [hcu];exact Nat.zero_le _
theorem N1 {α:Type} {a:α} {l:List α} {n:Nat} (hl:l.length=n) (h:∀ b∈l,b=a):l=List.replicate n a:=by
 rw [<- hl];exact List.eq_replicate_of_mem h
theorem Uy {x y:Wv} {n c:Nat} (hxo:x.Ok Bu) (hxm:∀ m∈x.ms,m.abs=⟨[4,2],AE 2,AE 2,[([4,2],AE 2)],0,0,0,[]⟩) (hxl:∀ l∈x.ls,l.q=[]) (hn:n<=100) (hr:RunR Bu x (turns Bu.c.k n) c y) (hall:∀ m∈y.ms,Bu.c.st<=m.t) {m:Mc} (hm:y.ms[1]?=some m) :
  m.rcd.map (fun e=>e.xs)=[[4,2],[-4,-2]]:=by
 have e0:x.abs=JP:=by
  unfold Wv.abs JP;rw [N1 (l:=x.ms.map Mc.abs) (a:=(⟨[4,2],[0,0],[0,0],[([4,2],[0,0])],0,0,0,[]⟩:Am)) (n:=2) (by rw [Ajl];exact hxo.lm) (fun b hb=>by obtain ⟨m,hm,rfl⟩:=List.mem_map.1 hb;exact hxm m hm),N1 (l:=x.ls.map Ln.q) (a:=[]) (n:=2) (by rw [Ajl];exact hxo.ll) (fun b hb=>by obtain ⟨l,hl,rfl⟩:=List.mem_map.1 hb;exact hxl l hl)];rfl
 have e1:=Nx ((Aji n).map fun i=>i % 2) hxo (fun u hu=>by obtain ⟨i,_,rfl⟩:=List.mem_map.1 hu;exact Nat.mod_lt _ (by decide)) (by rw [Aje];exact hr);rw [e0] at e1;have h:=List.all_eq_true.1 Ux n (List.mem_range.2 (by omega));unfold Ny at h;rw [<- e1] at h
 have hd:(y.abs.ms.all fun a=>decide (1<=a.t))=true:=List.all_eq_true.2 fun a ha=>by
  obtain ⟨m,hm,rfl⟩:=List.mem_map.1 ha;exact decide_eq_true (hall m hm)
 have e2:y.abs.ms[1]?=some m.abs:=by show (y.ms.map Mc.abs)[1]?=_;rw [Ajc,hm];rfl
 simp only [hd,Bool.not_true,Bool.false_or,e2,Option.map_some,beq_iff_eq,Option.some.injEq] at h;rw [<- h];show _=(m.rcd.map Ex.nums).map Prod.fst;rw [Aje];rfl
theorem Uz {r:Rn} {x x':Wv} {most n T:Nat} {b:Bool} (hw:C7 r x) (hf:FinR r x most n x') (hb:b=true↔∀ m∈x'.ms,r.c.st<=m.t) (ho:b=true\/n=most) (hm:most=T*r.c.k) (hT:totR r<=T):b=true:=by
 rcases ho with h | h
 . exact h
 . obtain ⟨_,_,_,c,hr⟩:=hf;rw [h,hm] at hr;have h1:=Nj T hw hr;have hw':=C7.run _ hw hr;have h2:=Ir hw'.ok hw'.cnt;exact hb.2 (h2.2.1 (by omega))
theorem N2:totR Bu<=50:=by decide
theorem N3 (w:World):Calls Tryz.prog 8 #[] w fun e w'=>e=.returned (.bool true)/\Below w.heap.size w w':=by
 have CS:=K1 (Ur w);go_enter Tryz.func8,Tryz.ntmps8;go_wp2_with fail;refine CS.out.mono ?_;rintro e w1 ⟨A,D,S,R,x0,y0,x1,y1,rfl,hat,hb1⟩;have hok:=Uq A D S R x0 y0 x1 y1;have CN:=K1 (Nb w1 _ hok hat);have HB:=K1 hb1;dsimp only [Inp.cells,Eb] at CN;clear hat hb1 CS;go_wp2_with fail;refine CN.out.mono ?_;rintro e w2 ⟨x,rfl,hxo,hxc,hxm,hxl,hM⟩;have hxo':x.Ok Bu:=hxo;have hw:=Nz (st:=[4,2]) hxo' hxc hxm hxl;have CF:=K1 (Up w2 x Bu _ hM hxo' 100 (by omega));have HW:=K1 (Ajb hw (Ajb hxo' (Ajb hxm hxl)));clear hxo hxo' hxc hxm hxl hM hw CN hok;go_wp2_with fail;refine CF.out.mono ?_
 rintro e w3 ⟨n,b,y,rfl,hf,hb,hor,hM⟩;have hb1:=Uz (T:=50) HW.out.1 hf hb hor rfl N2;have hall:=hb.1 hb1;obtain ⟨hnle,hyo,hyg,c,hr⟩:=hf
 have hcnt:=(C7.run _ HW.out.1 hr)
 have hyc:y.count<=1000000:=by have:=(Ir hyo hcnt.cnt).1;have:=N2;omega
 obtain ⟨m,hm⟩:=Au y.ms 1 (by rw [hyo.lm];decide);have CT:=K1 (fun W hMW=>TQ W y Bu [.bel w1.heap.size w1] hMW hyo hyc 1 m hm);have CD:=K1 (fun W hMW=>MY W y Bu [.bel w1.heap.size w1] hMW hyo);have hmr:=Uy HW.out.2.1 HW.out.2.2.1 HW.out.2.2.2 hnle hr hall hm;have hml:m.rcd.length=2:=by have:=congrArg List.length hmr;simpa using this
 rw [hml,hyg] at CT;rw [hyg] at CD;have HM:=K1 hM;have HR:=K1 (Ajb hmr hall);clear hM hb hor hall hnle hyo hyg hr hcnt hyc hm hmr hml CF HW hb1;go_wp2_with fail;refine (CT.out _ HM.out).mono ?_;rintro e w4 ⟨B,cb,l,rfl,hl,hle,hb4⟩;replace HM:=K1 (HM.out.below hb4)
 have hll:l.map (fun e=>e.xs)=[[4,2],[-4,-2]]:=by
  have h:=congrArg (List.map Prod.fst) hle;rw [Aje,Aje] at h;exact h.trans HR.out.1
 have HL:=K1 (Ajb hl hll);clear hl hle hb4 hll CT;go_wp2_with fail;refine (CD.out _ HM.out).mono ?_;rintro e w5 ⟨b,rfl,hb5,hbl5⟩;have hb6:=hb5.2 HR.out.2;subst hb6;have hw5:=HM.out.below hbl5;obtain ⟨hl,hll⟩:=HL.out;replace hl:=hl.below hbl5
 obtain ⟨e0,e1,rfl⟩:∃ e0 e1,l=[e0,e1]:=by
  have h2:l.length=2:=by have:=congrArg List.length hll;simpa using this
  rcases l with _ | ⟨a,_ | ⟨b,_ | ⟨c,r⟩⟩⟩
  . simp at h2
  . simp at h2
  . exact ⟨a,b,rfl⟩
  . simp at h2
 simp only [List.map_cons,List.map_nil,List.cons.injEq,and_true] at hll;have hP:e1.xs=[-4,-2]:=hll.2;obtain ⟨bb,off,hBe⟩:=hl.addr (by simp);subst hBe;have ha:=(hl.at_ (k:=1) (e:=e1) rfl).1;rw [hP] at ha;have hx:=hl.fam _ (Gh (e:=e1) (by simp));rw [hP] at hx;obtain ⟨bx,ox,hxe,_,hcx⟩:=hx (by simp);dsimp only at hxe;rw [hxe] at ha;have p0:=hcx 0 _ (show (zC [-4,-2])[0]?=some (U O (-4)) from rfl);have p1:=hcx 1 _ (show (zC [-4,-2])[1]?=some (U O (-2)) from rfl);have HF:=K1 hw5;simp only [List.length_cons,List.length_nil,Nat.zero_add,Nat.reduceAdd,Nat.one_mul] at ha;rw [Nat.add_zero] at p0
 clear hl hll hP hx hcx hw5 hbl5 hb5 HL HM CD hxe;go_wp2_with fail;go_ret;exact ⟨rfl,HB.out.trans ((HF.out.bel y.ps.length Tu).mono HB.out.size)⟩
end
end Go.Proofs.YtdpojpcoghcieaaGreat
