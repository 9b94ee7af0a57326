/- A part of the proof of TopTags: DataPick, World. Conditions: none. -/
import Derived.Test.YtdpojpcoghcieaaGreatSxAV
set_option maxHeartbeats 8000000
set_option linter.all false
namespace Go.Proofs.YtdpojpcoghcieaaGreat
open Lib renaming hid → K1
open Go.RowKit
set_option maxRecDepth 100000
open Value renaming slice → Us
open List renaming append_assoc → Aa8, getElem?_set_self → Aba, getElem?_map → Abb, length_map → Abc, mem_cons → Abd, not_mem_nil → Abe, mem_of_getElem? → Abf, eraseIdx_cons_succ → Abi, flatMap_cons → Abk, perm_append_comm → Abl, ext_getElem? → Abm, getElem?_set_ne → Abn, length_set → Abo
open And renaming intro → Aa9
open Nat renaming le_refl → Abg, le_trans → Abh
open IntWalk renaming i64_in → Abj
section
theorem RB (w:World) (A:Option Addr) (n cap:Nat) (l:List Ex) (hr:Rd w w.heap.size A (Bi l)) (hf:∀ a∈Bf l,Rd w w.heap.size a.1 a.2) (hl:l.length=n) (hn:n<=1000000) (hx:∀ e∈l,e.xs.length<=1048576/\e.ys.length<=1048576) :
  Calls Tryz.prog 66 #[Us A n cap] w fun e w'=>∃ Ao co out,e=.returned (Us Ao n co)/\out.map Ex.nums=l.map Ex.nums /\
   (∀ a∈Bf out,∀ p:Addr,a.1=some p->w.heap.size<=p.block)/\Mem w' [.bel w.heap.size w,.own w.heap.size 140 2 (Us Ao n co) n (Bi out),AD (Bf out)]:=by
 have CM:=K1 (Rh w A n cap l hr hf hl hn hx);clear hr hf hx hl;go_enter Tryz.func66,Tryz.ntmps66;go_wp2_with fail;refine CM.out.mono ?_;rintro e w1 ⟨Ao,co,out,rfl,h1,h2,h3⟩;have H:=K1 (Aa9 h1 (Aa9 h2 h3));clear h1 h2 h3 CM;go_wp2_with fail;go_ret;exact ⟨Ao,co,out,rfl,H.out.1,H.out.2.1,H.out.2.2⟩
theorem RC (w:World) (g n cap i:Nat) (A:Option Addr) (l:List Ex) (e:Ex) (hg:w.heap[g]?=some (.cells #[Us A n cap] 25 (0,0))) (hr:Rd w w.heap.size A (Bi l)) (hA:Rd w w.heap.size e.ax (zC e.xs)) (hB:Rd w w.heap.size e.ay (zC e.ys)) (hl:l.length=n) (hn:n<=1000000) (he:l[i]?=some e) (hx:e.xs.length<=1048576/\e.ys.length<=1048576) :
  Calls Tryz.prog 221 #[.int .i64 i,.pointer (some ⟨g,0,none⟩)] w fun r w'=>∃ Ap cp Am cm,r=.returned (.tuple #[exV e.xs.length Ap cp e.ys.length Am cm,.bool true])/\Mem w' [.bel w.heap.size w,vOwn w.heap.size e.xs.length cp Ap e.xs,vOwn w.heap.size e.ys.length cm Am e.ys]:=by
 have CC:=K1 (fun W (hb:Below w.heap.size w W)=>LP W e.ax e.ay e.xs.length e.ys.length e.cx e.cy e.xs e.ys ((hA.below hb).more hb.size) ((hB.below hb).more hb.size) rfl rfl hx.1 hx.2);have hi:i<n:=by rw [<- hl];exact (List.getElem?_eq_some_iff.1 he).1
 have hni:¬ n<=i:=by omega
 obtain ⟨b,off,rfl,_⟩:=hr (by rw [Er];omega);have hm0:=(((Mem.start w).add_rd (i:=0) rfl hr).more (i:=0) (d:=.st (fun x=>x=g) (fun W=>W.heap[g]?=some (.cells #[Us (some ⟨b,off,none⟩) n cap] 25 (0,0)))) rfl (fun h=>h) ⟨hg,fun x hx=>by cases hx;exact AZ hg,fun W1 W2 _ h1 h2=>(h1 g rfl).trans h2⟩ (fun h=>h) (fun x hx=>by cases hx;exact AZ hg)).alloc (.cells #[Us none 0 0,Us none 0 0] 140);have ⟨e1,e2⟩:=hm0.ex2 1 rfl he;have c2:=Af (hm0.st 2 rfl);have HM:=K1 hm0;obtain ⟨ax,xs,cx,ay,ys,cy⟩:=e;dsimp only at *;generalize xs.length=nx at *;generalize ys.length=ny at *;clear hm0 hg hr hA hB hl he hx
 go_enter Tryz.func221,Tryz.ntmps221;go_wp2_with fail;refine Dw fun W0 hW0=>?_;replace HM:=K1 (hW0.out.symm ▸ HM.out);clear hW0 e1 e2 c2;refine (CC.out _ (HM.out.bel 0 rfl)).mono ?_;rintro e w2 ⟨Ap,cp,Am,cm,rfl,hm2⟩;have hg:=(HM.out.bel 0 rfl).size
 have HM2:=K1 (((HM.out.join hm2 (fun c hc hm=>by
  simp only [Abd,Abe,or_false] at hc
  rcases hc with rfl | rfl <;> exact absurd trivial hm)).lower (i:=4) rfl hg).lower (i:=5) rfl hg)
 clear hm2 hg CC HM;have c3:=HM2.out.cells 3 rfl;have f3:=fun j=>HM2.out.frozen 3 j rfl
 have HF:=K1 ((HM2.out.set (i:=3) (j:=0) rfl (Us Ap nx cp)).set (i:=3) (j:=1) rfl (Us Am ny cm));clear HM2;go_wp2_with fail;clear c3 f3;have c3:=HF.out.cells 3 rfl;refine bodyPost_ret (v:=.tuple #[exV nx Ap cp ny Am cm,.bool true]) ?_ rfl ⟨_,_,_,_,rfl,HF.out.pick [0,4,5] _ rfl (by decide)⟩;simp [results,Tryz.results221,go_sem,c3]
def exAt (l:List Ex) (js:List Nat):List (List Int × List Int):=js.map fun j=>((l[j]?).map Ex.nums).getD ([],[])
def dpP (w:World) (A:Option Addr) (l:List Ex) (B:Option Addr) (js:List Nat) (g n cap:Nat) (Ao:Option Addr) (k co:Nat) (out:List Ex):List Ch :=
 [.bel w.heap.size w,.rd A (Bi l),AD (Bf l),.rd B (Ah js),.st (fun x=>x=g) (fun W=>W.heap[g]?=some (.cells #[Us A n cap] 25 (0,0))),.own w.heap.size 140 2 (Us Ao k co) k (Bi out),AD (Bf out)]
theorem RE (w:World) (A B:Option Addr) (g n cap m cb:Nat) (l:List Ex) (js:List Nat) (hg:w.heap[g]?=some (.cells #[Us A n cap] 25 (0,0))) (hr:Rd w w.heap.size A (Bi l)) (hf:∀ a∈Bf l,Rd w w.heap.size a.1 a.2) (hB:Rd w w.heap.size B (Ah js))
  (hl:l.length=n) (hn:n<=1000000) (hx:∀ e∈l,e.xs.length<=1048576/\e.ys.length<=1048576) (hm:js.length=m) (hmb:m<=1000000) (hj:∀ j∈js,j<n) :
  Calls Tryz.prog 220 #[Us B m cb,.func (.func 221) #[] #[.pointer (some ⟨g,0,none⟩)]] w fun e w'=>∃ Ao co out,e=.returned (.tuple #[Us Ao m co,.bool true])/\out.map Ex.nums=exAt l js /\
   (∀ a∈Bf out,∀ p:Addr,a.1=some p->w.heap.size<=p.block)/\Mem w' [.bel w.heap.size w,.own w.heap.size 140 2 (Us Ao m co) m (Bi out),AD (Bf out)]:=by
 have HC:=K1 (fun (i:Nat) (e:Ex) (he:l[i]?=some e) (W:World) (h0:W.heap[g]?=some (.cells #[Us A n cap] 25 (0,0))) (h3:Rd W W.heap.size A (Bi l)) (h1:Rd W W.heap.size e.ax (zC e.xs)) (h2:Rd W W.heap.size e.ay (zC e.ys))=>RC W g n cap i A l e h0 h3 h1 h2 hl hn he (hx e (Abf he)))
 have hA:0<m->∃ b off,B=some ⟨b,off,none⟩:=fun h0=>by
  obtain ⟨b,off,e,_⟩:=hB (by rw [DV];omega);exact ⟨b,off,e⟩
 have HJ:=K1 (Aa9 hj hl)
 have hm1:=((Mem.start w).add_rd (i:=0) rfl hr).more (i:=0) (d:=AD (Bf l)) rfl (fun h=>h) (Da hf) (fun h=>h) (fun g hg=>by
  obtain ⟨a,ha,h0,p,hp,rfl⟩:=hg;obtain ⟨b,off,e,hb,_⟩:=hf a ha h0
  rw [hp] at e;injection e with e;subst e;exact hb)
 have hm2:=(hm1.add_rd (i:=0) rfl hB).more (i:=0) (d:=.st (fun x=>x=g) (fun W=>W.heap[g]?=some (.cells #[Us A n cap] 25 (0,0)))) rfl (fun h=>h) ⟨hg,fun x hx=>by cases hx;exact AZ hg,fun W1 W2 _ h1 h2=>(h1 g rfl).trans h2⟩ (fun h=>h) (fun x hx=>by cases hx;exact AZ hg);have HM0:=K1 ((hm2.add (c:=.own w.heap.size 140 2 (Us none 0 0) 0 (Bi [])) ⟨Bh _ _ _ _,Abg _⟩ (fun _ _ _ _ g hg=>by cases hg)).add (c:=AD (Bf [])) (Da (fun a ha=>by cases ha)) (fun _ _ _ _ g hg=>by obtain ⟨a,ha,_⟩:=hg;cases ha));clear hm1 hm2;clear hr hf hx hg hB hj hl hn;go_enter Tryz.func220,Tryz.ntmps220;go_wp2_with fail
 go_loopw [6,13] (fun s6 i wr=>∃ (k:Nat) (Ao:Option Addr) (co:Nat) (out:List Ex),k<=m/\s6=Us Ao k co/\i=.int .i64 k/\Hid (out.map Ex.nums=exAt l (js.take k))/\Hid (∀ a∈Bf out,∀ p:Addr,a.1=some p->w.heap.size<=p.block)/\Hid (Mem wr (dpP w A l B js g n cap Ao k co out))) (fun _ i _=>m-(intOf i).toNat)
 case atStart=>exact ⟨0,none,0,[],Nat.zero_le _,rfl,rfl,K1 rfl,K1 (fun a ha=>by cases ha),HM0⟩
 case round =>
  clear HM0;obtain ⟨k,Ao,co,out,hk,rfl,rfl,HN,HB,HM⟩:=hrel
  by_cases hlt:k<m
  . obtain ⟨b,off,rfl⟩:=hA (by omega);obtain ⟨j,hj⟩:=Au js k (by omega);have hjn:=HJ.out.1 j (Abf hj);obtain ⟨e,he⟩:=Au l j (by rw [HJ.out.2];exact hjn);have hem:=Abf he;have CC:=K1 (fun W=>HC.out j e he W);have e0:=HM.out.rdAt 3 rfl (show (Ah js)[k]?=some (.int .i64 j) by simp [Ah,hj]);have HE:=K1 (Aa9 (Gh hem) (Ia hem));have HT:=K1 (show exAt l (js.take (k+1))=exAt l (js.take k)++[(e.xs,e.ys)] by rw [List.take_add_one,hj];simp [exAt,he,Ex.nums]);obtain ⟨ax,xs,cx,ay,ys,cy⟩:=e;dsimp only at CC HE HT
    obtain ⟨nx,hnx⟩:∃ nx,nx=xs.length:=⟨_,rfl⟩
    obtain ⟨ny,hny⟩:∃ ny,ny=ys.length:=⟨_,rfl⟩
    rw [<- hnx,<- hny] at CC;have HL:=K1 (Aa9 hnx hny);clear he hem hnx hny hj hjn;go_wp2_with fail;refine Dw fun W0 hW0=>?_;have HM2:=K1 (hW0.out.symm ▸ HM.out);clear hW0 HM e0;refine (CC.out _ (HM2.out.st 4 rfl) (HM2.out.rd 1 rfl) (HM2.out.st 2 rfl _ HE.out.1) (HM2.out.st 2 rfl _ HE.out.2)).mono ?_;rintro e w2 ⟨Ap,cp,Am,cm,rfl,hm2⟩;have hlo:=(HM2.out.bel 0 rfl).size;have HB1:=K1 (show ∀ p:Addr,Ap=some p->w.heap.size<=p.block from fun p hp=>Abh hlo (AF (hm2.own 1 rfl) p hp));have HB2:=K1 (show ∀ p:Addr,Am=some p->w.heap.size<=p.block from fun p hp=>Abh hlo (AF (hm2.own 2 rfl) p hp))
    have HM3:=K1 (((HM2.out.join hm2 (fun c hc hm=>by
     simp only [Abd,Abe,or_false] at hc
     rcases hc with rfl | rfl <;> exact absurd trivial hm)).freeze (i:=7) rfl).freeze (i:=8) rfl)
    clear hm2 hlo CC HM2;have hm5:=(HM3.out.alloc (.cells #[Us Ap nx cp,Us Am ny cm] 140)).alloc (.cells #[Us Ap nx cp,Us Am ny cm] 140);simp only [World.size_alloc] at hm5;have HM5:=K1 hm5;clear HM3 hm5
    go_wp2_with (at_builtin;refine AQ rfl _ _ 25 rfl HM5.out 5 LX rfl rfl _ 1 _ [Us Ap nx cp,Us Am ny cm] rfl (HM5.out.box 10 rfl) rfl (by intro u hu;simp at hu;rcases hu with rfl | rfl <;> rfl) (by omega) ?_;intro A' c' W4 hM4)
    have HM6:=K1 (((hM4.famSnoc (i:=6) (j:=7) rfl rfl).famSnoc (i:=6) (j:=8) rfl rfl).front 7);clear hM4 HM5;go_wp2_with fail;go_roundw
    case rel =>
     refine ⟨k+1,A',c',out++[⟨Ap,xs,cp,Am,ys,cm⟩],by omega,rfl,by go_num,K1 ?_,K1 ?_,K1 ?_⟩
     . rw [HT.out,List.map_append,HN.out];rfl
     . rw [Ft];intro a ha p hp
       rcases List.mem_append.1 ha with ha | ha
       . rcases List.mem_append.1 ha with ha | ha
         . exact HB.out a ha p hp
         . rw [List.mem_singleton.1 ha] at hp;exact HB1.out p hp
       . rw [List.mem_singleton.1 ha] at hp;exact HB2.out p hp
     . unfold dpP;rw [Ft,H9];dsimp only;rw [<- HL.out.1,<- HL.out.2];exact HM6.out
    case measure=>simp [intOf];omega
  . have hkn:k=m:=by omega
    subst hkn;have HF:=K1 HM.out;clear HM;go_wp2_with fail
    go_ret2
    refine ⟨Ao,co,out,rfl,?_,HB.out,HF.out.pick [0,5,6] _ rfl (by decide)⟩;rw [HN.out,List.take_of_length_le (by omega)]
theorem RF (w:World) (A B:Option Addr) (n cap m cb:Nat) (l:List Ex) (js:List Nat) (hr:Rd w w.heap.size A (Bi l)) (hf:∀ a∈Bf l,Rd w w.heap.size a.1 a.2) (hB:Rd w w.heap.size B (Ah js))
  (hl:l.length=n) (hn:n<=1000000) (hx:∀ e∈l,e.xs.length<=1048576/\e.ys.length<=1048576) (hm:js.length=m) (hmb:m<=1000000) (hj:∀ j∈js,j<n) :
  Calls Tryz.prog 206 #[Us A n cap,Us B m cb] w fun e w'=>∃ Ao co out,e=.returned (.tuple #[Us Ao m co,.bool true])/\out.map Ex.nums=exAt l js /\
   (∀ a∈Bf out,∀ p:Addr,a.1=some p->w.heap.size<=p.block)/\Mem w' [.bel w.heap.size w,.own w.heap.size 140 2 (Us Ao m co) m (Bi out),AD (Bf out)]:=by
 have hbx:Below w.heap.size w (w.alloc (.cells #[Us A n cap] 25)):=(Below.refl _ _).alloc (Abg _) _;have CM:=K1 (RE (w.alloc (.cells #[Us A n cap] 25)) A B w.heap.size n cap m cb l js (heap_alloc_new _ _) ((hr.below hbx).more hbx.size) (fun a ha=>((hf a ha).below hbx).more hbx.size) ((hB.below hbx).more hbx.size) hl hn hx hm hmb hj);have HB:=K1 hbx;clear hr hf hx hl hB hm hj hbx;go_enter Tryz.func206,Tryz.ntmps206;go_wp2_with fail;refine CM.out.mono ?_;rintro e w1 ⟨Ao,co,out,rfl,h1,h2,h3⟩;have H:=K1 (Aa9 h1 (Aa9 h2 h3));clear h1 h2 h3 CM;go_wp2_with fail
 go_ret2
 refine ⟨Ao,co,out,rfl,H.out.1,fun a ha p hp=>Abh HB.out.size (H.out.2.1 a ha p hp),?_⟩;have hm3:=H.out.2.2;have hb3:Below w.heap.size w w1:=HB.out.trans ((hm3.bel 0 rfl).mono HB.out.size);refine Mem.cons_iff.2 ⟨⟨hb3,Abg _⟩,((hm3.lower (i:=1) rfl HB.out.size).pick [1,2] _ rfl (by decide)),fun d hd hm g hg hg2=>?_⟩;have hlt:g<(w.alloc (.cells #[Us A n cap] 25)).heap.size:=Nat.lt_of_lt_of_le hg HB.out.size;simp only [Abd,Abe,or_false] at hd
 rcases hd with rfl | rfl
 . have:=((hm3.own 1 rfl).lt g hg2).1;omega
 . obtain ⟨a,ha,_,p,hp,rfl⟩:=hg2;have:=H.out.2.1 a ha p hp;omega
structure Wv where
 g:Nat
 Aw:Option Addr
 cw:Nat
 Al:Option Addr
 cl:Nat
 ms:List Mc
 ls:List Ln
 count:Nat
def ifV (g:Nat):Value:=.iface 95 (.pointer (some ⟨g,0,none⟩))
def ptV (g:Nat):Value:=.pointer (some ⟨g,0,none⟩)
def Wv.cells (x:Wv):List Value:=[Us x.Aw x.ms.length x.cw,Us x.Al x.ls.length x.cl,.int .i64 x.count]
def Wv.hd (x:Wv):List Ch:=[.obj x.g (.cells x.cells.toArray 94 (0,0)),.rd x.Aw (x.ms.map fun m=>ifV m.f.g),.rd x.Al (x.ls.map fun l=>ptV l.g)]
def Wv.ps (x:Wv):List Ch:=x.hd++(x.ms.flatMap Mc.ps++x.ls.flatMap Ln.ps)
theorem Ju {α β:Type} (f:α->List β):∀ (l:List α) (u:Nat) (a:α),l[u]?=some a->(l.flatMap f).Perm (f a++(l.eraseIdx u).flatMap f)
 | [],_,_,h=>by simp at h
 | x::r,0,a,h=>by
   simp at h;subst h
   exact List.Perm.refl _
 | x::r,u+1,a,h=>by
   have ih:=Ju f r u a (by simpa using h);rw [Abk,Abi,Abk];refine (List.Perm.append_left (f x) ih).trans ?_;rw [<- Aa8,<- Aa8];exact List.Perm.append_right _ Abl
theorem Ig {α:Type}:∀ (l:List α) (u:Nat) (a:α),(l.set u a).eraseIdx u=l.eraseIdx u
 | [],_,_=>rfl
 | x::r,0,a=>rfl
 | x::r,u+1,a=>by
   rw [List.set_cons_succ,Abi,Abi,Ig r u a]
theorem Gs {α:Type} (A B C:List α):(A++(B++C)).Perm (B++(A++C)):=by
 rw [<- Aa8,<- Aa8];exact List.Perm.append_right C Abl
theorem Wv.perm1 (x:Wv) (R:List Ch) {u:Nat} {m:Mc} (h:x.ms[u]?=some m):(x.ps++R).Perm (m.ps++(x.hd++((x.ms.eraseIdx u).flatMap Mc.ps++(x.ls.flatMap Ln.ps++R)))):=by
 have h1:=Ju Mc.ps x.ms u m h;unfold Wv.ps;rw [Aa8,Aa8];refine (List.Perm.append_left x.hd (List.Perm.append_right _ h1)).trans ?_;have:=Gs x.hd m.ps ((x.ms.eraseIdx u).flatMap Mc.ps++(x.ls.flatMap Ln.ps++R))
 simpa only [Aa8] using this
theorem Wv.perm2 (x:Wv) (R:List Ch) {u v:Nat} {m:Mc} {l:Ln} (h:x.ms[u]?=some m) (k:x.ls[v]?=some l):(x.ps++R).Perm (m.ps++(l.ps++(x.hd++((x.ms.eraseIdx u).flatMap Mc.ps++((x.ls.eraseIdx v).flatMap Ln.ps++R))))):=by
 refine (x.perm1 R h).trans (List.Perm.append_left m.ps ?_);have h2:=Ju Ln.ps x.ls v l k;refine (List.Perm.append_left x.hd (List.Perm.append_left _ (List.Perm.append_right R h2))).trans ?_;simp only [Aa8];exact (List.Perm.append_left x.hd (Gs _ l.ps _)).trans (Gs x.hd l.ps _)
theorem Wv.hd_set (x:Wv) {u:Nat} {m m':Mc} (h:x.ms[u]?=some m) (hf:m'.f=m.f):({ x with ms:=x.ms.set u m' }:Wv).hd=x.hd:=by
 have e:(x.ms.set u m').map (fun m=>ifV m.f.g)=x.ms.map fun m=>ifV m.f.g:=by
  rw [List.map_set];apply Abm;intro j
  by_cases hj:u=j
  . subst hj;rw [Aba (by rw [Abc];exact (List.getElem?_eq_some_iff.1 h).1),Abb,h,hf];rfl
  . rw [Abn hj]
 unfold Wv.hd Wv.cells;dsimp only;rw [e,Abo]
theorem Wv.hd_set2 (x:Wv) {u:Nat} {l l':Ln} (h:x.ls[u]?=some l) (hf:l'.g=l.g):({ x with ls:=x.ls.set u l' }:Wv).hd=x.hd:=by
 have e:(x.ls.set u l').map (fun l=>ptV l.g)=x.ls.map fun l=>ptV l.g:=by
  rw [List.map_set];apply Abm;intro j
  by_cases hj:u=j
  . subst hj;rw [Aba (by rw [Abc];exact (List.getElem?_eq_some_iff.1 h).1),Abb,h,hf];rfl
  . rw [Abn hj]
 unfold Wv.hd Wv.cells;dsimp only;rw [e,Abo]
theorem Mem.back1 {W:World} {x:Wv} {R:List Ch} {u:Nat} {m m':Mc} (h:x.ms[u]?=some m) (hf:m'.f=m.f) (hM:Mem W (m'.ps++(x.hd++((x.ms.eraseIdx u).flatMap Mc.ps++(x.ls.flatMap Ln.ps++R))))):Mem W (({ x with ms:=x.ms.set u m' }:Wv).ps++R):=by
 have hp:=Wv.perm1 { x with ms:=x.ms.set u m' } R (u:=u) (m:=m') (Aba (List.getElem?_eq_some_iff.1 h).1);rw [x.hd_set h hf] at hp;dsimp only at hp;rw [Ig] at hp;exact hM.perm hp.symm
theorem Mem.back2 {W:World} {x:Wv} {R:List Ch} {u v:Nat} {m m':Mc} {l l':Ln} (h:x.ms[u]?=some m) (k:x.ls[v]?=some l) (hf:m'.f=m.f) (hg:l'.g=l.g) (hM:Mem W (m'.ps++(l'.ps++(x.hd++((x.ms.eraseIdx u).flatMap Mc.ps++((x.ls.eraseIdx v).flatMap Ln.ps++R)))))):Mem W (({ x with ms:=x.ms.set u m',ls:=x.ls.set v l' }:Wv).ps++R):=by
 have hp:=Wv.perm2 { x with ms:=x.ms.set u m',ls:=x.ls.set v l' } R (u:=u) (v:=v) (m:=m') (l:=l') (Aba (List.getElem?_eq_some_iff.1 h).1) (Aba (List.getElem?_eq_some_iff.1 k).1);have e1:=Wv.hd_set2 { x with ms:=x.ms.set u m' } (u:=v) (l:=l) (l':=l') k hg;dsimp only at e1 hp;rw [e1,x.hd_set h hf,Ig,Ig] at hp;exact hM.perm hp.symm
theorem DY {W:World} {B b o j:Nat} {vs:List Value} {v:Value} (h:Rd W B (some ⟨b,o,none⟩) vs) (hv:vs[j]?=some v):W.cell? ⟨b,o+j,none⟩=some v:=by
 obtain ⟨b',o',e,_,hc⟩:=h (by have:=(List.getElem?_eq_some_iff.1 hv).1;omega);injection e with e
 injection e with e1 e2
 subst e1;subst e2
 exact hc j v hv
theorem Jv (w:World) (x:Wv) (R:List Ch) (h:Mem w (x.hd++R)) (k:Nat) (hm:x.ms.length=k) (hl:x.ls.length=k) (hk:1<=k/\k<=8) (u:Nat) (hu:u<k) (m:Mc) (li lo:Ln) (h1:x.ms[u]?=some m) (h2:x.ls[(u+k-1) % k]?=some li) (h3:x.ls[u]?=some lo) :
  Calls Tryz.prog 47 #[.pointer (some ⟨x.g,0,none⟩),.int .i64 u] w fun e w'=>e=.returned (.tuple #[ifV m.f.g,ptV li.g,ptV lo.g,.bool true])/\∃ q,w'=w.drewN q:=by
 obtain ⟨bw,ow,hAw,_,_⟩:=h.rd 1 rfl (by rw [Abc];omega);obtain ⟨bl,ol,hAl,_,_⟩:=h.rd 2 rfl (by rw [Abc];omega)
 obtain ⟨s,hs⟩:∃ s,s=u+k:=⟨_,rfl⟩
 obtain ⟨d,hd⟩:∃ d,d=u+k-1:=⟨_,rfl⟩
 obtain ⟨r,hr⟩:∃ r,r=d % k:=⟨_,rfl⟩
 have e1:(u:Int)+(k:Int)=(s:Int):=by omega
 have e2:(s:Int)-1=(d:Int):=by omega
 have e3:(d:Int).tmod (k:Int)=(r:Int):=by rw [hr];exact (Int.ofNat_tmod _ _).symm
 have hrk:r<k:=by rw [hr];exact Nat.mod_lt _ (by omega)
 have w1:IntKind.i64.wrap (s:Int)=(s:Int):=Abj _ (by omega);have w2:IntKind.i64.wrap (d:Int)=(d:Int):=Abj _ (by omega);have w3:IntKind.i64.wrap (r:Int)=(r:Int):=Abj _ (by omega);have hz:¬ k=0:=by omega
 have hzi:((k:Int) == 0)=false:=beq_eq_false_iff_ne.2 (by omega);have hnu:¬ k<=u:=by omega
 rw [<- hd,<- hr] at h2
 have HS:=K1 (show ∀ (W:World) (q:Nat),W=w.drewN q->W.cell? ⟨x.g,0,none⟩=some (Us (some ⟨bw,ow,none⟩) k x.cw)/\W.cell? ⟨x.g,1,none⟩=some (Us (some ⟨bl,ol,none⟩) k x.cl)/\W.cell? ⟨bw,ow+u,none⟩=some (ifV m.f.g)/\W.cell? ⟨bl,ol+r,none⟩=some (ptV li.g)/\W.cell? ⟨bl,ol+u,none⟩=some (ptV lo.g) from fun W q hW=>by
  subst hW;have h':=h.drewN q;have hr1:=h'.rd 1 rfl;have hr2:=h'.rd 2 rfl;rw [hAw] at hr1;rw [hAl] at hr2;refine ⟨?_,?_,DY hr1 (by rw [Abb,h1];rfl),DY hr2 (by rw [Abb,h2];rfl),DY hr2 (by rw [Abb,h3];rfl)⟩
  . rw [<- hAw,<- hm];exact Af (h'.obj 0 rfl) 0
  . rw [<- hAl,<- hl];exact Af (h'.obj 0 rfl) 1)
 have ⟨c0,_,_,_,_⟩:=HS.out w 0 rfl;have hkb:k<=8:=hk.2;dsimp only [ifV,ptV] at *;clear h hm hl h1 h2 h3 hs hd hr hAw hAl hk;go_enter Tryz.func47,Tryz.ntmps47;go_wp2_with fail;clear c0
 refine AC (.reads [0,1,2,3,4,5,6,7,8,9,10,11,12,13,14,15,16,17,18,19,20,21,22,23,24,25,26,27,28,29] .fin) 30 (fun W'=>W'.cell? ⟨x.g,0,none⟩=some (Us (some ⟨bw,ow,none⟩) k x.cw)/\W'.cell? ⟨x.g,1,none⟩=some (Us (some ⟨bl,ol,none⟩) k x.cl)/\W'.cell? ⟨bw,ow+u,none⟩=some (.iface 95 (.pointer (some ⟨m.f.g,0,none⟩)))/\W'.cell? ⟨bl,ol+r,none⟩=some (.pointer (some ⟨li.g,0,none⟩))/\W'.cell? ⟨bl,ol+u,none⟩=some (.pointer (some ⟨lo.g,0,none⟩))) ?_;refine PlS.rd_ (HS.out w.drew 1 rfl) ?_;refine PlS.fin_ ?_;go_wp2_with fail
 refine bodyPost_ret (v:=.tuple #[.iface 95 (.pointer (some ⟨m.f.g,0,none⟩)),.pointer (some ⟨li.g,0,none⟩),.pointer (some ⟨lo.g,0,none⟩),.bool true]) ?_ rfl ⟨rfl,1,rfl⟩;simp [results,Tryz.results47,go_sem]
theorem RG (w:World) (x:Wv) (R:List Ch) (h:Mem w (x.hd++R)) (k:Nat) (hm:x.ms.length=k) (z:Int) (hz:z<0\/(k:Int)<=z) :
  Calls Tryz.prog 47 #[.pointer (some ⟨x.g,0,none⟩),.int .i64 z] w fun e w'=>e=.returned (.tuple #[.nilIface,.pointer none,.pointer none,.bool false])/\w'=w:=by
 have c0:w.cell? ⟨x.g,0,none⟩=some (Us x.Aw k x.cw):=by rw [<- hm];exact Af (h.obj 0 rfl) 0
 clear h hm
 by_cases hn:z<0
 . clear hz;go_enter Tryz.func47,Tryz.ntmps47;go_wp2_with fail;refine bodyPost_ret (v:=.tuple #[.nilIface,.pointer none,.pointer none,.bool false]) ?_ rfl ⟨rfl,rfl⟩;simp [results,Tryz.results47,go_sem]
 . have hz2:(k:Int)<=z:=by omega
   clear hz;go_enter Tryz.func47,Tryz.ntmps47;go_wp2_with fail;refine bodyPost_ret (v:=.tuple #[.nilIface,.pointer none,.pointer none,.bool false]) ?_ rfl ⟨rfl,rfl⟩;simp [results,Tryz.results47,go_sem]
end
end Go.Proofs.YtdpojpcoghcieaaGreat
