/- A part of the proof of TopTags: Link, Peek, DataMap, LinkQ, TagEq, E5, MachP, LinkRecv. Conditions: none. -/
import Derived.Laws.StructEq
import Derived.Test.YtdpojpcoghcieaaGreatSxAS
import Derived.Test.YtdpojpcoghcieaaGreatSxAN
set_option maxHeartbeats 8000000
set_option linter.all false
namespace Go.Proofs.YtdpojpcoghcieaaGreat
open Lib renaming hid → K1
open Go.RowKit
set_option maxRecDepth 100000
open Value renaming int → U, slice → Us
open IntKind renaming i64 → O
open PlS renaming ef_ → ZL, rd_ → ZN, fin_ → ZQ
open After renaming go → ZM
open Nat renaming add_assoc → ZO, add_zero → ZP, le_refl → ZR, le_trans → ZT, mod_le → ZU, mod_eq_of_lt → ZW, zero_le → ZZ, mod_lt → Aac
open List renaming mem_of_getElem? → ZS, map_append → Aaa, range → Aab, mem_cons_self → Aad, not_mem_nil → Aae, map_congr_left → Aaf
open World renaming size_alloc → ZV
open IntWalk renaming i64_in → ZX
open Mem renaming start → ZY
section
def H7 (g:Nat) (A:Option Addr) (n c cap se re pk:Nat):Ch:=.obj g (.cells #[Us A n c,U O cap,U O se,U O re,U O pk] 172 (0,0))
abbrev BF (A:Option Addr) (n c cap se re pk:Nat):List Value:=[Us A n c,U O cap,U O se,U O re,U O pk]
theorem Rc (w:World) (cap:Nat) (hc:1<=cap/\cap<=1048576) :
  Calls Tryz.prog 30 #[U O cap] w fun e w'=>e=.returned (.pointer (some ⟨w.heap.size,0,none⟩))/\w'=w.alloc (.cells (BF none 0 0 cap 0 0 0).toArray 172):=by
 obtain ⟨h1,h2⟩:=hc;go_enter Tryz.func30,Tryz.ntmps30
 go_wp2
 all_goals
  go_ret;exact ⟨rfl,rfl⟩
theorem Fs (w:World) (g n c cap se re pk:Nat) (A:Option Addr) (h:∀ i,w.cell? ⟨g,i,none⟩=(BF A n c cap se re pk)[i]?) (h1:re<=se) (h2:se<=1000000000) :
  Calls Tryz.prog 84 #[.pointer (some ⟨g,0,none⟩)] w fun e w'=>e=.returned (U O (se-re:Nat))/\∃ q,w'=w.drewN q:=by
 obtain ⟨d,hd⟩:∃ d,d=se-re:=⟨_,rfl⟩
 have e1:(se:Int)-(re:Int)=(d:Int):=by omega
 have hdb:d<=1000000000:=by omega
 have wd:IntKind.i64.wrap (d:Int)=(d:Int):=ZX _ (by omega);rw [<- hd];clear hd;go_enter Tryz.func84,Tryz.ntmps84;go_wp2_with fail
 go_region
 go_wp2_with fail;go_ret;exact ⟨rfl,_,rfl⟩
theorem H8 (w:World) (g n c cap se re pk m:Nat) (A:Option Addr) (h:∀ i,w.cell? ⟨g,i,none⟩=(BF A n c cap se re pk)[i]?) (hc:1<=cap) (hm:m<=1000000000) :
  Calls Tryz.prog 85 #[.pointer (some ⟨g,0,none⟩),U O m] w fun e w'=>e=.returned (U O (m % cap:Nat))/\w=w':=by
 obtain ⟨r,hr⟩:∃ r,r=m % cap:=⟨_,rfl⟩
 have hr1:r<=m:=hr ▸ ZU _ _;have e2:(m:Int).tmod (cap:Int)=(r:Int):=by rw [hr];exact (Int.ofNat_tmod _ _).symm
 have w2:IntKind.i64.wrap (r:Int)=(r:Int):=ZX _ (by omega);have hz:¬ cap=0:=by omega
 rw [<- hr];clear hr;go_enter Tryz.func85,Tryz.ntmps85
 go_wp2
 go_ret;exact ⟨rfl,rfl⟩
theorem Re (w:World) (g n c cap se re pk:Nat) (A:Option Addr) (h:∀ i,w.cell? ⟨g,i,none⟩=(BF A n c cap se re pk)[i]?) :
  Calls Tryz.prog 50 #[.pointer (some ⟨g,0,none⟩)] w fun e w'=>e=.returned (U O pk)/\w=w':=by
 go_enter Tryz.func50,Tryz.ntmps50
 go_wp2
 go_ret;exact ⟨rfl,rfl⟩
theorem LV (A:Option Addr) (n cap:Nat) (zs:List Int) (w:World) (hr:Rd w w.heap.size A (zC zs)) (hl:zs.length=n) (hn:n<=1000000000) :
  Calls Tryz.prog 86 #[Us A n cap] w fun e w'=>∃ A' c',e=.returned (Us A' n c')/\w'.ownsRow w.heap.size 2 1 (Us A' n c') n (zC zs)/\n<=c'/\Below w.heap.size w w':=by
 have C:=K1 (IH A n cap (zC zs) w hr (by simp [hl]) (Ek zs) hn);clear hr;go_enter Tryz.func86,Tryz.ntmps86;go_wp2_with fail
 (with_reducible refine C.out.mono ?_)
 rintro e w1 ⟨A',c',rfl,h1,h2,h3⟩;clear C;go_wp2_with fail;go_ret;exact ⟨A',c',rfl,h1,h2,h3⟩
structure Tg where
 step:Nat
 bucket:Nat
 phase:Nat
 round:Nat
 chunk:Nat
def Tg.cells (t:Tg):List Value:=[U O t.step,U O t.bucket,U O t.phase,U O t.round,U O t.chunk]
structure Ms where
 t:Tg
 A:Option Addr
 c:Nat
 v:List Int
def Ms.cells (m:Ms):List Value:=m.t.cells++[Us m.A m.v.length m.c]
def mcells (l:List Ms):List Value:=l.flatMap Ms.cells
theorem E4 (l:List Ms):(mcells l).length=l.length*6:=Dx _ 6 (fun _=>rfl) l
theorem Gg {l:List Ms} {k:Nat} {m:Ms} (h:l[k]?=some m) {i:Nat} {u:Value} (hu:m.cells[i]?=some u):(mcells l)[k*6+i]?=some u:=Ef Ms.cells 6 (fun _=>rfl) l k m h i u hu
theorem LW (w:World) (g n c cap se re pk:Nat) (A:Option Addr) (ms:List Ms) (m:Ms) (hg:w.heap[g]?=some (.cells (BF A n c cap se re pk).toArray 172 (0,0))) (hr:Rd w w.heap.size A (mcells ms)) (hn:ms.length=n) (h1:re<se) (h2:se<=1000000000) (hc:1<=cap) (hm:ms[re % cap]?=some m) :
  Calls Tryz.prog 228 #[.pointer (some ⟨g,0,none⟩)] w fun e w'=>e=.returned (.tuple #[.agg m.t.cells.toArray,.bool true])/\Below w.heap.size w w':=by
 have HM:=K1 ((((ZY w).add_rd (i:=0) rfl hr).more (i:=0) (c:=.bel w.heap.size w) (d:=.st (fun x=>x=g) (fun W=>W.heap[g]?=some (.cells (BF A n c cap se re pk).toArray 172 (0,0)))) rfl (fun h=>h) ⟨hg,fun x hx=>by cases hx;exact AZ hg,fun W1 W2 _ h1 h2=>(h1 g rfl).trans h2⟩ (fun h=>h) (fun x hx=>by cases hx;exact AZ hg)).alloc (.cells #[U O 0,U O 0,U O 0,U O 0,U O 0] 71));have hk:re % cap<n:=by rw [<- hn];exact (List.getElem?_eq_some_iff.1 hm).1
 obtain ⟨b,o,rfl,_,_⟩:=hr (by rw [E4];omega);have CL:=K1 (fun (W:World) h=>Fs W g n c cap se re pk (some ⟨b,o,none⟩) h (by omega) h2);have CP:=K1 (fun (W:World) h=>H8 W g n c cap se re pk re (some ⟨b,o,none⟩) h hc (by omega));obtain ⟨⟨st,bu,ph,ro,ch⟩,mA,mc,mv⟩:=m;have HC:=K1 (fun i u (hu:(Ms.cells ⟨⟨st,bu,ph,ro,ch⟩,mA,mc,mv⟩)[i]?=some u)=>Gg hm hu);have hlen:se-re≠0:=by omega
 have hlb:se-re<=1000000000:=by omega
 generalize se-re=d at *;generalize re % cap=k at *;dsimp only [Tg.cells];clear hg hr hm hn h2 hc;go_enter Tryz.func228,Tryz.ntmps228;go_wp2_with fail;refine (CL.out _ (Af (HM.out.st 2 rfl))).mono ?_;rintro e w1 ⟨rfl,q0,rfl⟩;replace HM:=K1 (HM.out.drewN q0);clear CL;go_wp2_with fail
 have HT:=K1 (show ∀ (W:World) (M:List Ch),Mem W M->M[1]?=some (.rd (some ⟨b,o,none⟩) (mcells ms))->W.cell? ⟨b,o+k*6,none⟩=some (U O st)/\W.cell? ⟨b,o+k*6+1,none⟩=some (U O bu)/\W.cell? ⟨b,o+k*6+2,none⟩=some (U O ph)/\W.cell? ⟨b,o+k*6+3,none⟩=some (U O ro)/\W.cell? ⟨b,o+k*6+4,none⟩=some (U O ch) from fun W M h hM=>⟨(by have:=h.rdAt 1 hM (HC.out 0 _ rfl);simpa only [ZO,ZP] using this),(by have:=h.rdAt 1 hM (HC.out 1 _ rfl);simpa only [ZO,ZP] using this),(by have:=h.rdAt 1 hM (HC.out 2 _ rfl);simpa only [ZO,ZP] using this),(by have:=h.rdAt 1 hM (HC.out 3 _ rfl);simpa only [ZO,ZP] using this),(by have:=h.rdAt 1 hM (HC.out 4 _ rfl);simpa only [ZO,ZP] using this)⟩)
 refine A9 fun W0 hW0=>?_;replace HM:=K1 (hW0.out.symm ▸ HM.out);clear hW0;refine AC (.reads [0,1,2,3,4,5,6,7,8,9] (.eff 10 (.reads [11,12,13] (.eff 14 (.reads [15] (.fin)))))) 16 (fun W'=>(∀ i,W'.cell? ⟨g,i,none⟩=(BF (some ⟨b,o,none⟩) n c cap se re pk)[i]?)/\W'.cell? ⟨b,o+k*6,none⟩=some (U O st)/\W'.cell? ⟨b,o+k*6+1,none⟩=some (U O bu)/\W'.cell? ⟨b,o+k*6+2,none⟩=some (U O ph)/\W'.cell? ⟨b,o+k*6+3,none⟩=some (U O ro)/\W'.cell? ⟨b,o+k*6+4,none⟩=some (U O ch)) ?_;replace HM:=K1 HM.out.drew;generalize W0.drew=V at *;refine ZN ⟨Af (HM.out.st 2 rfl),HT.out _ _ HM.out rfl⟩ ?_;refine ZL ?_
 go_wp2_with fail;refine (CP.out _ (Af (HM.out.st 2 rfl))).mono ?_;rintro e w2 ⟨rfl,rfl⟩;go_wp2_with fail;refine ZM ⟨Af (HM.out.st 2 rfl),HT.out _ _ HM.out rfl⟩ ?_;refine ZN ⟨Af (HM.out.st 2 rfl),HT.out _ _ HM.out rfl⟩ ?_;refine ZL ?_;have c3:=HM.out.cells 3 rfl;have f3:=fun j=>HM.out.frozen 3 j rfl
 have HF:=K1 (((((HM.out.set (i:=3) (j:=0) rfl (U O st)).set (i:=3) (j:=1) rfl (U O bu)).set (i:=3) (j:=2) rfl (U O ph)).set (i:=3) (j:=3) rfl (U O ro)).set (i:=3) (j:=4) rfl (U O ch));clear HM;go_wp2_with fail;refine ZM ⟨Af (HF.out.st 2 rfl),HT.out _ _ HF.out rfl⟩ ?_;clear c3 f3;refine ZN ⟨Af (HF.out.st 2 rfl),HT.out _ _ HF.out rfl⟩ ?_;refine ZQ ?_;have c3:=HF.out.cells 3 rfl;go_wp2_with fail;refine bodyPost_ret (v:=.tuple #[.agg #[U O st,U O bu,U O ph,U O ro,U O ch],.bool true]) ?_ rfl ⟨rfl,HF.out.bel 0 rfl⟩;simp [results,Tryz.results228,go_sem,c3]
theorem Rf (w:World) (g n c cap se pk:Nat) (A:Option Addr) (hg:w.heap[g]?=some (.cells (BF A n c cap se se pk).toArray 172 (0,0))) (h2:se<=1000000000) :
  Calls Tryz.prog 228 #[.pointer (some ⟨g,0,none⟩)] w fun e w'=>e=.returned (.tuple #[.agg #[U O 0,U O 0,U O 0,U O 0,U O 0],.bool false])/\Below w.heap.size w w':=by
 have HM:=K1 (((ZY w).more (i:=0) (c:=.bel w.heap.size w) (d:=.st (fun x=>x=g) (fun W=>W.heap[g]?=some (.cells (BF A n c cap se se pk).toArray 172 (0,0)))) rfl (fun h=>h) ⟨hg,fun x hx=>by cases hx;exact AZ hg,fun W1 W2 _ h1 h2=>(h1 g rfl).trans h2⟩ (fun h=>h) (fun x hx=>by cases hx;exact AZ hg)).alloc (.cells #[U O 0,U O 0,U O 0,U O 0,U O 0] 71));have CL:=K1 (fun (W:World) h=>Fs W g n c cap se se pk A h (ZR _) h2);rw [Nat.sub_self] at CL;clear hg h2;go_enter Tryz.func228,Tryz.ntmps228;go_wp2_with fail;refine (CL.out _ (Af (HM.out.st 1 rfl))).mono ?_;rintro e w1 ⟨rfl,q0,rfl⟩
 have HM1:=K1 (HM.out.drewN q0);have c2:=HM1.out.cells 2 rfl;have f2:=fun j=>HM1.out.frozen 2 j rfl
 have HF:=K1 (((((HM1.out.set (i:=2) (j:=0) rfl (U O 0)).set (i:=2) (j:=1) rfl (U O 0)).set (i:=2) (j:=2) rfl (U O 0)).set (i:=2) (j:=3) rfl (U O 0)).set (i:=2) (j:=4) rfl (U O 0));clear CL;go_wp2_with fail;have c4:=HF.out.cells 2 rfl;refine bodyPost_ret (v:=.tuple #[.agg #[U O 0,U O 0,U O 0,U O 0,U O 0],.bool false]) ?_ rfl ⟨rfl,HF.out.bel 0 rfl⟩;simp [results,Tryz.results228,go_sem,c4]
def Bf (l:List Ex):List (Option Addr × List Value):=l.flatMap fun e=>[(e.ax,zC e.xs),(e.ay,zC e.ys)]
theorem Ft (l:List Ex) (e:Ex):Bf (l++[e])=(Bf l++[(e.ax,zC e.xs)])++[(e.ay,zC e.ys)]:=by simp [Bf]
theorem H9 (l:List Ex) (e:Ex):Bi (l++[e])=Bi l++[Us e.ax e.xs.length e.cx,Us e.ay e.ys.length e.cy]:=by simp [Bi,Ex.cells]
theorem Gh {l:List Ex} {e:Ex} (h:e∈l):(e.ax,zC e.xs)∈Bf l:=List.mem_flatMap.2 ⟨e,h,Aad ..⟩
theorem Ia {l:List Ex} {e:Ex} (h:e∈l):(e.ay,zC e.ys)∈Bf l:=List.mem_flatMap.2 ⟨e,h,List.mem_cons_of_mem _ (Aad ..)⟩
def Ex.nums (e:Ex):List Int × List Int:=(e.xs,e.ys)
theorem Mem.ex2 {W:World} {L:List Ch} (h:Mem W L) (ix:Nat) {b off i:Nat} {l:List Ex} {e:Ex} (hx:L[ix]?=some (.rd (some ⟨b,off,none⟩) (Bi l))) (hi:l[i]?=some e) :
  W.cell? ⟨b,off+i*2,none⟩=some (Us e.ax e.xs.length e.cx)/\W.cell? ⟨b,off+i*2+1,none⟩=some (Us e.ay e.ys.length e.cy):=by
 have ha:=FL l i e hi;rw [Nat.mul_comm] at ha;exact ⟨h.rdAt ix hx ha.1,by rw [ZO];exact h.rdAt ix hx ha.2⟩
theorem Rg:(Tryz.prog.info? 140).map (fun i=>(i.zero,i.size,i.bytes))=some (some (.agg #[Us none 0 0,Us none 0 0]),2,48):=by kernel_rfl
theorem LX:RowT Tryz.prog 25 140 2 48:=by
 obtain ⟨i0,hi,hz0,hz1,hz2⟩:=info_parts Rg;exact ⟨i0,_,Tryz.underlying25,hi,hz0,hz1,hz2,rfl,by decide,by decide⟩
def dmP (w:World) (A:Option Addr) (l:List Ex) (Ao:Option Addr) (k co:Nat) (out:List Ex):List Ch :=
 [.bel w.heap.size w,.rd A (Bi l),AD (Bf l),.own w.heap.size 140 2 (Us Ao k co) k (Bi out),AD (Bf out)]
theorem Rh (w:World) (A:Option Addr) (n cap:Nat) (l:List Ex) (hr:Rd w w.heap.size A (Bi l)) (hf:∀ a∈Bf l,Rd w w.heap.size a.1 a.2) (hl:l.length=n) (hn:n<=1000000) (hx:∀ e∈l,e.xs.length<=1048576/\e.ys.length<=1048576) :
  Calls Tryz.prog 110 #[Us A n cap,.func (.func 111) #[] #[]] w fun e w'=>∃ Ao co out,e=.returned (.tuple #[Us Ao n co,.bool true])/\out.map Ex.nums=l.map Ex.nums /\
   (∀ a∈Bf out,∀ p:Addr,a.1=some p->w.heap.size<=p.block)/\Mem w' [.bel w.heap.size w,.own w.heap.size 140 2 (Us Ao n co) n (Bi out),AD (Bf out)]:=by
 have HC:=K1 (fun (e:Ex) (he:e∈l) (W:World) (h1:Rd W W.heap.size e.ax (zC e.xs)) (h2:Rd W W.heap.size e.ay (zC e.ys))=>QR W e.ax e.ay e.xs.length e.ys.length e.cx e.cy e.xs e.ys h1 h2 rfl rfl (hx e he).1 (hx e he).2)
 have hA:0<n->∃ b off,A=some ⟨b,off,none⟩:=fun h0=>by
  obtain ⟨b,off,e,_⟩:=hr (by rw [Er];omega);exact ⟨b,off,e⟩
 have HM0:=K1 (((((ZY w).add_rd (i:=0) rfl hr).more (i:=0) (d:=AD (Bf l)) rfl (fun h=>h) (Da hf) (fun h=>h) (fun g hg=>by
  obtain ⟨a,ha,h0,p,hp,rfl⟩:=hg;obtain ⟨b,off,e,hb,_⟩:=hf a ha h0
  rw [hp] at e;injection e with e;subst e;exact hb)).add (c:=.own w.heap.size 140 2 (Us none 0 0) 0 (Bi [])) ⟨Bh _ _ _ _,ZR _⟩ (fun _ _ _ _ g hg=>by cases hg)).add (c:=AD (Bf [])) (Da (fun a ha=>by cases ha)) (fun _ _ _ _ g hg=>by obtain ⟨a,ha,_⟩:=hg;cases ha))
 clear hr hf hx;go_enter Tryz.func110,Tryz.ntmps110;go_wp2_with fail
 go_loopw [6,13] (fun s6 i wr=>∃ (k:Nat) (Ao:Option Addr) (co:Nat) (out:List Ex),k<=n/\s6=Us Ao k co/\i=U O k/\Hid (out.map Ex.nums=(l.take k).map Ex.nums)/\Hid (∀ a∈Bf out,∀ p:Addr,a.1=some p->w.heap.size<=p.block)/\Hid (Mem wr (dmP w A l Ao k co out))) (fun _ i _=>n-(intOf i).toNat)
 case atStart=>exact ⟨0,none,0,[],ZZ _,rfl,rfl,K1 rfl,K1 (fun a ha=>by cases ha),HM0⟩
 case round =>
  clear HM0;obtain ⟨k,Ao,co,out,hk,rfl,rfl,HN,HB,HM⟩:=hrel
  by_cases hlt:k<n
  . obtain ⟨b,off,rfl⟩:=hA (by omega);obtain ⟨e,he⟩:=Au l k (by omega);have hem:=ZS he;have CC:=K1 (fun W=>HC.out e hem W);have ⟨e3,e4⟩:=HM.out.ex2 1 rfl he;have HE:=K1 (And.intro (Gh hem) (Ia hem));have HT:=K1 (show l.take (k+1)=l.take k++[e] by rw [List.take_add_one,he];rfl);obtain ⟨ax,xs,cx,ay,ys,cy⟩:=e;dsimp only at CC e3 e4 HE HT
    obtain ⟨nx,hnx⟩:∃ nx,nx=xs.length:=⟨_,rfl⟩
    obtain ⟨ny,hny⟩:∃ ny,ny=ys.length:=⟨_,rfl⟩
    rw [<- hnx,<- hny] at CC;rw [<- hnx] at e3;rw [<- hny] at e4;have HL:=K1 (And.intro hnx hny);have HM1:=K1 (HM.out.alloc (.cells #[Us ax nx cx,Us ay ny cy] 140));clear HM he hem hnx hny;go_wp2_with fail;refine Dw fun W0 hW0=>?_;have HM2:=K1 (hW0.out.symm ▸ HM1.out);clear hW0 HM1 e3 e4;refine (CC.out _ (HM2.out.st 2 rfl _ HE.out.1) (HM2.out.st 2 rfl _ HE.out.2)).mono ?_;rintro e w2 ⟨Ap,cp,Am,cm,rfl,hm2⟩;have hlo:=(HM2.out.bel 0 rfl).size;have HB1:=K1 (show ∀ p:Addr,Ap=some p->w.heap.size<=p.block from fun p hp=>ZT hlo (AF (hm2.own 1 rfl) p hp))
    have HB2:=K1 (show ∀ p:Addr,Am=some p->w.heap.size<=p.block from fun p hp=>ZT hlo (AF (hm2.own 2 rfl) p hp))
    have HM3:=K1 (((HM2.out.join hm2 (fun c hc hm=>by
     simp only [List.mem_cons,Aae,or_false] at hc
     rcases hc with rfl | rfl <;> exact absurd trivial hm)).freeze (i:=6) rfl).freeze (i:=7) rfl)
    clear hm2 hlo CC HM2;have hm5:=(HM3.out.alloc (.cells #[Us Ap nx cp,Us Am ny cm] 140)).alloc (.cells #[Us Ap nx cp,Us Am ny cm] 140);simp only [ZV] at hm5;have HM5:=K1 hm5;clear HM3 hm5
    go_wp2_with (at_builtin;refine AQ rfl _ _ 25 rfl HM5.out 3 LX rfl rfl _ 1 _ [Us Ap nx cp,Us Am ny cm] rfl (HM5.out.box 9 rfl) rfl (by intro u hu;simp at hu;rcases hu with rfl | rfl <;> rfl) (by omega) ?_;intro A' c' W4 hM4)
    have HM6:=K1 (((hM4.famSnoc (i:=4) (j:=6) rfl rfl).famSnoc (i:=4) (j:=7) rfl rfl).front 5);clear hM4 HM5;go_wp2_with fail;go_roundw
    case rel =>
     refine ⟨k+1,A',c',out++[⟨Ap,xs,cp,Am,ys,cm⟩],by omega,rfl,by go_num,K1 ?_,K1 ?_,K1 ?_⟩
     . rw [HT.out,Aaa,Aaa,HN.out];rfl
     . rw [Ft];intro a ha p hp
       rcases List.mem_append.1 ha with ha | ha
       . rcases List.mem_append.1 ha with ha | ha
         . exact HB.out a ha p hp
         . rw [List.mem_singleton.1 ha] at hp;exact HB1.out p hp
       . rw [List.mem_singleton.1 ha] at hp;exact HB2.out p hp
     . unfold dmP;rw [Ft,H9];dsimp only;rw [<- HL.out.1,<- HL.out.2];exact HM6.out
    case measure=>simp [intOf];omega
  . have hkn:k=n:=by omega
    subst hkn;have HF:=K1 HM.out;clear HM;go_wp2_with fail
    go_ret2
    refine ⟨Ao,co,out,rfl,?_,HB.out,HF.out.pick [0,3,4] _ rfl (by decide)⟩;rw [HN.out,List.take_of_length_le (by omega)]
def lfam (ms:List Ms):List (Option Addr × List Value):=ms.map fun m=>(m.A,zC m.v)
theorem LY {ms:List Ms} {k:Nat} {m:Ms} (h:ms[k]?=some m):(m.A,zC m.v)∈lfam ms:=List.mem_map.2 ⟨m,ZS h,rfl⟩
def qAt (cap:Nat) (ms:List Ms) (k:Nat):Tg × List Int:=((ms[k % cap]?).map fun m=>(m.t,m.v)).getD (⟨0,0,0,0,0⟩,[])
def qL (cap se re:Nat) (ms:List Ms):List (Tg × List Int):=(Aab (se-re)).map fun j=>qAt cap ms (re+j)
structure DK (n cap se re:Nat) (ms:List Ms):Prop where
 len:ms.length=n
 few:n=min se cap
 le:re<=se
 room:se-re<=cap
 cp:1<=cap/\cap<=1048576
 vals:∀ m∈ms,m.v.length<=1000/\m.v.length<=m.c/\In64 m.v
def Df (cap se:Nat) (ms:List Ms) (m:Ms):List Ms:=if se % cap<ms.length then ms.set (se % cap) m else ms++[m]
theorem LZ (cap se:Nat) (ms:List Ms):qL cap se se ms=[]:=by simp [qL]
theorem Jo (cap se re:Nat) (ms:List Ms):(qL cap se re ms).length=se-re:=by simp [qL]
theorem DK.first {n cap se re:Nat} {ms:List Ms} (h:DK n cap se re ms) (hlt:re<se):∃ m,ms[re % cap]?=some m/\qL cap se re ms=(m.t,m.v)::qL cap se (re+1) ms:=by
 have h1:=h.len;have h2:=h.few;have h3:=h.cp;have h4:re % cap<cap:=Aac _ h3.1;have h5:re % cap<=re:=ZU _ _;obtain ⟨m,hm⟩:=Au ms (re % cap) (by omega);refine ⟨m,hm,?_⟩;have e:se-re=(se-(re+1))+1:=by omega
 rw [qL,e,List.range_succ_eq_map,List.map_cons,List.map_map,qL];refine congr (congrArg _ ?_) ?_
 . simp [qAt,hm]
 . refine Aaf fun j _=>?_;show qAt cap ms (re+(j+1))=_;rw [show re+(j+1)=re+1+j by omega]
theorem DK.recv {n cap se re:Nat} {ms:List Ms} (h:DK n cap se re ms) (hlt:re<se):DK n cap se (re+1) ms :=
 ⟨h.len,h.few,hlt,by have:=h.room;omega,h.cp,h.vals⟩
theorem Ri {a b c:Nat} (h1:a<b) (h2:b-a<c):a % c≠b % c:=fun e=>by
 have h3:=Nat.sub_mod_eq_zero_of_mod_eq e.symm;rw [ZW h2] at h3;omega
theorem DK.put_len {n cap se re:Nat} {ms:List Ms} (h:DK n cap se re ms) (m:Ms):(Df cap se ms m).length=min (se+1) cap:=by
 have h1:=h.len;have h2:=h.few;have h3:=h.cp;have h4:se % cap<cap:=Aac _ h3.1;have h5:se % cap<=se:=ZU _ _;unfold Df
 split
 . rename_i hlt
   rw [List.length_set]
   rcases Nat.lt_or_ge se cap with h6 | h6
   . rw [ZW h6] at hlt;omega
   . omega
 . rename_i hlt
   rw [List.length_append,List.length_singleton];omega
theorem DK.send {n cap se re:Nat} {ms:List Ms} (h:DK n cap se re ms) (hlt:se-re<cap) (m:Ms) (hv:m.v.length<=1000/\m.v.length<=m.c/\In64 m.v) :
  DK (min (se+1) cap) cap (se+1) re (Df cap se ms m)/\qL cap (se+1) re (Df cap se ms m)=qL cap se re ms++[(m.t,m.v)]:=by
 have h0:=h.le;have h1:=h.len;have h2:=h.few;have h3:=h.cp;have h4:se % cap<cap:=Aac _ h3.1;have h5:se % cap<=se:=ZU _ _;refine ⟨⟨h.put_len m,rfl,by omega,by omega,h3,fun x hx=>?_⟩,?_⟩
 . unfold Df at hx
   split at hx
   . rcases List.mem_or_eq_of_mem_set hx with hx | rfl
     . exact h.vals x hx
     . exact hv
   . rcases List.mem_append.1 hx with hx | hx
     . exact h.vals x hx
     . simp at hx;subst hx;exact hv
 . have e:se+1-re=(se-re)+1:=by omega
   rw [qL,e,List.range_succ,Aaa,List.map_singleton,qL];refine congr (congrArg _ (Aaf fun j hj=>?_)) ?_
   . have hj:=List.mem_range.1 hj;have hne:(re+j) % cap≠se % cap:=Ri (by omega) (by omega);unfold qAt Df
     split
     . rw [List.getElem?_set_ne (Ne.symm hne)]
     . rename_i hge
       have h6:se<cap:=by omega
       rw [List.getElem?_append_left];rw [ZW (by omega)];omega
   . rw [show re+(se-re)=se by omega];unfold qAt Df
     split
     . rename_i hlt
       rw [List.getElem?_set_self hlt];rfl
     . rename_i hge
       have h6:se % cap=ms.length:=by
        rcases Nat.lt_or_ge se cap with h6 | h6
        . rw [ZW h6] at hge ⊢;omega
        . omega
       rw [h6,List.getElem?_append_right (ZR _),Nat.sub_self];rfl
section
variable {P:Program}
theorem Gj {e:TypeId} (ha:∀ w,(isAgg e).run P w=.ok false w) (cs:Array Value) (i:Nat) (v:Value) (h:cs[i]?=some v) (w:World):(part e cs i).run P w=.ok v w:=by
 simp [part,ha,h]
theorem Rj {t:TypeId} {xs ys:Array Value} {b:Bool} {w:World} (h:(Op.equalIn 10000 t (.agg xs) (.agg ys)).run P w=.ok b w):(binOp .neq t (.agg xs) (.agg ys)).run P w=.ok (.bool (!b)) w:=by
 rw [run_neq_struct,h];rfl
end
theorem Gl:∀ w,(isAgg 3).run Tryz.prog w=.ok false w:=fun w=>by simp [isAgg,run_underlying Tryz.underlying3 w]
theorem Jp (op:BinOp) (x y:Operand) (xs ys:Array Value) (w:World):(eqGuard op 71 x y (.agg xs) (.agg ys)).run Tryz.prog w=.ok () w:=run_eqGuard_agg w op _ x y xs ys (by kernel_rfl)
theorem eqT (a0 a1 a2 a3 a4 b0 b1 b2 b3 b4:Int) (w:World):(Op.equalIn 10000 71 (.agg #[U O a0,U O a1,U O a2,U O a3,U O a4]) (.agg #[U O b0,U O b1,U O b2,U O b3,U O b4])).run Tryz.prog w=.ok ((a0 == b0) && ((a1 == b1) && ((a2 == b2) && ((a3 == b3) && (a4 == b4))))) w:=by
 have hi:=fun (u v:Int) (w:World)=>run_equalIn_int (P:=Tryz.prog) w 9998 3 .i64 .i64 u v Tryz.underlying3
 rw [run_equalIn_struct (P:=Tryz.prog) w 9999 71 _ _ (by kernel_rfl) (by kernel_rfl)];have p0:∀ (x0 x1 x2 x3 x4:Int) (w:World),(part 3 #[U O x0,U O x1,U O x2,U O x3,U O x4] 0).run Tryz.prog w=.ok (U O x0) w:=fun _ _ _ _ _ w=>Gj Gl _ 0 _ rfl w
 have p1:∀ (x0 x1 x2 x3 x4:Int) (w:World),(part 3 #[U O x0,U O x1,U O x2,U O x3,U O x4] 1).run Tryz.prog w=.ok (U O x1) w:=fun _ _ _ _ _ w=>Gj Gl _ 1 _ rfl w
 have p2:∀ (x0 x1 x2 x3 x4:Int) (w:World),(part 3 #[U O x0,U O x1,U O x2,U O x3,U O x4] 2).run Tryz.prog w=.ok (U O x2) w:=fun _ _ _ _ _ w=>Gj Gl _ 2 _ rfl w
 have p3:∀ (x0 x1 x2 x3 x4:Int) (w:World),(part 3 #[U O x0,U O x1,U O x2,U O x3,U O x4] 3).run Tryz.prog w=.ok (U O x3) w:=fun _ _ _ _ _ w=>Gj Gl _ 3 _ rfl w
 have p4:∀ (x0 x1 x2 x3 x4:Int) (w:World),(part 3 #[U O x0,U O x1,U O x2,U O x3,U O x4] 4).run Tryz.prog w=.ok (U O x4) w:=fun _ _ _ _ _ w=>Gj Gl _ 4 _ rfl w
 simp only [Program.fieldsOf,Tryz.underlying71]
 by_cases h0:a0=b0
 . by_cases h1:a1=b1
   . by_cases h2:a2=b2
     . by_cases h3:a3=b3
       . by_cases h4:a4=b4
         . simp [Op.eqFields,p0,p1,p2,p3,p4,hi,h0,h1,h2,h3,h4]
         . simp [Op.eqFields,p0,p1,p2,p3,p4,hi,h0,h1,h2,h3,h4]
       . simp [Op.eqFields,p0,p1,p2,p3,hi,h0,h1,h2,h3]
     . simp [Op.eqFields,p0,p1,p2,hi,h0,h1,h2]
   . simp [Op.eqFields,p0,p1,hi,h0,h1]
 . simp [Op.eqFields,p0,hi,h0]
theorem neqT (a0 a1 a2 a3 a4 b0 b1 b2 b3 b4:Int) (w:World):(binOp .neq 71 (.agg #[U O a0,U O a1,U O a2,U O a3,U O a4]) (.agg #[U O b0,U O b1,U O b2,U O b3,U O b4])).run Tryz.prog w=.ok (.bool (!((a0 == b0) && ((a1 == b1) && ((a2 == b2) && ((a3 == b3) && (a4 == b4))))))) w:=Rj (eqT a0 a1 a2 a3 a4 b0 b1 b2 b3 b4 w)
end
section
theorem Mem.moved {W1 W2:World} {L:List Ch} (h:Mem W1 L) (hs:W1.heap.size<=W2.heap.size) (hk:∀ c∈L,∀ g,c.fp g->W2.heap[g]?=W1.heap[g]?) (hb:∀ c∈L,∀ B w0,c≠.bel B w0):Mem W2 L:=by
 have h2:Mem { W2 with os:=W1.os,tape:=W1.tape,output:=W1.output } L:=by
  refine h.keep (E:=fun g=>¬ ∃ c∈L,c.fp g) ⟨rfl,rfl,rfl,hs,fun g _ hg=>?_⟩ (fun i c hi g hg hn=>hn ⟨c,ZS hi,hg⟩);obtain ⟨c,hc,hcg⟩:=Classical.not_not.1 hg;exact hk c hc g hcg
 refine ⟨fun i c hi=>?_,h2.sep⟩;have h3:=h2.holds i c hi
 cases c with
 | bel B w0=>exact absurd rfl (hb _ (ZS hi) B w0)
 | obj g o=>exact h3
 | rd A vs=>exact h3
 | own base e size v n xs=>exact h3
 | st F P=>exact ⟨h3.keep { W2 with os:=W1.os,tape:=W1.tape,output:=W1.output } W2 (ZR _) (fun _ _=>rfl) h3.now,h3.lt,h3.keep⟩
def netR (gn gs q P cp k cl:Nat) (ns:List Nat) (Ap As Al:Option Addr) (ps:List Int) (ms:List Lk):List Ch :=
 [.rd Ap (zC ps),.rd As (Ah ns),netB gn gs q Ap P cp Al k cl,.own 0 337 4 (Us Al k cl) k (Fp ns Ap cp ms),AD (Ey ns ps ms)]
structure E5 (W:World) (lo hi flo fhi gn gs q:Nat) (ns:List Nat) (ps:List Int):Prop where
 ex:∃ P cp cl Ap As Al ms,Mem W (netR gn gs q P cp (ns.length-1) cl ns Ap As Al ps ms)/\(ms.map Lk.k=Aab (ns.length-1)/\∀ m∈ms,midN ns m.k-offN ns m.k<=m.c)/\ps.length=P/\P=offN ns (ns.length-1)/\P<=cp /\
  ∀ c∈netR gn gs q P cp (ns.length-1) cl ns Ap As Al ps ms,∀ g,c.fp g->lo<=g/\g<hi
 form:BE W flo fhi gs ns
 lt:hi<=W.heap.size/\fhi<=W.heap.size
 ok:NsOk ns
 ps:In64 ps
 q:q<=62
theorem Rk {gn gs q P cp k cl:Nat} {ns:List Nat} {Ap As Al:Option Addr} {ps:List Int} {ms:List Lk}:∀ c∈netR gn gs q P cp k cl ns Ap As Al ps ms,∀ B w0,c≠.bel B w0:=by
 intro c hc B w0 e;subst e;simp [netR,netB,AD] at hc
theorem E5.in_ {W:World} {lo hi flo fhi gn gs q:Nat} {ns:List Nat} {ps:List Int} (h:E5 W lo hi flo fhi gn gs q ns ps):Ez W gn gs q ns ps:=by
 obtain ⟨⟨P,cp,cl,Ap,As,Al,ms,hM,h1,h2,h3,h4,_⟩,hF,hlt,h5,h6,h7⟩:=h;exact ⟨⟨W,0,P,cp,cl,Ap,As,Al,ms,Mem.cons_iff.2 ⟨⟨Below.refl 0 W,ZZ _⟩,hM,fun d _ _ g hg=>absurd hg (Nat.not_lt_zero _)⟩,h1,h2,h3,h4⟩,⟨flo,fhi,hF,hlt.2⟩,h5,h6,h7⟩
def Gm (lo hi flo fhi gn gs q:Nat) (ns:List Nat) (ps:List Int):Ch:=.st (fun g=>(lo<=g/\g<hi)\/(flo<=g/\g<fhi)) (fun W=>E5 W lo hi flo fhi gn gs q ns ps)
theorem Ro {W:World} {lo hi flo fhi gn gs q:Nat} {ns:List Nat} {ps:List Int} (h:E5 W lo hi flo fhi gn gs q ns ps):(Gm lo hi flo fhi gn gs q ns ps).Holds W:=by
 refine ⟨h,fun g hg=>?_,fun W1 W2 hs hk h1=>?_⟩
 . have:=h.lt;omega
 . obtain ⟨⟨P,cp,cl,Ap,As,Al,ms,hM,k1,k2,k3,k4,k5⟩,hF,hlt,h5,h6,h7⟩:=h1;exact ⟨⟨P,cp,cl,Ap,As,Al,ms,hM.moved hs (fun c hc g hg=>hk g (.inl (k5 c hc g hg))) Rk,k1,k2,k3,k4,k5⟩,hF.keep (fun g g1 g2=>hk g (.inr ⟨g1,g2⟩)),⟨ZT hlt.1 hs,ZT hlt.2 hs⟩,h5,h6,h7⟩
theorem Rp {w W:World} {flo fhi gs q P gn cp cl:Nat} {ns:List Nat} {Ap As Al:Option Addr} {ps:List Int} {ms:List Lk} (hF:BE w flo fhi gs ns) (hh:fhi<=w.heap.size) (hn:NsOk ns) (hp:ps.length=P) (hP:P=offN ns (ns.length-1)) (h64:In64 ps) (hq:q<=62)
  (h1:P<=cp) (h2:ms.map Lk.k=Aab (ns.length-1)) (h3:∀ m∈ms,midN ns m.k-offN ns m.k<=m.c) (hg:w.heap.size<=gn) (hA:(∀ p:Addr,Ap=some p->w.heap.size<=p.block)/\(∀ p:Addr,As=some p->w.heap.size<=p.block)/\∀ m∈ms,∀ p:Addr,m.A=some p->w.heap.size<=p.block)
  (hM:Mem W (netP w w.heap.size gn gs q P cp (ns.length-1) cl ns Ap As Al ps ms)):E5 W w.heap.size W.heap.size flo fhi gn gs q ns ps:=by
 have hb:=hM.bel 0 rfl;have hM':Mem W (netR gn gs q P cp (ns.length-1) cl ns Ap As Al ps ms):=(hM.lower (i:=4) rfl (ZZ _)).pick [1,2,3,4,5] _ rfl (by decide);refine ⟨⟨P,cp,cl,Ap,As,Al,ms,hM',⟨h2,h3⟩,hp,hP,h1,fun c hc g hgc=>?_⟩,hF.below hh hb,⟨ZR _,ZT hh hb.size⟩,hn,h64,hq⟩;obtain ⟨i,hi⟩:=List.getElem?_of_mem hc;refine ⟨?_,Ch.lt (hM'.holds i c hi) hgc⟩;simp only [netR,List.mem_cons,Aae,or_false] at hc
 rcases hc with rfl | rfl | rfl | rfl | rfl
 . obtain ⟨_,p,hp,rfl⟩:=hgc;exact hA.1 p hp
 . obtain ⟨_,p,hp,rfl⟩:=hgc;exact hA.2.1 p hp
 . cases hgc;exact hg
 . exact ((hM.own 4 rfl).lt g hgc).1
 . obtain ⟨a,ha,_,p,hp,rfl⟩:=hgc;obtain ⟨m,hm,rfl⟩:=List.mem_map.1 ha;exact hA.2.2 m hm p hp
structure Ln where
 g:Nat
 base:Nat
 cap:Nat
 A:Option Addr
 n:Nat
 c:Nat
 se:Nat
 re:Nat
 pk:Nat
 ms:List Ms
def Ln.ps (l:Ln):List Ch:=[H7 l.g l.A l.n l.c l.cap l.se l.re l.pk,.own l.base 78 6 (Us l.A l.n l.c) l.n (mcells l.ms),AD (lfam l.ms)]
structure Ln.Ok (l:Ln):Prop where
 ok:DK l.n l.cap l.se l.re l.ms
 pk:l.pk<=l.cap
def Ln.q (l:Ln):List (Tg × List Int):=qL l.cap l.se l.re l.ms
structure Mf where
 g:Nat
 u:Nat
 c:Kf
 p:Nat
 ns:List Nat
 flo:Nat
 fhi:Nat
 gs:Nat
 n:Nat
 slo:Nat
 shi:Nat
 gb:Nat
 ds:List Nat
 plo:Nat
 phi:Nat
 gp:Nat
 Ax:Option Addr
 cx:Nat
 xs:List Ex
 Ab:Option Addr
 cb:Nat
structure Mc where
 f:Mf
 B:Nat
 gP:Nat
 cP:Nat
 P:List Int
 gM:Nat
 cM:Nat
 M:List Int
 BG:Nat
 gG:Nat
 G:List Int
 BR:Nat
 Ar:Option Addr
 cr:Nat
 rcd:List Ex
 Ai:Option Addr
 ci:Nat
 t:Nat
 next:Nat
 cnt:Nat
 BO:Nat
 Ao:Option Addr
 co:Nat
 opn:List Nat
def Bo (f:Mf) (t:Nat):List It:=if t<f.c.st then AS f.c f.p t f.u else []
def Mc.its (m:Mc):List It:=Bo m.f m.t
def Mf.ru (f:Mf):Ru:=⟨f.c.ra,f.c.mo,f.c.sh⟩
def Mc.cells (m:Mc):List Value:=[U O m.f.u,U O m.f.c.k,U O m.f.c.mi,.pointer (some ⟨m.f.gs,0,none⟩),Us m.f.Ax m.f.n m.f.cx,.pointer (some ⟨m.f.gb,0,none⟩),.pointer (some ⟨m.f.gp,0,none⟩),Us m.f.Ab (plBs m.f.c m.f.p).length m.f.cb,U O m.f.c.ra,U O m.f.c.mo,U O m.f.c.sh,
 Us (some ⟨m.gP,0,none⟩) m.f.p m.cP,Us (some ⟨m.gM,0,none⟩) m.f.p m.cM,Us (some ⟨m.gG,0,none⟩) m.f.p m.f.p,Us m.Ar m.rcd.length m.cr,Us m.Ai m.its.length m.ci,U O m.next,U O m.cnt,Us m.Ao m.opn.length m.co]
def EN (lo hi gp:Nat) (c:Kf) (p:Nat):Ch:=.st (fun g=>lo<=g/\g<hi) (fun W=>Cx W lo hi gp c p)
def EO (lo hi gb n:Nat) (c:Kf) (ds:List Nat):Ch:=.st (fun g=>lo<=g/\g<hi) (fun W=>Dk W lo hi gb n c.ba c.st ds)
def E6 (lo hi gs:Nat) (ns:List Nat):Ch:=.st (fun g=>lo<=g/\g<hi) (fun W=>BE W lo hi gs ns)
theorem Rq {W:World} {lo hi gp:Nat} {c:Kf} {p:Nat} (h:Cx W lo hi gp c p) (hh:hi<=W.heap.size):(EN lo hi gp c p).Holds W:=⟨h,fun g hg=>by omega,fun _ _ _ hk h=>h.keep fun g h1 h2=>hk g ⟨h1,h2⟩⟩
theorem Rr {W:World} {lo hi gb n:Nat} {c:Kf} {ds:List Nat} (h:Dk W lo hi gb n c.ba c.st ds) (hh:hi<=W.heap.size):(EO lo hi gb n c ds).Holds W:=⟨h,fun g hg=>by omega,fun _ _ _ hk h=>h.keep fun g h1 h2=>hk g ⟨h1,h2⟩⟩
theorem Rs {W:World} {lo hi gs:Nat} {ns:List Nat} (h:BE W lo hi gs ns) (hh:hi<=W.heap.size):(E6 lo hi gs ns).Holds W:=⟨h,fun g hg=>by omega,fun _ _ _ hk h=>h.keep fun g h1 h2=>hk g ⟨h1,h2⟩⟩
def Mc.ps (m:Mc):List Ch:=[.obj m.f.g (.cells m.cells.toArray 169 (0,0)),
 vOwn m.BG m.f.p m.f.p (some ⟨m.gG,0,none⟩) m.G,vOwn m.B m.f.p m.cP (some ⟨m.gP,0,none⟩) m.P,vOwn m.B m.f.p m.cM (some ⟨m.gM,0,none⟩) m.M,
 .own m.BR 89 2 (Us m.Ar m.rcd.length m.cr) m.rcd.length (Bi m.rcd),AD (Bf m.rcd),.rd m.Ai (icells m.its),
 .own m.BO 3 1 (Us m.Ao m.opn.length m.co) m.opn.length (Ah m.opn),.rd m.f.Ab (rcells (plBs m.f.c m.f.p)),.rd m.f.Ax (Bi m.f.xs),AD (Bf m.f.xs),
 EN m.f.plo m.f.phi m.f.gp m.f.c m.f.p,EO m.f.slo m.f.shi m.f.gb m.f.n m.f.c m.f.ds,E6 m.f.flo m.f.fhi m.f.gs m.f.ns]
structure Mf.Ok (f:Mf):Prop where
 c:f.c.Ok
 p:1<=f.p/\f.p<=60
 ns:NsOk f.ns
 pn:f.p=offN f.ns (f.ns.length-1)
 u:f.u<f.c.k
 n:f.n<=1000/\f.c.ba<=f.n
 ru:f.ru.Ok
 xs:f.xs.length=f.n
 ex:∃ a b,f.ns[0]?=some a/\f.ns[f.ns.length-1]?=some b/\∀ e∈f.xs,e.xs.length=a/\e.ys.length=b/\In64 e.xs/\In64 e.ys
 cb:(plBs f.c f.p).length<=f.cb
 cx:f.n<=f.cx
structure Mc.Ok (m:Mc):Prop where
 f:m.f.Ok
 P:m.P.length=m.f.p/\In64 m.P
 M:m.M.length=m.f.p/\In64 m.M
 G:m.G.length=m.f.p/\In64 m.G
 cP:m.f.p<=m.cP
 cM:m.f.p<=m.cM
 rcds:∀ e∈m.rcd,e.xs.length=m.f.p/\e.ys.length=m.f.p
 next:m.t<m.f.c.st->m.next<m.its.length
 end_:m.f.c.st<=m.t->m.next=0
 t:m.t<=m.f.c.st
 recs:m.rcd.length<=m.cnt+1
 opns:m.opn.length<=m.cnt
 ci:m.its.length<=m.ci
theorem Mc.Ok.at_ {m:Mc} (h:m.Ok) (ht:m.t<m.f.c.st):∃ x,m.its[m.next]?=some x/\ItOk m.f.p (plBs m.f.c m.f.p).length m.f.c.k m.f.c.mi m.t x:=by
 obtain ⟨x,hx⟩:=Au m.its m.next (h.next ht);refine ⟨x,hx,?_⟩;have hm:=ZS hx;unfold Mc.its Bo at hm;rw [if_pos ht] at hm;exact FY h.f.c h.f.p.2 x hm
theorem Mc.Ok.none_ {m:Mc} (h:m.Ok) (ht:¬ m.t<m.f.c.st):m.its=[]/\m.next=0:=⟨by unfold Mc.its Bo;rw [if_neg ht],h.end_ (by omega)⟩
attribute [local go_sem] Jp neqT
abbrev Fu:Value:=.agg #[U O 0,U O 0,U O 0,U O 0,U O 0,Us none 0 0]
def msAt (W:World) (b o:Nat) (m:Ms):Prop:=W.cell? ⟨b,o,none⟩=some (U O m.t.step)/\W.cell? ⟨b,o+1,none⟩=some (U O m.t.bucket)/\W.cell? ⟨b,o+2,none⟩=some (U O m.t.phase)/\W.cell? ⟨b,o+3,none⟩=some (U O m.t.round)/\W.cell? ⟨b,o+4,none⟩=some (U O m.t.chunk)/\W.cell? ⟨b,o+5,none⟩=some (Us m.A m.v.length m.c)
theorem Rt {W:World} {B b o k:Nat} {ms:List Ms} {m:Ms} (h:Rd W B (some ⟨b,o,none⟩) (mcells ms)) (hm:ms[k]?=some m):msAt W b (o+k*6) m:=by
 have hl:0<(mcells ms).length:=by
  have:=(List.getElem?_eq_some_iff.1 hm).1;rw [E4];omega
 obtain ⟨b',o',e,_,hc⟩:=h hl;injection e with e
 injection e with e1 e2
 subst e1;subst e2
 have key:∀ i u,m.cells[i]?=some u->W.cell? ⟨b,o+k*6+i,none⟩=some u:=fun i u hu=>by
  rw [ZO];exact hc _ _ (Gg hm hu)
 exact ⟨key 0 _ rfl,key 1 _ rfl,key 2 _ rfl,key 3 _ rfl,key 4 _ rfl,key 5 _ rfl⟩
theorem Ln.ring {l:Ln} {W:World} {R:List Ch} (h:Mem W (l.ps++R)):Rd W W.heap.size l.A (mcells l.ms):=AJ (h.own 1 rfl)
theorem Ln.blk {l:Ln} {W:World} {R:List Ch} (h:Mem W (l.ps++R)):W.heap[l.g]?=some (.cells (BF l.A l.n l.c l.cap l.se l.re l.pk).toArray 172 (0,0)):=h.obj 0 rfl
theorem Rv (w:World) (l:Ln) (R:List Ch) (h:Mem w (l.ps++R)) (ho:l.Ok) (hb:l.se<=1000000000) (hlt:l.re<l.se) (m:Ms) (hm:l.ms[l.re % l.cap]?=some m) :
  Calls Tryz.prog 211 #[.pointer (some ⟨l.g,0,none⟩),.agg m.t.cells.toArray] w fun e w'=>e=.returned (.tuple #[.agg m.cells.toArray,U O 0])/\Mem w' (({ l with re:=l.re+1 }:Ln).ps++R):=by
 obtain ⟨g,base,cap,A,n,c,se,re,pk,ms⟩:=l;dsimp only at *;have hn:=ho.ok.len;have hcap:=ho.ok.cp;dsimp only at hn hcap
 obtain ⟨b,o,rfl,_,_⟩:=Ln.ring h (by
  have:=(List.getElem?_eq_some_iff.1 hm).1
  rw [E4];dsimp only;omega)
 have CP:=K1 (fun (W:World) (h0:Mem W (({ g:=g,base:=base,cap:=cap,A:=some ⟨b,o,none⟩,n:=n,c:=c,se:=se,re:=re,pk:=pk,ms:=ms }:Ln).ps++R))=>LW W g n c cap se re pk (some ⟨b,o,none⟩) ms m (Ln.blk h0) (Ln.ring h0) hn hlt hb hcap.1 hm);have CL:=K1 (fun (W:World) h=>H8 W g n c cap se re pk re (some ⟨b,o,none⟩) h hcap.1 (by omega));have HS:=K1 (fun (W:World) (h0:Rd W W.heap.size (some ⟨b,o,none⟩) (mcells ms))=>Rt h0 hm);have hkn:re % cap<n:=by rw [<- hn];exact (List.getElem?_eq_some_iff.1 hm).1
 generalize re % cap=k at *;obtain ⟨⟨st,bu,ph,ro,ch⟩,mA,mc,mv⟩:=m
 obtain ⟨nv,hnv⟩:∃ nv,nv=mv.length:=⟨_,rfl⟩
 obtain ⟨re1,hre1⟩:∃ re1,re1=re+1:=⟨_,rfl⟩
 have hrei:(re:Int)+1=(re1:Int):=by omega
 have hreb:re1<=1000000000:=by omega
 have wre:IntKind.i64.wrap (re1:Int)=(re1:Int):=ZX _ (by omega);dsimp only [Tg.cells,Ms.cells,msAt] at *;simp only [List.cons_append,List.nil_append];rw [<- hnv] at HS ⊢;rw [<- hre1];have hm0:=((h.alloc (.cells #[U O st,U O bu,U O ph,U O ro,U O ch] 71)).fA.alloc (.cells #[U O 0,U O 0,U O 0,U O 0,U O 0,Us none 0 0] 78)).fA;simp only [ZV] at hm0;have HM:=K1 hm0;clear hm0 h ho hm hn hnv hre1 hb;go_enter Tryz.func211,Tryz.ntmps211;go_wp2_with fail;refine Dw fun W0 hW0=>?_;replace HM:=K1 (hW0.out.symm ▸ HM.out);clear hW0;refine (CP.out _ HM.out.mid.mid).mono ?_;rintro e w1 ⟨rfl,hb⟩
 replace HM:=K1 (HM.out.below hb);clear hb CP;have HF:=K1 ((HM.out.alloc (.cells #[U O st,U O bu,U O ph,U O ro,U O ch] 71)).fA);have c4:=HF.out.cells 3 rfl;have c5:=HF.out.cells 5 rfl;clear HM;go_wp2_with fail;refine A9 fun W2 hW2=>?_;replace HF:=K1 (hW2.out.symm ▸ HF.out);clear hW2 c4 c5
 have HT:=K1 (show ∀ (W:World) (M:List Ch),Mem W M->M[0]?=some (H7 g (some ⟨b,o,none⟩) n c cap se re pk)->M[1]?=some (.own base 78 6 (Us (some ⟨b,o,none⟩) n c) n (mcells ms))->(∀ i,W.cell? ⟨g,i,none⟩=(BF (some ⟨b,o,none⟩) n c cap se re pk)[i]?)/\W.cell? ⟨b,o+k*6,none⟩=some (U O st)/\W.cell? ⟨b,o+k*6+1,none⟩=some (U O bu)/\W.cell? ⟨b,o+k*6+2,none⟩=some (U O ph)/\W.cell? ⟨b,o+k*6+3,none⟩=some (U O ro)/\W.cell? ⟨b,o+k*6+4,none⟩=some (U O ch)/\W.cell? ⟨b,o+k*6+5,none⟩=some (Us mA nv mc) from fun W M h h1 h2=>⟨Af (h.obj 0 h1),HS.out W (AJ (h.own 1 h2))⟩)
 refine AC (.reads [0,1,2,3,4,5,6,7,8,9] (.two 10 13 (.reads [11,12] (.eff 13 (.eff 14 (.fin)))) (.eff 10 (.reads [11,12] (.eff 14 (.fin)))))) 15
  (fun W'=>(∀ i,W'.cell? ⟨g,i,none⟩=(BF (some ⟨b,o,none⟩) n c cap se re pk)[i]?)/\W'.cell? ⟨b,o+k*6,none⟩=some (U O st)/\W'.cell? ⟨b,o+k*6+1,none⟩=some (U O bu)/\W'.cell? ⟨b,o+k*6+2,none⟩=some (U O ph)/\W'.cell? ⟨b,o+k*6+3,none⟩=some (U O ro)/\W'.cell? ⟨b,o+k*6+4,none⟩=some (U O ch)/\W'.cell? ⟨b,o+k*6+5,none⟩=some (Us mA nv mc)) ?_
 replace HF:=K1 HF.out.drew;generalize W2.drew=V at *;refine ZN (HT.out _ _ HF.out rfl rfl) ?_;refine PlS.two_ ?_ ?_
 . refine ZL ?_;go_wp2_with fail;refine (CL.out _ (Af (HF.out.obj 0 rfl))).mono ?_;rintro e w3 ⟨rfl,rfl⟩;go_wp2_with fail;refine ZM (HT.out _ _ HF.out rfl rfl) ?_;refine ZN (HT.out _ _ HF.out rfl rfl) ?_;refine ZL ?_;go_wp2_with fail;refine AH fun W3 hW3=>?_;replace HF:=K1 ((HF.out.alloc_ hW3.out).fA);clear hW3;refine ZM (HT.out _ _ HF.out rfl rfl) ?_;refine ZL ?_;have c6:=HF.out.cells 6 rfl;have f6:=fun j=>HF.out.frozen 6 j rfl
   have HG:=K1 (HF.out.set6 (i:=6) rfl (U O st) (U O bu) (U O ph) (U O ro) (U O ch) (Us mA nv mc));clear HF;go_wp2_with fail;refine ZM (HT.out _ _ HG.out rfl rfl) (ZQ ?_);clear c6 f6;go_wp2_with fail;refine A9 fun W4 hW4=>?_;replace HG:=K1 (hW4.out.symm ▸ HG.out);clear hW4;refine AC (.reads [0,1,2,3,4,5] (.eff 6 (.eff 7 (.reads [8] (.eff 9 (.fin)))))) 9 (fun W'=>∀ i,W'.cell? ⟨g,i,none⟩=(BF (some ⟨b,o,none⟩) n c cap se re pk)[i]?) ?_;replace HG:=K1 HG.out.drew;generalize W4.drew=V4 at *;refine ZN (Af (HG.out.obj 0 rfl)) ?_;refine ZL ?_;go_wp2_with fail;refine ZM (Af (HG.out.obj 0 rfl)) (ZL ?_)
   go_wp2_with fail;refine ZM (Af (HG.out.obj 0 rfl)) ?_;refine ZN (Af (HG.out.obj 0 rfl)) ?_;refine ZL ?_;have c0:=HG.out.cells 0 rfl;have f0:=fun j=>HG.out.frozen 0 j rfl
   replace HG:=K1 (HG.out.set (i:=0) (j:=3) rfl (U O re1));go_wp2_with fail;refine After.last (by decide) (ZQ ?_);clear c0 f0;have c4:=HG.out.cells 4 rfl;have f4:=fun j=>HG.out.frozen 4 j rfl
   have c6:=HG.out.cells 6 rfl;have HH:=K1 (HG.out.set6 (i:=4) rfl (U O st) (U O bu) (U O ph) (U O ro) (U O ch) (Us mA nv mc));go_wp2_with fail;clear c4;have c4:=HH.out.cells 4 rfl;refine bodyPost_ret (v:=.tuple #[.agg #[U O st,U O bu,U O ph,U O ro,U O ch,Us mA nv mc],U O 0]) ?_ rfl ⟨rfl,?_⟩
   . simp [results,Tryz.results211,go_sem,c4]
   . have h5:Mem _ ((({ g:=g,base:=base,cap:=cap,A:=some ⟨b,o,none⟩,n:=n,c:=c,se:=se,re:=re1,pk:=pk,ms:=ms }:Ln).ps++[_,_,_,_])++R):=HH.out;exact h5.mid
 . refine ZL ?_;go_wp2_with fail;refine AH fun W3 hW3=>?_;replace HF:=K1 ((HF.out.alloc_ hW3.out).fA);clear hW3;refine ZM (HT.out _ _ HF.out rfl rfl) ?_;refine ZL ?_;go_wp2_with fail;refine (CL.out _ (Af (HF.out.obj 0 rfl))).mono ?_;rintro e w3 ⟨rfl,rfl⟩;go_wp2_with fail;refine ZM (HT.out _ _ HF.out rfl rfl) ?_;refine ZN (HT.out _ _ HF.out rfl rfl) ?_;refine ZL ?_;have c6:=HF.out.cells 6 rfl;have f6:=fun j=>HF.out.frozen 6 j rfl
   have HG:=K1 (HF.out.set6 (i:=6) rfl (U O st) (U O bu) (U O ph) (U O ro) (U O ch) (Us mA nv mc));clear HF;go_wp2_with fail;refine ZM (HT.out _ _ HG.out rfl rfl) (ZQ ?_);clear c6 f6;go_wp2_with fail;refine A9 fun W4 hW4=>?_;replace HG:=K1 (hW4.out.symm ▸ HG.out);clear hW4;refine AC (.reads [0,1,2,3,4,5] (.eff 6 (.eff 7 (.reads [8] (.eff 9 (.fin)))))) 9 (fun W'=>∀ i,W'.cell? ⟨g,i,none⟩=(BF (some ⟨b,o,none⟩) n c cap se re pk)[i]?) ?_;replace HG:=K1 HG.out.drew;generalize W4.drew=V4 at *;refine ZN (Af (HG.out.obj 0 rfl)) ?_;refine ZL ?_;go_wp2_with fail;refine ZM (Af (HG.out.obj 0 rfl)) (ZL ?_)
   go_wp2_with fail;refine ZM (Af (HG.out.obj 0 rfl)) ?_;refine ZN (Af (HG.out.obj 0 rfl)) ?_;refine ZL ?_;have c0:=HG.out.cells 0 rfl;have f0:=fun j=>HG.out.frozen 0 j rfl
   replace HG:=K1 (HG.out.set (i:=0) (j:=3) rfl (U O re1));go_wp2_with fail;refine After.last (by decide) (ZQ ?_);clear c0 f0;have c4:=HG.out.cells 4 rfl;have f4:=fun j=>HG.out.frozen 4 j rfl
   have c6:=HG.out.cells 6 rfl;have HH:=K1 (HG.out.set6 (i:=4) rfl (U O st) (U O bu) (U O ph) (U O ro) (U O ch) (Us mA nv mc));go_wp2_with fail;clear c4;have c4:=HH.out.cells 4 rfl;refine bodyPost_ret (v:=.tuple #[.agg #[U O st,U O bu,U O ph,U O ro,U O ch,Us mA nv mc],U O 0]) ?_ rfl ⟨rfl,?_⟩
   . simp [results,Tryz.results211,go_sem,c4]
   . have h5:Mem _ ((({ g:=g,base:=base,cap:=cap,A:=some ⟨b,o,none⟩,n:=n,c:=c,se:=se,re:=re1,pk:=pk,ms:=ms }:Ln).ps++[_,_,_,_])++R):=HH.out;exact h5.mid
theorem Rx (w:World) (l:Ln) (R:List Ch) (h:Mem w (l.ps++R)) (hb:l.se<=1000000000) (hlt:l.re=l.se) (t:Tg) :
  Calls Tryz.prog 211 #[.pointer (some ⟨l.g,0,none⟩),.agg t.cells.toArray] w fun e w'=>e=.returned (.tuple #[Fu,U O 12])/\Mem w' (l.ps++R):=by
 obtain ⟨g,base,cap,A,n,c,se,re,pk,ms⟩:=l;dsimp only at *;subst hlt;have CP:=K1 (fun (W:World) (h0:Mem W (({ g:=g,base:=base,cap:=cap,A:=A,n:=n,c:=c,se:=re,re:=re,pk:=pk,ms:=ms }:Ln).ps++R))=>Rf W g n c cap re pk A (Ln.blk h0) hb);obtain ⟨st,bu,ph,ro,ch⟩:=t;dsimp only [Tg.cells] at *;have hm0:=((h.alloc (.cells #[U O st,U O bu,U O ph,U O ro,U O ch] 71)).fA.alloc (.cells #[U O 0,U O 0,U O 0,U O 0,U O 0,Us none 0 0] 78)).fA;simp only [ZV] at hm0;have HM:=K1 hm0;clear hm0 h hb;go_enter Tryz.func211,Tryz.ntmps211;go_wp2_with fail;refine Dw fun W0 hW0=>?_;replace HM:=K1 (hW0.out.symm ▸ HM.out)
 clear hW0;refine (CP.out _ HM.out.mid.mid).mono ?_;rintro e w1 ⟨rfl,hb⟩;replace HM:=K1 (HM.out.below hb);clear hb CP;have hf:=(HM.out.alloc (.cells #[U O 0,U O 0,U O 0,U O 0,U O 0] 71)).fA;have c4:=hf.cells 4 rfl;have f4:=fun j=>hf.frozen 4 j rfl
 have HF:=K1 (hf.set6 (i:=4) rfl (U O 0) (U O 0) (U O 0) (U O 0) (U O 0) (Us none 0 0));clear HM hf;go_wp2_with fail;clear c4;have c4:=HF.out.cells 4 rfl;refine bodyPost_ret (v:=.tuple #[Fu,U O 12]) ?_ rfl ⟨rfl,?_⟩
 . simp [results,Tryz.results211,go_sem,c4]
 . have h5:Mem _ ((({ g:=g,base:=base,cap:=cap,A:=A,n:=n,c:=c,se:=re,re:=re,pk:=pk,ms:=ms }:Ln).ps++[_,_,_])++R):=HF.out;exact h5.mid
theorem Ry (w:World) (l:Ln) (R:List Ch) (h:Mem w (l.ps++R)) (ho:l.Ok) (hb:l.se<=1000000000) (hlt:l.re<l.se) (m:Ms) (hm:l.ms[l.re % l.cap]?=some m) (t:Tg) (hne:m.t≠t) :
  Calls Tryz.prog 211 #[.pointer (some ⟨l.g,0,none⟩),.agg t.cells.toArray] w fun e w'=>e=.returned (.tuple #[Fu,U O 10])/\Mem w' (l.ps++R):=by
 obtain ⟨g,base,cap,A,n,c,se,re,pk,ms⟩:=l;dsimp only at *;have hn:=ho.ok.len;have hcap:=ho.ok.cp;dsimp only at hn hcap;have CP:=K1 (fun (W:World) (h0:Mem W (({ g:=g,base:=base,cap:=cap,A:=A,n:=n,c:=c,se:=se,re:=re,pk:=pk,ms:=ms }:Ln).ps++R))=>LW W g n c cap se re pk A ms m (Ln.blk h0) (Ln.ring h0) hn hlt hb hcap.1 hm);obtain ⟨⟨st,bu,ph,ro,ch⟩,mA,mc,mv⟩:=m;obtain ⟨st',bu',ph',ro',ch'⟩:=t
 have hq:((st:Int) == st' && ((bu:Int) == bu' && ((ph:Int) == ph' && ((ro:Int) == ro' && (ch:Int) == ch'))))=false:=by
  apply Bool.eq_false_iff.2;intro hq;simp only [Bool.and_eq_true,beq_iff_eq] at hq;obtain ⟨q1,q2,q3,q4,q5⟩:=hq;exact hne (by dsimp only;rw [Int.ofNat.inj q1,Int.ofNat.inj q2,Int.ofNat.inj q3,Int.ofNat.inj q4,Int.ofNat.inj q5])
 have hqt:∀ W:World,(binOp .neq 71 (.agg #[U O (st:Int),U O (bu:Int),U O (ph:Int),U O (ro:Int),U O (ch:Int)]) (.agg #[U O (st':Int),U O (bu':Int),U O (ph':Int),U O (ro':Int),U O (ch':Int)])).run Tryz.prog W=.ok (.bool true) W:=fun W=>by
  rw [neqT,hq];rfl
 dsimp only [Tg.cells] at *;have hm0:=((h.alloc (.cells #[U O st',U O bu',U O ph',U O ro',U O ch'] 71)).fA.alloc (.cells #[U O 0,U O 0,U O 0,U O 0,U O 0,Us none 0 0] 78)).fA;simp only [ZV] at hm0;have HM:=K1 hm0;clear hm0 h ho hm hn hb hq hne hcap;go_enter Tryz.func211,Tryz.ntmps211;go_wp2_with fail;refine Dw fun W0 hW0=>?_;replace HM:=K1 (hW0.out.symm ▸ HM.out);clear hW0;refine (CP.out _ HM.out.mid.mid).mono ?_;rintro e w1 ⟨rfl,hb⟩;replace HM:=K1 (HM.out.below hb);clear hb CP;have hf:=(HM.out.alloc (.cells #[U O st,U O bu,U O ph,U O ro,U O ch] 71)).fA;have c3:=hf.cells 3 rfl
 have c5:=hf.cells 5 rfl;have c4:=hf.cells 4 rfl;have f4:=fun j=>hf.frozen 4 j rfl
 have HF:=K1 (hf.set6 (i:=4) rfl (U O 0) (U O 0) (U O 0) (U O 0) (U O 0) (Us none 0 0));clear HM hf;go_wp2_with fail;clear c4;have c4:=HF.out.cells 4 rfl;refine bodyPost_ret (v:=.tuple #[Fu,U O 10]) ?_ rfl ⟨rfl,?_⟩
 . simp [results,Tryz.results211,go_sem,c4]
 . have h5:Mem _ ((({ g:=g,base:=base,cap:=cap,A:=A,n:=n,c:=c,se:=se,re:=re,pk:=pk,ms:=ms }:Ln).ps++[_,_,_])++R):=HF.out;exact h5.mid
end
end Go.Proofs.YtdpojpcoghcieaaGreat
