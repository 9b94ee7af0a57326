/- A part of the proof of TopTags: Mat, MatNew, MatMul, MatBack, MatOuter, Form, RefMulP. Conditions: none. -/
import Derived.Laws.MakeOwn
import Derived.Laws.BitsAllLaws
import Derived.Test.YtdpojpcoghcieaaGreatSxAM
set_option maxHeartbeats 8000000
set_option linter.all false
namespace Go.Proofs.YtdpojpcoghcieaaGreat
open Lib renaming hid → K1
open Go.RowKit Go.Shelf
set_option maxRecDepth 100000
open Value renaming int → U, slice → Us
open IntKind renaming i64 → O
open And renaming intro → Y3
open Nat renaming le_refl → Y4, mul_comm → Y9, reduceAdd → YE, reduceSub → YF, mul_le_mul_right → YK, succ_mul → YL
open Mem renaming start → Y5
open World renaming size_alloc → Y6
open List renaming append_nil → Y7, size_toArray → YB, length_cons → YC, length_nil → YD, push_toArray → YG, append_toArray → YH, nil_append → YI, cons_append → YJ, range → YN, range_succ → YO, zip_toArray → YP, zip_cons_cons → YQ, zip_nil_left → YR, map_append → YS
open Int renaming natCast_mul → Y8, natCast_ediv → YT
open Below renaming refl → YM
section
abbrev matV (r c:Nat) (A:Option Addr) (n cap:Nat):Value:=.agg #[U O r,U O c,Us A n cap]
def matB (g r c:Nat) (A:Option Addr) (n cap:Nat):Ch:=.obj g (.cells #[U O r,U O c,Us A n cap] 333 (0,0))
theorem Lp (w:World) (r c:Nat) (hr:1<=r/\r<=1048576) (hc:1<=c/\c<=1048576) :
  Calls Tryz.prog 239 #[U O r,U O c] w fun e w'=>e=.returned (.bool true)/\w=w':=by
 obtain ⟨hr1,hr2⟩:=hr;obtain ⟨hc1,hc2⟩:=hc;go_enter Tryz.func239,Tryz.ntmps239
 go_wp2
 all_goals
  go_ret;exact ⟨by simp;omega,rfl⟩
theorem Ho (w:World) (r c n cap:Nat) (A:Option Addr) (hr:1<=r/\r<=1048576) (hc:1<=c/\c<=1048576) (hn:n=r*c) (hn2:n<=1048576) :
  Calls Tryz.prog 230 #[matV r c A n cap] w fun e w'=>e=.returned (.bool true)/\Below w.heap.size w w':=by
 have CS:=K1 (fun W=>Lp W r c hr hc);have HM:=K1 ((Y5 w).alloc (.cells #[U O r,U O c,Us A n cap] 333));have e1:(r:Int)*(c:Int)=(n:Int):=by rw [hn,Y8]
 clear hn;go_enter Tryz.func230,Tryz.ntmps230;have c0:=HM.out.cells 1 rfl;go_wp2_with fail
 (with_reducible refine (CS.out _).mono ?_)
 rintro e w1 ⟨rfl,rfl⟩;clear CS;go_wp2_with fail
 all_goals
  go_ret;exact ⟨rfl,HM.out.bel 0 rfl⟩
theorem Qe (w:World) (A:Option Addr) (r c n cap k lo:Nat) (hlo:lo=k*c) (hc:1<=c) (hn:lo+c<=n) (hcap:n<=cap) (hm:n<=1048576) (hk:k<=1048576) :
  Calls Tryz.prog 245 #[matV r c A n cap,U O k] w fun e w'=>e=.returned (Us (A.map fun p=>p.add lo) c c)/\Below w.heap.size w w':=by
 have HM:=K1 ((Y5 w).alloc (.cells #[U O r,U O c,Us A n cap] 333))
 obtain ⟨hi,hhi⟩:∃ hi,hi=lo+c:=⟨_,rfl⟩
 have e1:(k:Int)*(c:Int)=(lo:Int):=by rw [hlo,Y8]
 have e2:((k:Int)+1)*(c:Int)=(hi:Int):=by rw [Int.add_mul,e1];omega
 have h1:lo<=hi:=by omega
 have h2:hi<=cap:=by omega
 have h3:hi<=1048576:=by omega
 have h4:¬ hi=lo:=by omega
 have h5:hi-lo=c:=by omega
 have h6:(hi:Int)-(lo:Int)=(c:Int):=by omega
 clear hlo hhi hn;have c0:=HM.out.cells 1 rfl;go_enter Tryz.func245,Tryz.ntmps245;go_wp2_with fail
 go_region
 go_wp2_with fail;go_ret;exact ⟨rfl,Cs (HM.out.bel 0 rfl)⟩
theorem Jg (A:Option Addr) (r c n cap:Nat) (w:World) :
  Calls Tryz.prog 235 #[matV r c A n cap] w fun e w'=>e=.returned (.func (.func 244) #[] #[.pointer (some ⟨w.heap.size,0,none⟩)])/\w'=w.alloc (.cells #[U O r,U O c,Us A n cap] 333):=by
 go_enter Tryz.func235,Tryz.ntmps235
 go_wp2
 go_ret;exact ⟨rfl,rfl⟩
def Ev (A:Option Addr) (c k:Nat):Array Value:=#[U O k,Us (A.map fun p=>p.add (k*c)) c c]
theorem Jh (n l Bm r c N cap:Nat) (A:Option Addr) (hc:1<=c) (hN:N=r*c) (hcap:N<=cap) (hm:N<=1048576) (hr:r<=1048576) (J:Nat->World->Prop)
  (hE:∀ k W,J k W->∀ i,W.cell? ⟨Bm,i,none⟩=([U O r,U O c,Us A N cap]:List Value)[i]?) (hJ:∀ k W W',J k W->Below W.heap.size W W'->J k W')
  (hY:∀ k W,k<r->J k W->YieldAt Fence.wide (n-1) Tryz.prog l (Ev A c k) W fun e W'=>e=.returned (.bool true)/\J (k+1) W')
  (W:World) (h0:J 0 W):CallsIn Fence.wide n Tryz.prog 244 #[.func (.yield l) #[] #[],.pointer (some ⟨Bm,0,none⟩)] W fun e W'=>(∃ v,e=.returned v)/\J r W':=by
 have HE:=K1 hE;have HJ:=K1 hJ;have HY:=K1 hY;have HN:=K1 hN;have c1:=hE _ _ h0;clear hE hJ hY hN;refine callsIn_of_wp Tryz.func244 rfl trivial ?_ rfl;simp only [Tryz.ntmps244,YB,YC,YD,YE,YF,Array.replicate_succ,Array.replicate_zero,YG,YH,YI,YJ]
 gi_wp2_with fail
 gi_loopw [6] (fun i wr=>∃ k:Nat,k<=r/\i=U O k/\Hid (J k wr)) (fun i _=>r-(intOf i).toNat)
 case atStart=>exact ⟨0,Nat.zero_le _,rfl,K1 h0⟩
 case round =>
  clear c1 h0;obtain ⟨k,hk,rfl,HS⟩:=hrel
  by_cases hlt:k<r
  . have c1:=HE.out _ _ HS.out;have hle:=YK c (show k+1<=r by omega);rw [YL] at hle;have CR:=K1 (Qe wr A r c N cap k (k*c) rfl hc (by rw [HN.out];exact hle) hcap hm (by omega));clear hle
    gi_wp2_with fail
    refine ⟨trivial,fun h=>(by cases h),(callsIn_wide.2 CR.out).mono ?_⟩;rintro e' w3 ⟨rfl,hb3⟩;have J3:=HJ.out _ _ _ HS.out hb3;obtain ⟨fn,tmps,assign,body,hy,hR⟩:=HY.out k w3 hlt J3;unfold Ev at hy;clear J3 hb3 HS c1 CR
    gi_wp2_with fail
    refine ⟨fun h=>(by cases h),hR.mono ?_⟩;rintro e' w4 ⟨rfl,hJ4⟩;have H4:=K1 hJ4;clear hJ4 hy hR
    gi_wp2_with fail
    go_roundw
    case rel=>exact ⟨k+1,by omega,by go_num,H4⟩
    case measure=>simp [intOf];omega
  . have hkr:k=r:=by omega
    subst hkr
    gi_wp2_with fail
    go_end0
    exact ⟨⟨_,rfl⟩,HS.out⟩
end
section
open Go.RowKit
abbrev AE (n:Nat):List Int:=List.replicate n 0
def Ew (n:Nat):Obj:=.cells (zC (AE n)).toArray 2 (0,0)
theorem Fl (n:Nat):In64 (AE n):=fun z hz=>by
 rw [List.eq_of_mem_replicate hz];omega
theorem Lq (n:Nat):madeCells #[U O 0] n=(zC (AE n)).toArray:=by
 have h:=toList_madeCells_one (U O 0) n;apply Array.ext';rw [h];simp
theorem Ga (n:Nat) (hn:n<=1048576) (W:World):(Instr.makeSlice 87 (U O (n:Int)) (U O (n:Int))).run Tryz.prog W=.ok (Us (some ⟨W.heap.size,0,none⟩) n n) (W.alloc (Ew n)):=by
 obtain ⟨i0,hi,hz0,hz1,hz2⟩:=info_parts IG;have hr:=run_make (P:=Tryz.prog) W 87 2 i0 (U O 0) Tryz.underlying87 hi hz0 .i64 .i64 n n (by omega) (by omega) (by rw [hz2];omega) (by omega);have e:Ew n=.cells (madeCells #[U O 0] n) 2 (0,0):=by rw [Lq];rfl
 rw [e]
 simpa [hz1,Value.cells] using hr
theorem Qf (w:World) (n:Nat) (hn:n<=1048576):(w.alloc (Ew n)).ownsRow w.heap.size 2 1 (Us (some ⟨w.heap.size,0,none⟩) n n) n (zC (AE n)) :=
 ⟨by simp,.inr ⟨w.heap.size,n,(zC (AE n)).toArray,rfl,Y4 _,heap_alloc_new w _,Y4 _,by simp [maxLen];omega,by simp,by simp⟩⟩
theorem Mem.zero {w:World} {L:List Ch} (h:Mem w L) (n:Nat) (hn:n<=1048576):Mem (w.alloc (Ew n)) (L++[.own w.heap.size 2 1 (Us (some ⟨w.heap.size,0,none⟩) n n) n (zC (AE n))]) :=
 h.push_own ((YM _ _).alloc (Y4 _) _) (Qf w n hn) rfl
theorem Qg (w:World) (r c n:Nat) (hr:1<=r/\r<=1048576) (hc:1<=c/\c<=1048576) (hn:n=r*c) (hn2:n<=1048576) :
  Calls Tryz.prog 234 #[U O r,U O c] w fun e w'=>∃ g,e=.returned (matV r c (some ⟨g,0,none⟩) n n)/\w'.ownsRow w.heap.size 2 1 (Us (some ⟨g,0,none⟩) n n) n (zC (AE n))/\Below w.heap.size w w':=by
 have CS:=K1 (fun W=>Lp W r c hr hc);have HM:=K1 ((Y5 w).alloc (.cells #[U O 0,U O 0,Us none 0 0] 333));have e1:(r:Int)*(c:Int)=(n:Int):=by rw [hn,Y8]
 have hmk:=Ga n hn2;have HN:=K1 hn2;clear hn;go_enter Tryz.func234,Tryz.ntmps234;go_wp2_with fail
 (with_reducible refine (CS.out _).mono ?_)
 rintro e w1 ⟨rfl,rfl⟩;clear CS;go_wp2_with fail;have hm:=K1 (((Y5 w).alloc (.cells #[U O r,U O c,Us (some ⟨w.heap.size+1,0,none⟩) n n] 333)).zero n HN.out);have c0:=hm.out.cells 1 rfl;have h2:=hm.out.own 2 rfl;simp only [Y6] at h2;refine bodyPost_ret (v:=matV r c (some ⟨w.heap.size+1,0,none⟩) n n) ?_ rfl ⟨_,rfl,DG (by omega) h2,hm.out.bel 0 rfl⟩;simp [results,Tryz.results234,go_sem,c0]
theorem Qh (w:World) (r c n cap:Nat) (A:Option Addr) (zs:List Int) (hr:1<=r/\r<=1048576) (hc:1<=c/\c<=1048576) (hn:n=r*c) (hn2:n<=1048576) (hA:Rd w w.heap.size A (zC zs)) (hz:zs.length=n) :
  Calls Tryz.prog 219 #[U O r,U O c,Us A n cap] w fun e w'=>∃ A' c',e=.returned (.tuple #[matV r c A' n c',.bool true])/\w'.ownsRow w.heap.size 2 1 (Us A' n c') n (zC zs)/\n<=c'/\Below w.heap.size w w':=by
 have CR:=K1 (fun W A' c'=>Ho W r c n c' A' hr hc hn hn2);have HM:=K1 (((Y5 w).add_rd (i:=0) rfl hA).alloc (.cells #[U O 0,U O 0,Us none 0 0] 333));have CC:=K1 (fun W (hW:Rd W W.heap.size A (zC zs))=>Eu A n cap zs W hW hz (by omega));clear hn hA;go_enter Tryz.func219,Tryz.ntmps219;go_wp2_with fail
 (with_reducible refine (CC.out _ (HM.out.rd 1 rfl)).mono ?_)
 rintro e w1 ⟨A',c',rfl,ho,hc',hb⟩;replace HM:=K1 (HM.out.push_own hb ho rfl);clear hb ho CC;go_wp2_with fail;replace HM:=K1 (HM.out.alloc (.cells #[U O r,U O c,Us A' n c'] 333));have c0:=HM.out.cells 4 rfl
 (with_reducible refine (CR.out _ _ _).mono ?_)
 rintro e w2 ⟨rfl,hb⟩;replace HM:=K1 (HM.out.below hb);clear hb CR c0;have c0:=HM.out.cells 4 rfl;have c1:=HM.out.cells 2 rfl;have f1:=fun j=>HM.out.frozen 2 j rfl
 go_wp2_with fail;have hm:=K1 (((HM.out.set (i:=2) (j:=0) rfl (U O r)).set (i:=2) (j:=1) rfl (U O c)).set (i:=2) (j:=2) rfl (Us A' n c'));clear c0 c1 HM;have c0:=hm.out.cells 2 rfl;have h2:=hm.out.own 3 rfl;refine bodyPost_ret (v:=.tuple #[matV r c A' n c',.bool true]) ?_ rfl ⟨_,_,rfl,DG (by simp) h2,hc',hm.out.bel 0 rfl⟩;simp [results,Tryz.results219,go_sem,c0]
end
section
open Go.RowKit Go.Shelf
attribute [local go_sem] Oper.semAt_some
theorem EJ (l:List Int) (a b:Nat):zC (subL l a b)=subL (zC l) a b:=by simp [subL,List.map_take,List.map_drop]
theorem In64.sub {l:List Int} (h:In64 l) (a b:Nat):In64 (subL l a b):=fun z hz=>h z (List.mem_of_mem_drop (List.mem_of_mem_take hz))
def rowL (vs:List Int) (c k:Nat):List Int:=subL vs (k*c) (k*c+c)
theorem Hp {vs:List Int} {r c k:Nat} (hv:vs.length=r*c) (hk:k<r):(rowL vs c k).length=c:=by
 have hle:=YK c (show k+1<=r by omega);rw [YL] at hle;rw [rowL,Dc (by omega) (by omega)];omega
def mvL (vs xs:List Int) (c q k:Nat):List Int:=(YN k).map fun i=>Cy (rowL vs c i) xs q c
theorem Qi (vs xs:List Int) (c q k:Nat):mvL vs xs c q (k+1)=mvL vs xs c q k++[Cy (rowL vs c k) xs q c]:=by simp [mvL,YO]
theorem Gb (vs xs:List Int) (c q k:Nat):(mvL vs xs c q k).length=k:=by simp [mvL]
theorem Qj (xs ys:List Int) (q:Nat):∀ k,-9223372036854775808<=Cy xs ys q k/\Cy xs ys q k<=9223372036854775807
 | 0=>by simp [Cy]
 | k+1=>DJ _
theorem Qk (vs xs:List Int) (c q k:Nat):In64 (mvL vs xs c q k):=fun z hz=>by
 obtain ⟨i,_,rfl⟩:=List.mem_map.1 hz;exact Qj _ _ _ _
theorem Mem.row {W:World} {L:List Ch} {A:Option Addr} {vs:List Int} {i r c k:Nat} (h:Mem W L) (hi:L[i]?=some (.rd A (zC vs))) (hv:vs.length=r*c) (hk:k<r) (hc:1<=c) :
  Rd W W.heap.size (A.map fun p=>p.add (k*c)) (zC (rowL vs c k)):=by
 have hle:=YK c (show k+1<=r by omega);rw [YL] at hle;have h1:=(h.rd i hi).sub (k*c) (k*c+c) (by rw [Br,hv];exact hle);rw [if_neg (by omega)] at h1;rw [rowL,EJ];exact h1
def mulS (w:World) (gr:Nat) (r c n cap q cx:Nat) (A X:Option Addr) (vs xs:List Int) (g8 k:Nat) (L:List Ch):Prop :=
 ∃ Ao co,L=[.bel w.heap.size w,.rd A (zC vs),.rd X (zC xs),.obj (w.heap.size+1) (.cells #[Us X c cx] 87 (0,0)),.obj (w.heap.size+2) (.cells #[U O q] 3 (0,0)),matB gr r c A n cap,
   .obj g8 (.cells #[Us Ao k co] 87 (0,0)),.own w.heap.size 2 1 (Us Ao k co) k (zC (mvL vs xs c q k))]
theorem Ql (w:World) (r c n cap q cx:Nat) (A X:Option Addr) (vs xs:List Int) (hr:1<=r/\r<=1048576) (hc:1<=c/\c<=1048576) (hn:n=r*c) (hn2:n<=1048576) (hcap:n<=cap) (hcx:c<=cx) (hA:Rd w w.heap.size A (zC vs)) (hX:Rd w w.heap.size X (zC xs)) (hv:vs.length=n) (hx:xs.length=c) (h1:In64 vs) (h2:In64 xs) (hq:q<=62) :
  Calls Tryz.prog 242 #[matV r c A n cap,Us X c cx,U O q] w fun e w'=>∃ Ao co,e=.returned (.tuple #[Us Ao r co,.bool true])/\w'.ownsRow w.heap.size 2 1 (Us Ao r co) r (zC (mvL vs xs c q r))/\r<=co/\Below w.heap.size w w':=by
 have CR:=K1 (fun W=>Ho W r c n cap A hr hc hn hn2);have CW:=K1 (fun W=>Jg A r c n cap W);have CD:=K1 (fun (W:World) (R:Option Addr) (k:Nat) (hk:k<r) (hR:Rd W W.heap.size R (zC (rowL vs c k))) (hX:Rd W W.heap.size X (zC xs))=>PP W R X c c cx q (rowL vs c k) xs hR hX (Hp (hv.trans hn) hk) hx (h1.sub _ _) h2 hq (by omega) (Y4 _) hcx);have HV:=K1 (Y3 (hv.trans hn) hn);have HMS:=K1 (Qi vs xs c q)
 have hm:=((((Y5 w).add_rd (i:=0) rfl hA).add_rd (i:=0) rfl hX).alloc (.cells #[U O r,U O c,Us A n cap] 333)).alloc (.cells #[Us X c cx] 87) |>.alloc (.cells #[U O q] 3)
 simp only [Y6] at hm;have HM:=K1 hm;clear hm hA hX hv hx h1 h2 hn;refine (callsIn_wide (n:=5)).1 ?_;refine callsIn_of_wp_marks Tryz.func242 rfl trivial ?_ rfl;simp only [Tryz.ntmps242,YB,YC,YD,YE,YF,Array.replicate_succ,Array.replicate_zero,YG,YH,YI,YJ];have c3:=HM.out.cells 3 rfl;have c4:=HM.out.cells 4 rfl
 gi_wp2_with fail
 refine ⟨trivial,(callsIn_wide.2 (CR.out _)).mono ?_⟩;rintro e w1 ⟨rfl,hb⟩;replace HM:=K1 (HM.out.below hb);clear hb c3 c4 CR;have c3:=HM.out.cells 3 rfl;have c4:=HM.out.cells 4 rfl;have HM2:=K1 (HM.out.alloc (.cells #[Us none 0 0] 87));have c5:=HM2.out.cells 3 rfl
 gi_wp2_with fail
 replace HM:=HM2;clear c3 c4 c5 HM2;refine ⟨trivial,(callsIn_wide.2 (CW.out _)).mono ?_⟩;rintro e w2 ⟨rfl,rfl⟩;have hm:=HM.out.alloc (.cells #[U O r,U O c,Us A n cap] 333);simp only [Y6] at hm;replace HM:=K1 (hm.add (c:=.own w.heap.size 2 1 (Us none 0 0) 0 (zC (mvL vs xs c q 0))) ⟨Bh _ _ _ _,Nat.le_trans (hm.bel 0 rfl).size (Y4 _)⟩ (fun _ _ _ _ g hg=>by cases hg));clear hm
 gi_wp2_with fail
 obtain ⟨g8,hg8⟩:∃ g,g=w1.heap.size:=⟨_,rfl⟩
 rw [<- hg8] at HM ⊢;clear hg8;refine IN rfl (fun _ _=>by go_simp) (mulS w (g8+1) r c n cap q cx A X vs xs g8) r (Ev A c) ⟨_,⟨none,0,rfl⟩,HM.out.pick [0,1,2,4,5,7,6,8] _ rfl (by decide)⟩ (fun _=>rfl) ?_ ?_ ?_
 . intro l J hE hJ hY W h0
   exact Jh _ l (g8+1) r c n cap A hc.1 HV.out.2 hcap hn2 hr.2 J (fun k W h=>by
    obtain ⟨L,M,⟨Ao,co,rfl⟩,hM⟩:=hE k W h
    exact hM.cells 5 rfl) hJ hY W h0
 . rintro k D l o L W hk ⟨Ao,co,rfl⟩ hM;have HM:=K1 hM;clear hM;unfold Ev;simp only [YP,YQ,YR]
   gi_wp2_with fail
   refine ⟨[],by rw [Y7];exact HM.out,fun o' w2 hM2=>?_⟩;rw [Y7] at hM2;have HM2:=K1 hM2;clear hM2 HM;have CK:=K1 (CD.out w2 _ k hk (HM2.out.row (i:=1) rfl HV.out.1 hk hc.1) (HM2.out.rd 2 rfl));have HS:=K1 (show zC (mvL vs xs c q (k+1))=zC (mvL vs xs c q k)++[U O (Cy (rowL vs c k) xs q c)] by rw [HMS.out];simp);generalize Cy (rowL vs c k) xs q c=y at *;have c1:=HM2.out.cell 3 0 rfl rfl;have c2:=HM2.out.cell 4 0 rfl rfl
   gi_wp2_with fail
   refine ⟨trivial,(callsIn_wide.2 CK.out).mono ?_⟩;rintro e w3 ⟨rfl,hb⟩;have HM3:=K1 (HM2.out.below hb);clear hb HM2 CK c1 c2;have HM4:=K1 (HM3.out.alloc (.cells #[U O y] 2));have c3:=HM3.out.cell 6 0 rfl rfl;have hk2:k<=1048576:=by omega
   gi_wp2_with (gi_at_builtin;refine NG rfl _ _ 87 rfl HM4.out 7 Ka rfl rfl _ 1 _ [U O y] rfl (HM4.out.box 10 rfl) rfl (by intro u hu;simp at hu;subst hu;rfl) (by omega) ?_;intro A' c' W5 hM5;have HM5:=K1 hM5;have c4:=hM5.cell 6 0 rfl rfl;have f4:=hM5.frozen 6 0 rfl;clear hM5 HM4 HM3 c3)
   have hF:=HM5.out.set (i:=6) (j:=0) rfl (Us A' (k+1) c');exact ⟨_,[_],⟨A',c',rfl⟩,by rw [HS.out];exact hF⟩
 . rintro D l o L W ⟨Ao,co,rfl⟩ hM;have HM:=K1 hM;clear hM;have c0:=HM.out.cell 6 0 rfl rfl
   gi_wp2_with fail
   refine ⟨by simp,.inl ⟨_,_,rfl,run_takeDeferred (HM.out.obj 8 rfl),?_⟩⟩;have hF:=HM.out.put (i:=8) rfl (.deferred none);exact ⟨_,results_tmp2 rfl _ _ _,Ao,co,rfl,hF.own 7 rfl,Be (hF.own 7 rfl),hF.bel 0 rfl⟩
end
section
open List renaming filterMap_cons → p1, filterMap_nil → p2, getElem?_cons_zero → p3, getElem?_cons_succ → p4
open Go.RowKit Go.Shelf
attribute [local go_sem] Oper.semAt_some
def Cp (vs ys:List Int) (c q:Nat):Nat->List Int
 | 0=>AE c
 | k+1=>Bn 0 (Dd (rowL vs c k) (ys[k]?.getD 0) q c) (Cp vs ys c q k) c
theorem EK (vs ys:List Int) (c q:Nat):∀ k,(Cp vs ys c q k).length=c
 | 0=>by simp [Cp]
 | k+1=>by rw [Cp,D4,EK vs ys c q k]
theorem Lr (vs ys:List Int) (c q:Nat):∀ k,In64 (Cp vs ys c q k)
 | 0=>Fl c
 | k+1=>FX (Lr vs ys c q k) _
def Qm (w:World) (g3 g8 gz gr:Nat) (r c n cap q cy:Nat) (A Y:Option Addr) (vs ys:List Int) (k:Nat) (L:List Ch):Prop :=
 L=[.bel w.heap.size w,.rd A (zC vs),.rd Y (zC ys),.obj (g3+1) (.cells #[Us Y r cy] 87 (0,0)),.obj (g3+2) (.cells #[U O q] 3 (0,0)),matB gr r c A n cap,
   .obj g8 (.cells #[Us (some ⟨gz,0,none⟩) c c] 87 (0,0)),.own gz 2 1 (Us (some ⟨gz,0,none⟩) c c) c (zC (Cp vs ys c q k))]
theorem Qn (w:World) (r c n cap q cy:Nat) (A Y:Option Addr) (vs ys:List Int) (hr:1<=r/\r<=1048576) (hc:1<=c/\c<=1048576) (hn:n=r*c) (hn2:n<=1048576) (hcap:n<=cap) (hA:Rd w w.heap.size A (zC vs)) (hY:Rd w w.heap.size Y (zC ys)) (hv:vs.length=n) (hy:ys.length=r) (h1:In64 vs) (h2:In64 ys) (hq:q<=62) :
  Calls Tryz.prog 226 #[matV r c A n cap,Us Y r cy,U O q] w fun e w'=>∃ gz,e=.returned (.tuple #[Us (some ⟨gz,0,none⟩) c c,.bool true])/\w'.ownsRow w.heap.size 2 1 (Us (some ⟨gz,0,none⟩) c c) c (zC (Cp vs ys c q r))/\Below w.heap.size w w':=by
 have CR:=K1 (fun W=>Ho W r c n cap A hr hc hn hn2);have CW:=K1 (fun W=>Jg A r c n cap W);have CS:=K1 (fun (W:World) (R:Option Addr) (k:Nat) (y:Int) (hk:k<r) (hR:Rd W W.heap.size R (zC (rowL vs c k))) (hyy:-9223372036854775808<=y/\y<=9223372036854775807)=>PQ W R c c q y (rowL vs c k) hR (Hp (hv.trans hn) hk) (h1.sub _ _) hyy hq (by omega));have HV:=K1 (Y3 (hv.trans hn) (Y3 hn (Y3 hy (Y3 h1 h2))));have hmk:=Ga c hc.2
 have hm:=((((Y5 w).add_rd (i:=0) rfl hA).add_rd (i:=0) rfl hY).alloc (.cells #[U O r,U O c,Us A n cap] 333)).alloc (.cells #[Us Y r cy] 87) |>.alloc (.cells #[U O q] 3)
 simp only [Y6] at hm;have HM:=K1 hm;clear hm hA hY hv hy h1 h2 hn;refine (callsIn_wide (n:=5)).1 ?_;refine callsIn_of_wp_marks Tryz.func226 rfl trivial ?_ rfl;simp only [Tryz.ntmps226,YB,YC,YD,YE,YF,Array.replicate_succ,Array.replicate_zero,YG,YH,YI,YJ];have c3:=HM.out.cells 3 rfl;have c4:=HM.out.cells 4 rfl
 gi_wp2_with fail
 refine ⟨trivial,(callsIn_wide.2 (CR.out _)).mono ?_⟩;rintro e w1 ⟨rfl,hb⟩;replace HM:=K1 (HM.out.below hb);clear hb c3 c4 CR;have HGZ:=K1 (HM.out.bel 0 rfl).size;have c3:=HM.out.cells 3 rfl;have c4:=HM.out.cells 4 rfl;have hm2:=(HM.out.zero c hc.2).alloc (.cells #[Us (some ⟨w1.heap.size,0,none⟩) c c] 87);simp only [Y6] at hm2;have HM2:=K1 hm2;have c5:=hm2.cells 3 rfl;clear hm2
 gi_wp2_with fail
 replace HM:=HM2;clear c3 c4 c5 HM2;refine ⟨trivial,(callsIn_wide.2 (CW.out _)).mono ?_⟩;rintro e w2 ⟨rfl,rfl⟩;have hm:=HM.out.alloc (.cells #[U O r,U O c,Us A n cap] 333);simp only [Y6] at hm;replace HM:=K1 hm;clear hm
 gi_wp2_with fail
 refine IN rfl (fun _ _=>by go_simp) (Qm w w.heap.size (w1.heap.size+1) w1.heap.size (w1.heap.size+1+1) r c n cap q cy A Y vs ys) r (Ev A c) ⟨_,rfl,HM.out.pick [0,1,2,4,5,8,7,6] _ rfl (by decide)⟩ (fun _=>rfl) ?_ ?_ ?_
 . intro l J hE hJ hY W h0
   exact Jh _ l _ r c n cap A hc.1 HV.out.2.1 hcap hn2 hr.2 J (fun k W h=>by
    obtain ⟨L,M,rfl,hM⟩:=hE k W h
    exact hM.cells 5 rfl) hJ hY W h0
 . rintro k D l o L W hk rfl hM;have HM:=K1 hM;clear hM;unfold Ev;simp only [YP,YQ,YR]
   gi_wp2_with fail
   refine ⟨[],by rw [Y7];exact HM.out,fun o' w2 hM2=>?_⟩;rw [Y7] at hM2;have HM2:=K1 hM2;clear hM2 HM;obtain ⟨y,hyk⟩:=Au ys k (by have:=HV.out.2.2.1;omega);obtain ⟨bY,oY,rfl,_⟩:=HM2.out.rd 2 rfl (by rw [Br];have:=HV.out.2.2.1;omega);have CK:=K1 (fun W hR=>CS.out W (A.map fun p=>p.add (k*c)) k y hk hR (HV.out.2.2.2.2.at_ hyk));have HS:=K1 (show Cp vs ys c q (k+1)=Bn 0 (Dd (rowL vs c k) y q c) (Cp vs ys c q k) c by rw [Cp,hyk];rfl);have HYK:=K1 (Bk hyk);have HSL:=K1 (show (Dd (rowL vs c k) y q c).length=c by rw [Hl];exact Hp HV.out.1 hk);have HBL:=K1 (EK vs ys c q k);clear hyk CS
   generalize Cp vs ys c q k=bs at *;have HR:=K1 (HM2.out.drew.row (i:=1) rfl HV.out.1 hk hc.1)
   gi_wp2_with fail
   refine KH [0,1,2,3,4,5,6] [7,8] (fun W'=>W'.cell? ⟨w1.heap.size+1,0,none⟩=some (Us (some ⟨w1.heap.size,0,none⟩) c c)/\W'.cell? ⟨w.heap.size+1,0,none⟩=some (Us (some ⟨bY,oY,none⟩) r cy)/\W'.cell? ⟨w.heap.size+2,0,none⟩=some (U O q)/\W'.cell? ⟨bY,oY+k,none⟩=some (U O y))
    (by kernel_rfl) (by kernel_rfl) (by kernel_rfl) (by kernel_rfl) (by intro d v c a w h;cases d <;> exact h) (by decide) (by rintro ⟨_,_,h⟩;exact h) ⟨HM2.out.drew.cell 6 0 rfl rfl,HM2.out.drew.cell 3 0 rfl rfl,HM2.out.drew.cell 4 0 rfl rfl,HM2.out.drew.rdAt 2 rfl HYK.out⟩ ?_
   simp only [AW,p1,p2,p3,p4];apply Exists.intro;apply Y3
   . intro W' hS;obtain ⟨s1,s2,s3,s4⟩:=hS
     repeat still_step
     exact wpStill_nil rfl
   replace HM2:=K1 HM2.out.drew;refine Spine.step ?_;go_wp2_with fail
   (with_reducible refine (CK.out _ HR.out).mono ?_)
   rintro e w3 ⟨A3,cc,rfl,ho,hcc,hb⟩;have HM3:=K1 (HM2.out.push_rd hb (AJ ho) (AF ho));clear hb ho HM2 CK;go_wp2_with fail;refine Behind.go ⟨HM3.out.cell 6 0 rfl rfl,HM3.out.cell 3 0 rfl rfl,HM3.out.cell 4 0 rfl rfl,HM3.out.rdAt 2 rfl HYK.out⟩ (Spine.step ?_);go_wp2_with fail;refine (Hk w3 _ HM3.out 7 10 w1.heap.size c c 0 c c cc (some ⟨w1.heap.size,0,none⟩) (some ⟨w1.heap.size,0,none⟩) A3 bs _ rfl rfl HSL.out (by have:=HBL.out;omega) HBL.out (fun _=>rfl) (Y4 _) hcc (by omega)).mono ?_;rintro e w4 ⟨rfl,hm4⟩;rw [<- HS.out] at hm4;have HM4:=K1 hm4;clear hm4 HM3;go_wp2_with fail
   refine Behind.go ⟨HM4.out.cell 6 0 rfl rfl,HM4.out.cell 3 0 rfl rfl,HM4.out.cell 4 0 rfl rfl,HM4.out.rdAt 2 rfl HYK.out⟩ (Spine.nil_ ?_);exact ⟨_,[_],rfl,HM4.out⟩
 . rintro D l o L W rfl hM;have HM:=K1 hM;clear hM;have c0:=HM.out.cell 6 0 rfl rfl
   gi_wp2_with fail
   refine ⟨by simp,.inl ⟨_,_,rfl,run_takeDeferred (HM.out.obj 8 rfl),?_⟩⟩;have hF:=HM.out.put (i:=8) rfl (.deferred none);exact ⟨_,results_tmp2 rfl _ _ _,_,rfl,DG HGZ.out (hF.own 7 rfl),hF.bel 0 rfl⟩
end
section
open List renaming filterMap_cons → p1, filterMap_nil → p2, getElem?_cons_zero → p3, getElem?_cons_succ → p4
open Go.RowKit Go.Shelf
attribute [local go_sem] Oper.semAt_some
def Do (ys xs:List Int) (q c k:Nat) (l:List Int):Nat->List Int
 | 0=>l
 | j+1=>(Do ys xs q c k l j).set (k*c+j) (mulF (ys[k]?.getD 0) (xs[j]?.getD 0) q)
def BA (ys xs:List Int) (q c n:Nat):Nat->List Int
 | 0=>AE n
 | k+1=>Do ys xs q c k (BA ys xs q c n k) c
theorem Hr (ys xs:List Int) (q c k:Nat) (l:List Int):∀ j,(Do ys xs q c k l j).length=l.length
 | 0=>rfl
 | j+1=>by rw [Do,List.length_set,Hr ys xs q c k l j]
theorem D5 (ys xs:List Int) (q c n:Nat):∀ k,(BA ys xs q c n k).length=n
 | 0=>by simp [BA]
 | k+1=>by rw [BA,Hr,D5 ys xs q c n k]
def outP (w:World) (g3 g7 gz gr:Nat) (r c n q cy cx:Nat) (Y X:Option Addr) (ys xs:List Int) (l:List Int):List Ch :=
 [.bel w.heap.size w,.rd Y (zC ys),.rd X (zC xs),.obj g3 (.cells #[Us Y r cy] 87 (0,0)),.obj (g3+1) (.cells #[Us X c cx] 87 (0,0)),.obj (g3+2) (.cells #[U O q] 3 (0,0)),
  .obj (g3+3) (.cells #[U O 0,U O 0,Us none 0 0] 333 (0,0)),matB g7 r c (some ⟨gz,0,none⟩) n n,matB gr r c (some ⟨gz,0,none⟩) n n,.own (g3+4) 2 1 (Us (some ⟨gz,0,none⟩) n n) n (zC l)]
theorem Qo (w:World) (r c n q cy cx:Nat) (Y X:Option Addr) (ys xs:List Int) (hr:1<=r/\r<=1048576) (hc:1<=c/\c<=1048576) (hn:n=r*c) (hn2:n<=1048576) (hY:Rd w w.heap.size Y (zC ys)) (hX:Rd w w.heap.size X (zC xs)) (hy:ys.length=r) (hx:xs.length=c) (h1:In64 ys) (h2:In64 xs) (hq:q<=62) :
  Calls Tryz.prog 225 #[Us Y r cy,Us X c cx,U O q] w fun e w'=>∃ gz,e=.returned (matV r c (some ⟨gz,0,none⟩) n n)/\w'.ownsRow w.heap.size 2 1 (Us (some ⟨gz,0,none⟩) n n) n (zC (BA ys xs q c n r))/\Below w.heap.size w w':=by
 have CN:=K1 (fun W=>Qg W r c n hr hc hn hn2);have CR:=K1 (fun W g=>Ho W r c n n (some ⟨g,0,none⟩) hr hc hn hn2);have CW:=K1 (fun W g=>Jg (some ⟨g,0,none⟩) r c n n W);have CM:=K1 (fun W a b h3 h4=>FV W a b q hq h3 h4);have HV:=K1 (Y3 hy (Y3 hx (Y3 hn (Y3 h1 h2))))
 have hm:=((((Y5 w).add_rd (i:=0) rfl hY).add_rd (i:=0) rfl hX).alloc (.cells #[Us Y r cy] 87)).alloc (.cells #[Us X c cx] 87) |>.alloc (.cells #[U O q] 3) |>.alloc (.cells #[U O 0,U O 0,Us none 0 0] 333)
 simp only [Y6] at hm;have HM:=K1 hm;clear hm hY hX hy hx h1 h2 hn;refine (callsIn_wide (n:=5)).1 ?_;refine callsIn_of_wp_marks Tryz.func225 rfl trivial ?_ rfl;simp only [Tryz.ntmps225,YB,YC,YD,YE,YF,Array.replicate_succ,Array.replicate_zero,YG,YH,YI,YJ];have c3:=HM.out.cells 3 rfl;have c4:=HM.out.cells 4 rfl
 gi_wp2_with fail
 refine ⟨trivial,(callsIn_wide.2 (CN.out _)).mono ?_⟩;rintro e w1 ⟨gz,rfl,ho,hb⟩;replace HM:=K1 (HM.out.push_own hb ho rfl);clear hb c3 c4 CN ho
 gi_wp2_with fail
 replace HM:=K1 (HM.out.alloc (.cells #[U O r,U O c,Us (some ⟨gz,0,none⟩) n n] 333));refine ⟨trivial,(callsIn_wide.2 (CR.out _ _)).mono ?_⟩;rintro e w2 ⟨rfl,hb⟩;replace HM:=K1 (HM.out.below hb);clear hb CR;have c3:=HM.out.cells 8 rfl
 gi_wp2_with fail
 refine ⟨trivial,(callsIn_wide.2 (CW.out _ _)).mono ?_⟩;rintro e w3 ⟨rfl,rfl⟩;have hm:=HM.out.alloc (.cells #[U O r,U O c,Us (some ⟨gz,0,none⟩) n n] 333);simp only [Y6] at hm;replace HM:=K1 hm;clear hm c3 CW
 gi_wp2_with fail
 refine IN rfl (fun _ _=>by go_simp) (fun k L=>L=outP w w.heap.size w1.heap.size gz w2.heap.size r c n q cy cx Y X ys xs (BA ys xs q c n k)) r (Ev (some ⟨gz,0,none⟩) c) ⟨_,rfl,HM.out.pick [0,1,2,3,4,5,6,8,9,7] _ rfl (by decide)⟩ (fun _=>rfl) ?_ ?_ ?_
 . intro l J hE hJ hY W h0
   exact Jh _ l _ r c n n _ hc.1 HV.out.2.2.1 (Y4 _) hn2 hr.2 J (fun k W h=>by
    obtain ⟨L,M,rfl,hM⟩:=hE k W h
    exact hM.cells 8 rfl) hJ hY W h0
 . rintro k D l o L W hk rfl hM;have HMk:=K1 hM;clear hM;unfold Ev;simp only [YP,YQ,YR]
   gi_wp2_with fail
   refine ⟨[],by rw [Y7];exact HMk.out,fun o' w4 hM2=>?_⟩;rw [Y7] at hM2;have HM2:=K1 hM2;clear hM2 HMk HM;obtain ⟨y,hyk⟩:=Au ys k (by have:=HV.out.1;omega);obtain ⟨bY,oY,rfl,_⟩:=HM2.out.rd 1 rfl (by rw [Br];have:=HV.out.1;omega);have HYK:=K1 (Y3 (Bk hyk) (HV.out.2.2.2.1.at_ hyk));have HOT:Hid (BA ys xs q c n (k+1)=Do ys xs q c k (BA ys xs q c n k) c):=K1 rfl;have HOS:=K1 (show ∀ j x,xs[j]?=some x->Do ys xs q c k (BA ys xs q c n k) (j+1)=(Do ys xs q c k (BA ys xs q c n k) j).set (k*c+j) (mulF y x q) from fun j x hx=>by rw [Do,hyk,hx];rfl)
   have HOL:=K1 (show ∀ j,(Do ys xs q c k (BA ys xs q c n k) j).length=n from fun j=>by rw [Hr,D5]);have HO0:Hid (BA ys xs q c n k=Do ys xs q c k (BA ys xs q c n k) 0):=K1 rfl;have hle:=YK c (show k+1<=r by omega);rw [YL,<- HV.out.2.2.1] at hle;rw [HO0.out] at HM2;clear hyk HO0;generalize Do ys xs q c k (BA ys xs q c n k)=ol at *
   obtain ⟨lo,hlo⟩:∃ lo,lo=k*c:=⟨_,rfl⟩
   rw [<- hlo] at HOS hle ⊢;clear hlo
   try simp only [Option.map_some,Cg,Nat.zero_add]
   gi_wp2_with fail
   gi_loopw [26] (fun i wr=>∃ j:Nat,j<=c/\i=U O j/\Hid (Mem wr (outP w w.heap.size w1.heap.size gz w2.heap.size r c n q cy cx (some ⟨bY,oY,none⟩) X ys xs (ol j)++Dj D l o'))) (fun i _=>c-(intOf i).toNat)
   case atStart=>exact ⟨0,Nat.zero_le _,rfl,HM2⟩
   case round =>
    clear HM2;obtain ⟨j,hj,rfl,HM⟩:=hrel
    by_cases hlt:j<c
    . obtain ⟨x,hxj⟩:=Au xs j (by have:=HV.out.2.1;omega);obtain ⟨bX,oX,rfl,_⟩:=HM.out.rd 2 rfl (by rw [Br];have:=HV.out.2.1;omega);have HXJ:=K1 (Bk hxj);have CK:=K1 (fun W=>CM.out W y x HYK.out.2 (HV.out.2.2.2.2.at_ hxj));have HS:=K1 (show zC (ol (j+1))=(zC (ol j)).set (lo+j) (U O (mulF y x q)) by rw [HOS.out j x hxj,Dn]);have HL:=K1 (HOL.out j);clear hxj;generalize mulF y x q=p at *
      gi_wp2_with fail
      refine KH [0,1,2,3,4,5,6,7,8,9,10] [11,12,13] (fun W'=>W'.cell? ⟨w.heap.size,0,none⟩=some (Us (some ⟨bY,oY,none⟩) r cy)/\W'.cell? ⟨w.heap.size+1,0,none⟩=some (Us (some ⟨bX,oX,none⟩) c cx)/\W'.cell? ⟨w.heap.size+2,0,none⟩=some (U O q)/\W'.cell? ⟨bY,oY+k,none⟩=some (U O y)/\W'.cell? ⟨bX,oX+j,none⟩=some (U O x))
       (by kernel_rfl) (by kernel_rfl) (by kernel_rfl) (by kernel_rfl) (by intro d v c a w h;cases d <;> exact h) (by decide) (by rintro ⟨_,_,h⟩;exact h) ⟨HM.out.drew.cell 3 0 rfl rfl,HM.out.drew.cell 4 0 rfl rfl,HM.out.drew.cell 5 0 rfl rfl,HM.out.drew.rdAt 1 rfl HYK.out.1,HM.out.drew.rdAt 2 rfl HXJ.out⟩ ?_
      simp only [AW,p1,p2,p3,p4];apply Exists.intro;apply Y3
      . intro W' hS;obtain ⟨s1,s2,s3,s4,s5⟩:=hS
        repeat still_step
        exact wpStill_nil rfl
      replace HM:=K1 HM.out.drew;refine Spine.step ?_;go_wp2_with fail
      (with_reducible refine (CK.out _).mono ?_)
      rintro e w5 ⟨rfl,hb⟩;have HM3:=K1 (HM.out.below hb);clear hb HM CK;go_wp2_with fail;refine Behind.go ⟨HM3.out.cell 3 0 rfl rfl,HM3.out.cell 4 0 rfl rfl,HM3.out.cell 5 0 rfl rfl,HM3.out.rdAt 1 rfl HYK.out.1,HM3.out.rdAt 2 rfl HXJ.out⟩ (Spine.step ?_);go_wp2_with fail;refine Behind.go ⟨HM3.out.cell 3 0 rfl rfl,HM3.out.cell 4 0 rfl rfl,HM3.out.cell 5 0 rfl rfl,HM3.out.rdAt 1 rfl HYK.out.1,HM3.out.rdAt 2 rfl HXJ.out⟩ (Spine.step ?_)
      obtain ⟨v,hv⟩:∃ v,w5.cell? ⟨gz,lo+j,none⟩=some v:=⟨_,((HM3.out.own 9 rfl).cellAt (lo+j) (by omega)).trans (List.getElem?_eq_getElem (by rw [Br,HL.out];omega))⟩
      have kf:=HM3.out.ownF 9 rfl;have hm4:=HM3.out.setOwn (i:=9) (j:=lo+j) rfl (U O p);rw [<- HS.out] at hm4;have HM4:=K1 hm4;clear hm4 HM3;go_wp2_with fail;refine Behind.go ⟨HM4.out.cell 3 0 rfl rfl,HM4.out.cell 4 0 rfl rfl,HM4.out.cell 5 0 rfl rfl,HM4.out.rdAt 1 rfl HYK.out.1,HM4.out.rdAt 2 rfl HXJ.out⟩ (Spine.nil_ ?_);clear hv kf
      apply_assumption
      gi_wp2_with fail
      go_roundw
      case rel=>exact ⟨j+1,by omega,by go_num,HM4⟩
      case measure=>simp [intOf];omega
    . have hjc:j=c:=by omega
      subst hjc
      gi_wp2_with fail
      exact ⟨_,[],rfl,by rw [Y7,HOT.out];exact HM.out⟩
 . rintro D l o L W rfl hM;have HM:=K1 hM;clear hM;have c0:=HM.out.cells 7 rfl;have c1:=HM.out.cells 6 rfl;have f1:=fun j=>HM.out.frozen 6 j rfl
   gi_wp2_with fail
   refine ⟨by simp,.inl ⟨_,_,rfl,run_takeDeferred ((((HM.out.set (i:=6) (j:=0) rfl (U O r)).set (i:=6) (j:=1) rfl (U O c)).set (i:=6) (j:=2) rfl (Us (some ⟨gz,0,none⟩) n n)).obj 10 rfl),?_⟩⟩;have hF:=K1 ((((HM.out.set (i:=6) (j:=0) rfl (U O r)).set (i:=6) (j:=1) rfl (U O c)).set (i:=6) (j:=2) rfl (Us (some ⟨gz,0,none⟩) n n)).put (i:=10) rfl (.deferred none));clear c0 c1 f1 HM;have c0:=hF.out.cells 6 rfl;refine ⟨matV r c (some ⟨gz,0,none⟩) n n,?_,gz,rfl,DG (by omega) (hF.out.own 9 rfl),hF.out.bel 0 rfl⟩;simp [results,Tryz.results225,go_sem,c0]
end
section
open Go.RowKit
def offN (ns:List Nat):Nat->Nat
 | 0=>0
 | k+1=>offN ns k+ns[k+1]?.getD 0*ns[k]?.getD 0+ns[k+1]?.getD 0
def midN (ns:List Nat) (k:Nat):Nat:=offN ns k+ns[k+1]?.getD 0*ns[k]?.getD 0
theorem Fm (ns:List Nat) (k:Nat):offN ns (k+1)=midN ns k+ns[k+1]?.getD 0:=rfl
def wRs (ns:List Nat) (n:Nat):List (Nat × Nat):=(YN n).map fun k=>(offN ns k,midN ns k)
def bRs (ns:List Nat) (n:Nat):List (Nat × Nat):=(YN n).map fun k=>(midN ns k,offN ns (k+1))
theorem Qp (ns:List Nat) (n:Nat):(wRs ns n).length=n:=by simp [wRs]
theorem Qq (ns:List Nat) (n:Nat):(bRs ns n).length=n:=by simp [bRs]
theorem Qr {ns:List Nat} {n k:Nat} (h:k<n):(wRs ns n)[k]?=some (offN ns k,midN ns k):=by simp [wRs,h]
theorem Qs {ns:List Nat} {n k:Nat} (h:k<n):(bRs ns n)[k]?=some (midN ns k,offN ns (k+1)):=by simp [bRs,h]
theorem Hs (ns:List Nat):∀ {i j:Nat},i<=j->offN ns i<=offN ns j
 | i,0,h=>by rw [Nat.le_zero.1 h];exact Y4 _
 | i,j+1,h=>by
   rcases Nat.lt_or_ge i (j+1) with h1 | h1
   . have:=Hs ns (show i<=j by omega);rw [Fm,midN];omega
   . rw [show i=j+1 by omega];exact Y4 _
abbrev AX (ns:List Nat):List Int:=ns.map fun n:Nat=>(n:Int)
theorem Dp {ns:List Nat} {k a:Nat} (h:ns[k]?=some a):(AX ns)[k]?=some (a:Int):=by simp [h]
theorem Fo (ns:List Nat):∀ k,k<ns.length->lo (AX ns) k=(offN ns k:Int)
 | 0,h=>by
   match ns with
   | []=>simp at h
   | a::r=>simp [lo,offN,cnt]
 | k+1,h=>by
   obtain ⟨a,ha⟩:=Au ns k (by omega);obtain ⟨b,hb⟩:=Au ns (k+1) h;rw [IB (AX ns) k a b (Dp ha) (Dp hb),Fo ns k (by omega),offN,ha,hb];simp
theorem Ls (ns:List Nat) (k:Nat) (h:k+1<ns.length):mid (AX ns) k=(midN ns k:Int):=by
 obtain ⟨a,ha⟩:=Au ns k (by omega);obtain ⟨b,hb⟩:=Au ns (k+1) h;rw [IC (AX ns) k a b (Dp ha) (Dp hb),Fo ns k (by omega),midN,ha,hb];simp
theorem Lt (ns:List Nat):∀ n,n+1<=ns.length->wcells (AX ns) n=rcells (wRs ns n)
 | 0,_=>rfl
 | n+1,h=>by
   rw [wcells,Lt ns n (by omega),Fo ns n (by omega),Ls ns n h,wRs,wRs,YO,YS];simp [rcells]
theorem Lu (ns:List Nat):∀ n,n+1<=ns.length->bcells (AX ns) n=rcells (bRs ns n)
 | 0,_=>rfl
 | n+1,h=>by
   rw [bcells,Lu ns n (by omega),Ls ns n h,Fo ns (n+1) h,bRs,bRs,YO,YS];simp [rcells]
theorem Lv (ns:List Nat) (h:1<=ns.length):cnt (AX ns)=(offN ns (ns.length-1):Int):=by
 rw [<- Fo ns (ns.length-1) (by omega)];unfold lo;rw [List.take_of_length_le (by simp;omega)]
structure BE (W:World) (lo hi g:Nat) (ns:List Nat):Prop where
 in_:lo<=g/\g<hi
 ex:∃ As cs Aw cw Ab cb,W.heap[g]?=some (.cells #[Us As ns.length cs,Us Aw (ns.length-1) cw,Us Ab (ns.length-1) cb,U O (offN ns (ns.length-1):Nat)] 199 (0,0)) /\
  RdIn W lo hi As (Ah ns)/\RdIn W lo hi Aw (rcells (wRs ns (ns.length-1)))/\RdIn W lo hi Ab (rcells (bRs ns (ns.length-1)))/\ns.length<=cs/\ns.length-1<=cw/\ns.length-1<=cb
theorem BE.keep {W1 W2:World} {lo hi g:Nat} {ns:List Nat} (h:BE W1 lo hi g ns) (hk:∀ g,lo<=g->g<hi->W2.heap[g]?=W1.heap[g]?):BE W2 lo hi g ns:=by
 obtain ⟨h0,As,cs,Aw,cw,Ab,cb,h1,h2,h3,h4,h5⟩:=h;exact ⟨h0,As,cs,Aw,cw,Ab,cb,(hk g h0.1 h0.2).trans h1,h2.keep hk,h3.keep hk,h4.keep hk,h5⟩
theorem BE.below {W1 W2:World} {lo hi g:Nat} {ns:List Nat} (h:BE W1 lo hi g ns) (hh:hi<=W1.heap.size) (hb:Below W1.heap.size W1 W2):BE W2 lo hi g ns:=h.keep fun g _ h2=>hb.block g (by omega)
theorem BE.of_from {W:World} {lo g:Nat} {ns:List Nat} (h:FN W lo g (AX ns)) (h1:1<=ns.length):BE W lo W.heap.size g ns:=by
 obtain ⟨hg,As,Aw,Ab,cs,cw,cb,hh,o1,o2,o3⟩:=h;rw [Lv ns h1,show (AX ns).length=ns.length by simp] at hh;rw [show (AX ns).length=ns.length by simp] at o1 o2 o3;rw [Lt ns (ns.length-1) (by omega)] at o2;rw [Lu ns (ns.length-1) (by omega)] at o3;rw [<- OL] at o1;exact ⟨⟨hg,AZ hh⟩,As,cs,Aw,cw,Ab,cb,hh,⟨AJ o1,AF o1⟩,⟨AJ o2,AF o2⟩,⟨AJ o3,AF o3⟩,Be o1,Be o2,Be o3⟩
theorem Ji (W:World) (lo hi g:Nat) (ns:List Nat) (h:BE W lo hi g ns) :
  Calls Tryz.prog 61 #[.pointer (some ⟨g,0,none⟩)] W fun e w'=>e=.returned (U O (offN ns (ns.length-1):Nat))/\W=w':=by
 obtain ⟨_,As,cs,Aw,cw,Ab,cb,hg,_⟩:=h;have c0:=Af hg;clear hg;generalize offN ns (ns.length-1)=cn at *;generalize ns.length-1=n1 at *;generalize ns.length=n at *;go_enter Tryz.func61,Tryz.ntmps61
 go_wp2
 go_ret;exact ⟨rfl,rfl⟩
theorem Ht (W:World) (lo hi g:Nat) (ns:List Nat) (h:BE W lo hi g ns) :
  Calls Tryz.prog 216 #[.pointer (some ⟨g,0,none⟩)] W fun e w'=>e=.returned (U O (ns.length-1:Nat))/\W=w':=by
 obtain ⟨_,As,cs,Aw,cw,Ab,cb,hg,_⟩:=h;have c0:=Af hg;clear hg;generalize offN ns (ns.length-1)=cn at *;generalize ns.length-1=n1 at *;generalize ns.length=n at *;go_enter Tryz.func216,Tryz.ntmps216
 go_wp2
 go_ret;exact ⟨rfl,rfl⟩
theorem Lw (W:World) (lo hi g:Nat) (ns:List Nat) (h:BE W lo hi g ns) (hh:hi<=W.heap.size) (hl:ns.length<=1000) :
  Calls Tryz.prog 215 #[.pointer (some ⟨g,0,none⟩)] W fun e w'=>∃ A c,e=.returned (Us A ns.length c)/\w'.ownsRow W.heap.size 3 1 (Us A ns.length c) ns.length (Ah ns)/\Below W.heap.size W w':=by
 obtain ⟨_,As,cs,Aw,cw,Ab,cb,hg,hs,_⟩:=h;have c0:=Af hg;have CC:=K1 (II As ns.length cs (Ah ns) W (hs.rd hh) (by rw [DV,Nat.mul_one]) (OK ns) (by omega));clear hg hs;generalize offN ns (ns.length-1)=cn at *;generalize ns.length-1=n1 at *;generalize ns.length=n at *;go_enter Tryz.func215,Tryz.ntmps215;go_wp2_with fail
 (with_reducible refine CC.out.mono ?_)
 rintro e w1 ⟨A4,c4,rfl,ho,hc,hb4⟩;go_wp2_with fail;go_ret;exact ⟨_,_,rfl,ho,hb4⟩
theorem Lx (W:World) (lo hi g k:Nat) (ns:List Nat) (h:BE W lo hi g ns) (hh:hi<=W.heap.size) (hl:ns.length<=1000) (hk:k<ns.length-1) :
  Calls Tryz.prog 217 #[.pointer (some ⟨g,0,none⟩),U O k] W fun e w'=>e=.returned (.agg #[U O (offN ns k),U O (midN ns k)])/\Below W.heap.size W w':=by
 have CL:=K1 (fun W' (hb:Below W.heap.size W W')=>Ht W' lo hi g ns (h.below hh hb));obtain ⟨_,As,cs,Aw,cw,Ab,cb,hg,_,hw,_⟩:=h;have HM:=K1 ((((Y5 W).add_rd (i:=0) rfl (hw.rd hh)).more (i:=0) (c:=.bel W.heap.size W) (d:=.st (fun x=>x=g) (fun W=>W.heap[g]?=some _)) rfl (fun h=>h) ⟨hg,fun x hx=>by cases hx;exact AZ hg,fun W1 W2 _ h1 h2=>(h1 g rfl).trans h2⟩ (fun h=>h) (fun x hx=>by cases hx;exact AZ hg)).alloc (.cells #[U O 0,U O 0] 47));obtain ⟨b1,o1,rfl,_,_⟩:=hw.1 (by rw [En,Qp];omega);clear hg hw;have hat:=Qr (ns:=ns) hk;have HAT:=K1 hat;generalize wRs ns (ns.length-1)=rs at *
 generalize offN ns (ns.length-1)=cn at *;have hl1:ns.length-1<=1000:=by omega
 generalize ns.length-1=n1 at *;generalize ns.length=n at *;generalize offN ns k=x at *;generalize midN ns k=y at *;clear hat;have hkk:¬ ((n1:Int)<=(k:Int)):=by omega
 go_enter Tryz.func217,Tryz.ntmps217;go_wp2_with fail
 (with_reducible refine (CL.out _ (HM.out.bel 0 rfl)).mono ?_)
 rintro e w1 ⟨rfl,rfl⟩;have c0:=Af (HM.out.st 2 rfl);obtain ⟨c1,c2⟩:=HM.out.range2 1 rfl HAT.out;go_wp2_with fail;refine bodyPost_ret (v:=.agg #[U O x,U O y]) ?_ rfl ⟨rfl,?_⟩
 . simp [results,Tryz.results217,go_sem]
 . exact (YM _ _).alloc (Y4 _) _
theorem Lz (W:World) (lo hi g k:Nat) (ns:List Nat) (h:BE W lo hi g ns) (hh:hi<=W.heap.size) (hl:ns.length<=1000) (hk:k<ns.length-1) :
  Calls Tryz.prog 218 #[.pointer (some ⟨g,0,none⟩),U O k] W fun e w'=>e=.returned (.agg #[U O (midN ns k),U O (offN ns (k+1))])/\Below W.heap.size W w':=by
 have CL:=K1 (fun W' (hb:Below W.heap.size W W')=>Ht W' lo hi g ns (h.below hh hb));obtain ⟨_,As,cs,Aw,cw,Ab,cb,hg,_,_,hw,_⟩:=h;have HM:=K1 ((((Y5 W).add_rd (i:=0) rfl (hw.rd hh)).more (i:=0) (c:=.bel W.heap.size W) (d:=.st (fun x=>x=g) (fun W=>W.heap[g]?=some _)) rfl (fun h=>h) ⟨hg,fun x hx=>by cases hx;exact AZ hg,fun W1 W2 _ h1 h2=>(h1 g rfl).trans h2⟩ (fun h=>h) (fun x hx=>by cases hx;exact AZ hg)).alloc (.cells #[U O 0,U O 0] 47));obtain ⟨b1,o1,rfl,_,_⟩:=hw.1 (by rw [En,Qq];omega);clear hg hw;have hat:=Qs (ns:=ns) hk;have HAT:=K1 hat;generalize bRs ns (ns.length-1)=rs at *
 generalize offN ns (ns.length-1)=cn at *;have hl1:ns.length-1<=1000:=by omega
 generalize ns.length-1=n1 at *;generalize ns.length=n at *;generalize offN ns (k+1)=x at *;generalize midN ns k=y at *;clear hat;have hkk:¬ ((n1:Int)<=(k:Int)):=by omega
 go_enter Tryz.func218,Tryz.ntmps218;go_wp2_with fail
 (with_reducible refine (CL.out _ (HM.out.bel 0 rfl)).mono ?_)
 rintro e w1 ⟨rfl,rfl⟩;have c0:=Af (HM.out.st 2 rfl);obtain ⟨c1,c2⟩:=HM.out.range2 1 rfl HAT.out;go_wp2_with fail;refine bodyPost_ret (v:=.agg #[U O y,U O x]) ?_ rfl ⟨rfl,?_⟩
 . simp [results,Tryz.results218,go_sem]
 . exact (YM _ _).alloc (Y4 _) _
def mulT (b:Int) (B i:Nat):Int:=if i=64 then b else ((B % 2 ^ i:Nat):Int)
theorem Qt {i:Nat} (h:i<=64):2 ^ i*2 ^ (64-i)=18446744073709551616:=by
 rw [<- Nat.pow_add,show i+(64-i)=64 by omega]
theorem L3 (B i:Nat):B % 2 ^ (i+1)=B % 2 ^ i+(B / 2 ^ i % 2)*2 ^ i:=by
 rw [Nat.pow_succ,Nat.mod_mul,Y9]
theorem L4 {B i:Nat} (hB:B<18446744073709551616):bits BinOp.and IntKind.u64 ((B:Int) / 2 ^ i) 1=((B / 2 ^ i % 2:Nat):Int):=by
 have e:(B:Int) / 2 ^ i=((B / 2 ^ i:Nat):Int):=by rw [YT];simp
 have h1:=bits_and_u64_nat (B / 2 ^ i) 1 (Nat.lt_of_le_of_lt (Nat.div_le_self _ _) hB) (by decide);rw [e];rw [show ((1:Nat):Int)=1 from rfl] at h1;rw [h1,Nat.and_one_is_mod]
theorem xpart {a:Int} {A i:Nat} {sg:Int} (hA:(A:Int)=a % 18446744073709551616) (ha:-9223372036854775808<=a/\a<=9223372036854775807) (hs:(a<0/\sg=18446744073709551615)\/(0<=a/\sg=0)) (h0:0<i) (h:i<64) :
  ∃ H L:Nat,H<18446744073709551616/\L<18446744073709551616/\IntKind.u64.wrap ((A:Int)*2 ^ i)=(L:Int)/\bits BinOp.or IntKind.u64 (IntKind.u64.wrap (sg*2 ^ i)) ((A:Int) / 2 ^ (64-i))=(H:Int) /\
    ((H*18446744073709551616+L:Nat):Int)=(a*2 ^ i) % 340282366920938463463374607431768211456:=by
 have e64:=Qt (Nat.le_of_lt h);have hA64:A<18446744073709551616:=by omega
 have ei:(2:Int) ^ i=((2 ^ i:Nat):Int):=by simp
 have es:(2:Int) ^ (64-i)=((2 ^ (64-i):Nat):Int):=by simp
 have hp:0<2 ^ i:=Nat.two_pow_pos i;have hq:0<2 ^ (64-i):=Nat.two_pow_pos _
 have hip:2 ^ i<=9223372036854775808:=by
  have:=Nat.pow_le_pow_right (show 1<=2 by decide) (show i<=63 by omega);exact this
 rw [ei,es];generalize hP:2 ^ i=P at *;generalize hQ:2 ^ (64-i)=Q at *;have hdiv:A / Q<P:=Nat.div_lt_of_lt_mul (by rw [Y9,e64];exact hA64);have hdm:=Nat.div_add_mod A Q
 have hAP:A*P=(A / Q)*18446744073709551616+(A % Q)*P:=by
  have:A*P=(Q*(A / Q)+A % Q)*P:=by rw [hdm]
  rw [this,Nat.add_mul,Y9 Q,Nat.mul_assoc,Y9 Q P,e64]
 have hL:(A % Q)*P<18446744073709551616:=by
  have h1:=Nat.mul_lt_mul_of_pos_right (Nat.mod_lt A hq) hp;rw [Y9 Q P,e64] at h1;exact h1
 have hLw:IntKind.u64.wrap ((A:Int)*(P:Int))=(((A % Q)*P:Nat):Int):=by
  rw [B9,<- Y8,hAP];omega
 have hdv:(A:Int) / (Q:Int)=((A / Q:Nat):Int):=(YT _ _).symm
 have hor:∀ D:Nat,D<P->bits BinOp.or IntKind.u64 (((18446744073709551616-P:Nat)):Int) (D:Int)=((18446744073709551616-P+D:Nat):Int):=fun D hD=>by
  rw [bits_or_u64_nat _ _ (by omega) (by omega)]
  congr 1
  have e1:18446744073709551616-P=(Q-1) <<< i:=by
   rw [Nat.shiftLeft_eq,hP,Nat.sub_mul,Nat.one_mul,Y9 Q P,e64]
  rw [e1];exact (Nat.shiftLeft_add_eq_or_of_lt (by rw [hP];exact hD) _).symm
 rcases hs with ⟨hneg,rfl⟩ | ⟨hpos,rfl⟩
 . have hw:IntKind.u64.wrap (18446744073709551615*(P:Int))=((18446744073709551616-P:Nat):Int):=by rw [B9];omega
   refine ⟨18446744073709551616-P+A / Q,(A % Q)*P,by omega,hL,hLw,by rw [hw,hdv];exact hor _ hdiv,?_⟩;have haz:a=(A:Int)-18446744073709551616:=by omega
   rw [haz,Int.sub_mul,<- Y8,hAP];omega
 . have hw:IntKind.u64.wrap (0*(P:Int))=((0:Nat):Int):=by rw [B9];omega
   refine ⟨A / Q,(A % Q)*P,by omega,hL,hLw,by rw [hw,hdv,bits_or_u64_nat _ _ (by omega) (by omega),Nat.zero_or],?_⟩;have haz:a=(A:Int):=by omega
   rw [haz,<- Y8,hAP];omega
theorem L5 {b:Int} {B i:Nat} (hB:(B:Int)=b % 18446744073709551616) (hb:-9223372036854775808<=b/\b<=9223372036854775807) (hi:i<64) (h:B / 2 ^ i % 2=0):mulT b B (i+1)=mulT b B i:=by
 unfold mulT;rw [if_neg (show ¬ i=64 by omega)]
 by_cases h63:i=63
 . subst h63;rw [if_pos rfl];have e:(2:Nat) ^ 63=9223372036854775808:=by decide
   rw [e] at h ⊢;omega
 . rw [if_neg (by omega),L3,h];simp
theorem Hu {b:Int} {B i:Nat} (hi:i<63) (h:B / 2 ^ i % 2=1):mulT b B (i+1)=mulT b B i+2 ^ i:=by
 unfold mulT;rw [if_neg (show ¬ i=64 by omega),if_neg (show ¬ i+1=64 by omega),L3,h];simp
theorem Qu {b:Int} {B:Nat} (hB:(B:Int)=b % 18446744073709551616) (hb:-9223372036854775808<=b/\b<=9223372036854775807) (h:B / 2 ^ 63 % 2=1):mulT b B 64=mulT b B 63-2 ^ 63:=by
 unfold mulT;have e:(2:Nat) ^ 63=9223372036854775808:=by decide
 have e2:(2:Int) ^ 63=9223372036854775808:=by decide
 rw [if_pos rfl,if_neg (by decide),e2];rw [e] at h ⊢;omega
theorem L6 {a b:Int} {B i:Nat} (hB:(B:Int)=b % 18446744073709551616) (hb:-9223372036854775808<=b/\b<=9223372036854775807) (hi:i=63) (h:B / 2 ^ i % 2=1):a*mulT b B (i+1)=a*mulT b B i+-(a*2 ^ i):=by
 subst hi;rw [Qu hB hb h,Int.mul_sub];rfl
end
end Go.Proofs.YtdpojpcoghcieaaGreat
