/- A part of the proof of TopSerial: MatNew, MatMul, RegionIn, OrderIn, MatBack, MatOuter. Conditions: none. -/
import Derived.Laws.MakeOwn
import Derived.OrdersIn
import Derived.Test.YtdpojpcoghcieaaGreatSdAP
set_option maxHeartbeats 8000000
namespace Go.Proofs.YtdpojpcoghcieaaGreat
open Lib renaming hid → K1
open Go.RowKit
abbrev zeroL (n:Nat):List Int:=List.replicate n 0
def zeroO (n:Nat):Obj:=.cells (zC (zeroL n)).toArray 2 (0,0)
theorem zero_in (n:Nat):In64 (zeroL n):=fun z hz=>by
 rw [List.eq_of_mem_replicate hz];omega
theorem made_zero (n:Nat):madeCells #[Value.int .i64 0] n=(zC (zeroL n)).toArray:=by
 have h:=toList_madeCells_one (.int .i64 0) n
 apply Array.ext'
 rw [h]
 simp
theorem run_make_vec (n:Nat) (hn:n≤1048576) (W:World):(Instr.makeSlice 87 (.int .i64 (n:Int)) (.int .i64 (n:Int))).run Tryz.prog W=.ok (.slice (some ⟨W.heap.size,0,none⟩) n n) (W.alloc (zeroO n)):=by
 obtain ⟨i0,hi,hz0,hz1,hz2⟩:=info_parts infoCV
 have hr:=run_make (P:=Tryz.prog) W 87 2 i0 (.int .i64 0) Tryz.underlying87 hi hz0 .i64 .i64 n n (by omega) (by omega) (by rw [hz2];omega) (by omega)
 have e:zeroO n=.cells (madeCells #[.int .i64 0] n) 2 (0,0):=by rw [made_zero];rfl
 rw [e]
 simpa [hz1,Value.cells] using hr
theorem own_zero (w:World) (n:Nat) (hn:n≤1048576):(w.alloc (zeroO n)).ownsRow w.heap.size 2 1 (.slice (some ⟨w.heap.size,0,none⟩) n n) n (zC (zeroL n)) :=
 ⟨by simp,.inr ⟨w.heap.size,n,(zC (zeroL n)).toArray,rfl,Nat.le_refl _,heap_alloc_new w _,Nat.le_refl _,by simp [maxLen];omega,by simp,by simp⟩⟩
theorem Mem.zero {w:World} {L:List Ch} (h:Mem w L) (n:Nat) (hn:n≤1048576):Mem (w.alloc (zeroO n)) (L++[.own w.heap.size 2 1 (.slice (some ⟨w.heap.size,0,none⟩) n n) n (zC (zeroL n))]) :=
 h.push_own ((Below.refl _ _).alloc (Nat.le_refl _) _) (own_zero w n hn) rfl
set_option maxRecDepth 100000 in
theorem matNew_any (w:World) (r c n:Nat) (hr:1≤r∧r≤1048576) (hc:1≤c∧c≤1048576) (hn:n=r*c) (hn2:n≤1048576) :
  Calls Tryz.prog 234 #[.int .i64 r,.int .i64 c] w fun e w'=>∃ g,e=.returned (matV r c (some ⟨g,0,none⟩) n n)∧w'.ownsRow w.heap.size 2 1 (.slice (some ⟨g,0,none⟩) n n) n (zC (zeroL n))∧Below w.heap.size w w':=by
 have CS:=K1 (fun W=>sides_any W r c hr hc)
 have HM:=K1 ((Mem.start w).alloc (.cells #[.int .i64 0,.int .i64 0,.slice none 0 0] 333))
 have e1:(r:Int)*(c:Int)=(n:Int):=by rw [hn,Int.natCast_mul]
 have hmk:=run_make_vec n hn2
 have HN:=K1 hn2
 clear hn
 go_enter Tryz.func234,Tryz.ntmps234
 go_wp2_with fail
 (with_reducible refine (CS.out _).mono ?_)
 rintro e w1 ⟨rfl,rfl⟩
 clear CS
 go_wp2_with fail
 have hm:=K1 (((Mem.start w).alloc (.cells #[.int .i64 r,.int .i64 c,.slice (some ⟨w.heap.size+1,0,none⟩) n n] 333)).zero n HN.out)
 have c0:=hm.out.cells 1 rfl
 have h2:=hm.out.own 2 rfl
 simp only [World.size_alloc] at h2
 refine bodyPost_ret (v:=matV r c (some ⟨w.heap.size+1,0,none⟩) n n) ?_ rfl ⟨_,rfl,own_from (by omega) h2,hm.out.bel 0 rfl⟩
 simp [results,Tryz.results234,go_sem,c0]
set_option maxRecDepth 100000 in
theorem matOf_any (w:World) (r c n cap:Nat) (A:Option Addr) (zs:List Int) (hr:1≤r∧r≤1048576) (hc:1≤c∧c≤1048576) (hn:n=r*c) (hn2:n≤1048576) (hA:Rd w w.heap.size A (zC zs)) (hz:zs.length=n) :
  Calls Tryz.prog 219 #[.int .i64 r,.int .i64 c,.slice A n cap] w fun e w'=>∃ A' c',e=.returned (.tuple #[matV r c A' n c',.bool true])∧w'.ownsRow w.heap.size 2 1 (.slice A' n c') n (zC zs)∧n≤c'∧Below w.heap.size w w':=by
 have CR:=K1 (fun W A' c'=>right_any W r c n c' A' hr hc hn hn2)
 have HM:=K1 (((Mem.start w).add_rd (i:=0) rfl hA).alloc (.cells #[.int .i64 0,.int .i64 0,.slice none 0 0] 333))
 have CC:=K1 (fun W (hW:Rd W W.heap.size A (zC zs))=>vclone_any A n cap zs W hW hz (by omega))
 clear hn hA
 go_enter Tryz.func219,Tryz.ntmps219
 go_wp2_with fail
 (with_reducible refine (CC.out _ (HM.out.rd 1 rfl)).mono ?_)
 rintro e w1 ⟨A',c',rfl,ho,hc',hb⟩
 replace HM:=K1 (HM.out.push_own hb ho rfl)
 clear hb ho CC
 go_wp2_with fail
 replace HM:=K1 (HM.out.alloc (.cells #[.int .i64 r,.int .i64 c,.slice A' n c'] 333))
 have c0:=HM.out.cells 4 rfl
 (with_reducible refine (CR.out _ _ _).mono ?_)
 rintro e w2 ⟨rfl,hb⟩
 replace HM:=K1 (HM.out.below hb)
 clear hb CR c0
 have c0:=HM.out.cells 4 rfl
 have c1:=HM.out.cells 2 rfl
 have f1:=fun j=>HM.out.frozen 2 j rfl
 go_wp2_with fail
 have hm:=K1 (((HM.out.set (i:=2) (j:=0) rfl (.int .i64 r)).set (i:=2) (j:=1) rfl (.int .i64 c)).set (i:=2) (j:=2) rfl (.slice A' n c'))
 clear c0 c1 HM
 have c0:=hm.out.cells 2 rfl
 have h2:=hm.out.own 3 rfl
 refine bodyPost_ret (v:=.tuple #[matV r c A' n c',.bool true]) ?_ rfl ⟨_,_,rfl,own_from (by simp) h2,hc',hm.out.bel 0 rfl⟩
 simp [results,Tryz.results219,go_sem,c0]
end Go.Proofs.YtdpojpcoghcieaaGreat
namespace Go.Proofs.YtdpojpcoghcieaaGreat
open Lib renaming hid → K1
open Go.RowKit Go.Shelf
attribute [local go_sem] Oper.semAt_some
theorem zC_sub (l:List Int) (a b:Nat):zC (subL l a b)=subL (zC l) a b:=by simp [subL,List.map_take,List.map_drop]
theorem In64.sub {l:List Int} (h:In64 l) (a b:Nat):In64 (subL l a b):=fun z hz=>h z (List.mem_of_mem_drop (List.mem_of_mem_take hz))
def rowL (vs:List Int) (c k:Nat):List Int:=subL vs (k*c) (k*c+c)
theorem rowL_len {vs:List Int} {r c k:Nat} (hv:vs.length=r*c) (hk:k<r):(rowL vs c k).length=c:=by
 have hle:=Nat.mul_le_mul_right c (show k+1≤r by omega)
 rw [Nat.succ_mul] at hle
 rw [rowL,subL_len (by omega) (by omega)];omega
def mvL (vs xs:List Int) (c q k:Nat):List Int:=(List.range k).map fun i=>dotTo (rowL vs c i) xs q c
theorem mvL_succ (vs xs:List Int) (c q k:Nat):mvL vs xs c q (k+1)=mvL vs xs c q k++[dotTo (rowL vs c k) xs q c]:=by simp [mvL,List.range_succ]
theorem mvL_len (vs xs:List Int) (c q k:Nat):(mvL vs xs c q k).length=k:=by simp [mvL]
theorem dotTo_in (xs ys:List Int) (q:Nat):∀ k,-9223372036854775808≤dotTo xs ys q k∧dotTo xs ys q k≤9223372036854775807
 | 0=>by simp [dotTo]
 | k+1=>wrap64_in _
theorem mvL_in (vs xs:List Int) (c q k:Nat):In64 (mvL vs xs c q k):=fun z hz=>by
 obtain ⟨i,_,rfl⟩:=List.mem_map.1 hz
 exact dotTo_in _ _ _ _
theorem Mem.row {W:World} {L:List Ch} {A:Option Addr} {vs:List Int} {i r c k:Nat} (h:Mem W L) (hi:L[i]?=some (.rd A (zC vs))) (hv:vs.length=r*c) (hk:k<r) (hc:1≤c) :
  Rd W W.heap.size (A.map fun p=>p.add (k*c)) (zC (rowL vs c k)):=by
 have hle:=Nat.mul_le_mul_right c (show k+1≤r by omega)
 rw [Nat.succ_mul] at hle
 have h1:=(h.rd i hi).sub (k*c) (k*c+c) (by rw [zC_len,hv];exact hle)
 rw [if_neg (by omega)] at h1
 rw [rowL,zC_sub]
 exact h1
def mulS (w:World) (gr:Nat) (r c n cap q cx:Nat) (A X:Option Addr) (vs xs:List Int) (g8 k:Nat) (L:List Ch):Prop :=
 ∃ Ao co,L=[.bel w.heap.size w,.rd A (zC vs),.rd X (zC xs),.obj (w.heap.size+1) (.cells #[.slice X c cx] 87 (0,0)),.obj (w.heap.size+2) (.cells #[.int .i64 q] 3 (0,0)),matB gr r c A n cap,
   .obj g8 (.cells #[.slice Ao k co] 87 (0,0)),.own w.heap.size 2 1 (.slice Ao k co) k (zC (mvL vs xs c q k))]
set_option maxRecDepth 100000 in
theorem matMul_any (w:World) (r c n cap q cx:Nat) (A X:Option Addr) (vs xs:List Int) (hr:1≤r∧r≤1048576) (hc:1≤c∧c≤1048576) (hn:n=r*c) (hn2:n≤1048576) (hcap:n≤cap) (hcx:c≤cx) (hA:Rd w w.heap.size A (zC vs)) (hX:Rd w w.heap.size X (zC xs)) (hv:vs.length=n) (hx:xs.length=c) (h1:In64 vs) (h2:In64 xs) (hq:q≤62) :
  Calls Tryz.prog 242 #[matV r c A n cap,.slice X c cx,.int .i64 q] w fun e w'=>∃ Ao co,e=.returned (.tuple #[.slice Ao r co,.bool true])∧w'.ownsRow w.heap.size 2 1 (.slice Ao r co) r (zC (mvL vs xs c q r))∧r≤co∧Below w.heap.size w w':=by
 have CR:=K1 (fun W=>right_any W r c n cap A hr hc hn hn2)
 have CW:=K1 (fun W=>rows_any A r c n cap W)
 have CD:=K1 (fun (W:World) (R:Option Addr) (k:Nat) (hk:k<r) (hR:Rd W W.heap.size R (zC (rowL vs c k))) (hX:Rd W W.heap.size X (zC xs))=>dot_any W R X c c cx q (rowL vs c k) xs hR hX (rowL_len (hv.trans hn) hk) hx (h1.sub _ _) h2 hq (by omega) (Nat.le_refl _) hcx)
 have HV:=K1 (And.intro (hv.trans hn) hn)
 have HMS:=K1 (mvL_succ vs xs c q)
 have hm:=((((Mem.start w).add_rd (i:=0) rfl hA).add_rd (i:=0) rfl hX).alloc (.cells #[.int .i64 r,.int .i64 c,.slice A n cap] 333)).alloc (.cells #[.slice X c cx] 87) |>.alloc (.cells #[.int .i64 q] 3)
 simp only [World.size_alloc] at hm
 have HM:=K1 hm
 clear hm hA hX hv hx h1 h2 hn
 refine (callsIn_wide (n:=5)).1 ?_
 refine callsIn_of_wp_marks Tryz.func242 rfl trivial ?_ rfl
 simp only [Tryz.ntmps242,List.size_toArray,List.length_cons,List.length_nil,Nat.reduceAdd,Nat.reduceSub,Array.replicate_succ,Array.replicate_zero,List.push_toArray,List.append_toArray,List.nil_append,List.cons_append]
 have c3:=HM.out.cells 3 rfl
 have c4:=HM.out.cells 4 rfl
 gi_wp2_with fail
 refine ⟨trivial,(callsIn_wide.2 (CR.out _)).mono ?_⟩
 rintro e w1 ⟨rfl,hb⟩
 replace HM:=K1 (HM.out.below hb)
 clear hb c3 c4 CR
 have c3:=HM.out.cells 3 rfl
 have c4:=HM.out.cells 4 rfl
 have HM2:=K1 (HM.out.alloc (.cells #[.slice none 0 0] 87))
 have c5:=HM2.out.cells 3 rfl
 gi_wp2_with fail
 replace HM:=HM2
 clear c3 c4 c5 HM2
 refine ⟨trivial,(callsIn_wide.2 (CW.out _)).mono ?_⟩
 rintro e w2 ⟨rfl,rfl⟩
 have hm:=HM.out.alloc (.cells #[.int .i64 r,.int .i64 c,.slice A n cap] 333)
 simp only [World.size_alloc] at hm
 replace HM:=K1 (hm.add (c:=.own w.heap.size 2 1 (.slice none 0 0) 0 (zC (mvL vs xs c q 0))) ⟨own_nil _ _ _ _,Nat.le_trans (hm.bel 0 rfl).size (Nat.le_refl _)⟩ (fun _ _ _ _ g hg=>by cases hg))
 clear hm
 gi_wp2_with fail
 obtain ⟨g8,hg8⟩:∃ g,g=w1.heap.size:=⟨_,rfl⟩
 rw [← hg8] at HM ⊢
 clear hg8
 refine wpIn_range_mem rfl (fun _ _=>by go_simp) (mulS w (g8+1) r c n cap q cx A X vs xs g8) r (rowArgs A c) ⟨_,⟨none,0,rfl⟩,HM.out.pick [0,1,2,4,5,7,6,8] _ rfl (by decide)⟩ (fun _=>rfl) ?_ ?_ ?_
 · intro l J hE hJ hY W h0
   exact rows1_in _ l (g8+1) r c n cap A hc.1 HV.out.2 hcap hn2 hr.2 J (fun k W h=>by
    obtain ⟨L,M,⟨Ao,co,rfl⟩,hM⟩:=hE k W h
    exact hM.cells 5 rfl) hJ hY W h0
 · rintro k D l o L W hk ⟨Ao,co,rfl⟩ hM
   have HM:=K1 hM
   clear hM
   unfold rowArgs
   simp only [List.zip_toArray,List.zip_cons_cons,List.zip_nil_left]
   gi_wp2_with fail
   refine ⟨[],by rw [List.append_nil];exact HM.out,fun o' w2 hM2=>?_⟩
   rw [List.append_nil] at hM2
   have HM2:=K1 hM2
   clear hM2 HM
   have CK:=K1 (CD.out w2 _ k hk (HM2.out.row (i:=1) rfl HV.out.1 hk hc.1) (HM2.out.rd 2 rfl))
   have HS:=K1 (show zC (mvL vs xs c q (k+1))=zC (mvL vs xs c q k)++[.int .i64 (dotTo (rowL vs c k) xs q c)] by rw [HMS.out];simp)
   generalize dotTo (rowL vs c k) xs q c=y at *
   have c1:=HM2.out.cell 3 0 rfl rfl
   have c2:=HM2.out.cell 4 0 rfl rfl
   gi_wp2_with fail
   refine ⟨trivial,(callsIn_wide.2 CK.out).mono ?_⟩
   rintro e w3 ⟨rfl,hb⟩
   have HM3:=K1 (HM2.out.below hb)
   clear hb HM2 CK c1 c2
   have HM4:=K1 (HM3.out.alloc (.cells #[.int .i64 y] 2))
   have c3:=HM3.out.cell 6 0 rfl rfl
   have hk2:k≤1048576:=by omega
   gi_wp2_with (gi_at_builtin;refine wpListIn_append_mem rfl _ _ 87 rfl HM4.out 7 rowCV rfl rfl _ 1 _ [.int .i64 y] rfl (HM4.out.box 10 rfl) rfl (by intro u hu;simp at hu;subst hu;rfl) (by omega) ?_;intro A' c' W5 hM5;have HM5:=K1 hM5;have c4:=hM5.cell 6 0 rfl rfl;have f4:=hM5.frozen 6 0 rfl;clear hM5 HM4 HM3 c3)
   have hF:=HM5.out.set (i:=6) (j:=0) rfl (.slice A' (k+1) c')
   exact ⟨_,[_],⟨A',c',rfl⟩,by rw [HS.out];exact hF⟩
 · rintro D l o L W ⟨Ao,co,rfl⟩ hM
   have HM:=K1 hM
   clear hM
   have c0:=HM.out.cell 6 0 rfl rfl
   gi_wp2_with fail
   refine ⟨by simp,.inl ⟨_,_,rfl,run_takeDeferred (HM.out.obj 8 rfl),?_⟩⟩
   have hF:=HM.out.put (i:=8) rfl (.deferred none)
   exact ⟨_,results_tmp2 rfl _ _ _,Ao,co,rfl,hF.own 7 rfl,own_cap (hF.own 7 rfl),hF.bel 0 rfl⟩
end Go.Proofs.YtdpojpcoghcieaaGreat
namespace Go.Proofs.YtdpojpcoghcieaaGreat
open Go.RowKit
section
variable {P:Program} {ops:Array Oper} {Q:Exit→Act→World→Prop} {md:Region.Mode} {l n:Nat}
theorem wpIn_of_wp {o:Oper} (hd:∀ c,o.op≠.defer c) {a:Act} {w:World} {K:Act→World→Prop} (h:o.wp P a w K Q):o.wpIn (Fence.wide.inRound l) n P a w K Q:=by
 refine ⟨fun _ _=>trivial,?_⟩
 rw [Oper.semAt_eq _ _ _ hd]
 unfold Oper.wp at h
 generalize (execOp a.eval o).run P w=r at *
 cases r with
 | ok x w' =>
   cases x <;> simp only [Oper.upon,Oper.uponIn] at h ⊢ <;>
    first
     | exact h
     | exact ⟨(fun hh=>by cases hh),CallsIn.inRound l (callsIn_wide.2 h)⟩
     | exact ⟨(fun hh=>by cases hh),fun c cs _=>let ⟨v,w1,r,s⟩:=h c cs;⟨v,w1,r,stepsIn_wide.2 s⟩⟩
 | halt x w'=>cases x <;> simp only [Oper.upon,Oper.uponIn] at h ⊢ <;> exact h
theorem wpAnyIn_of (hd:∀ (i:Nat) (o:Oper) c,ops[i]?=some o→o.op≠.defer c) (hQ:¬ LetsOut Q):∀ (fuel:Nat) (listed:Array Bool) (a:Act) (w:World),
  wpAny P md ops Q fuel listed a w→wpAnyIn (Fence.wide.inRound l) n P md ops Q fuel listed a w
 | 0,_,_,_,h=>h
 | fuel+1,listed,a,w,h=>⟨h.1,fun i hi=>by
   have hh:=wpOp_mono (fun a' w' h'=>wpAnyIn_of hd hQ fuel _ a' w' h') (h.2 i hi)
   unfold wpOp at hh
   unfold wpOpIn
   cases ho:ops[i]? with
   | none=>rw [ho] at hh;exact hh
   | some o =>
     rw [ho] at hh
     dsimp only at hh ⊢
     by_cases hw:Region.wanted o (yielded ops a.tmps)=true
     · rw [if_pos hw] at hh ⊢
       exact wpIn_of_wp (hd i o · ho) (hh.resolve_right fun h2=>hQ h2.2)
     · rw [if_neg hw] at hh ⊢
       exact ⟨fun _ _=>trivial,hh⟩⟩
theorem noDefer_of {l:List Oper} (h:l.all (fun o=>!(o.op matches .defer _))=true):∀ (i:Nat) (o:Oper) c,(l.toArray)[i]?=some o→o.op≠.defer c:=by
 intro i o c ho e
 have hm:o∈l:=by simpa using Array.mem_of_getElem? ho
 have:=List.all_eq_true.1 h o hm
 rw [e] at this
 cases this
end
end Go.Proofs.YtdpojpcoghcieaaGreat
namespace Go.Proofs.YtdpojpcoghcieaaGreat
open Go.RowKit
section
variable {P:Program} {Q:Exit→Act→World→Prop} {l0 n:Nat}
theorem wpIn_region_reads {id:Nat} {a:Act} {w:World} {l:List Oper} (is ms:List Nat) (S:World→Prop) (hm:P.follows .mixedOrders=true) (hB:orderB l.toArray is ms=true)
  (hI:(is++ms).all (fun i=>decide (i<l.length))=true) (hD:dstB a.tmps.size (pickO l is)=true)
  (hQ:∀ d v c a w,Q (.panic c) (a.put d v) w→Q (.panic c) a w) (hd:l.all (fun o=>!(o.op matches .defer _))=true) (hQ2:¬ LetsOut Q) (hS:S w.drew)
  (hRT:∃ a',(∀ W,S W→wpStill P l.toArray W (fun x=>x=a') (pickO l is) a)∧Spine P l.toArray Q S [] (pickO l ms) a' w.drew):(Code.region id l.toArray true).wpIn (Fence.wide.inRound l0) n P Q a w:=by
 rw [List.all_append,Bool.and_eq_true] at hI
 have hi:=pickO_map hI.1
 have hms:=pickO_map hI.2
 obtain ⟨a',hR,hT⟩:=hRT
 simp only [orderB,Bool.and_eq_true,decide_eq_true_eq] at hB
 obtain ⟨⟨⟨⟨hsel,h1⟩,h2⟩,h3⟩,h4⟩:=hB
 have e1:(pickO l is).length=is.length:=by have:=congrArg List.length hi;simpa using this.symm
 have e2:(pickO l ms).length=ms.length:=by have:=congrArg List.length hms;simpa using this.symm
 refine wpIn_region_any hm ?_
 have H:AnyT P .any l.toArray Q S l.toArray.size ((pickO l is).length+((pickO l ms).length+0)) (Array.replicate l.toArray.size false) a w.drew:=by
  refine AnyT.readsI_ hsel hQ (a':=a') hS (Nat.le_refl _) is _ _ _ a (by simpa using hi) h1 hD hR ?_
  exact AnyT.spineI (rest:=[]) ms _ _ a' _ (by simpa using hms) h2 (fun a w h=>⟨by simpa using h3,h⟩) hT
 rw [show (pickO l is).length+((pickO l ms).length+0)=l.toArray.size by rw [e1,e2];simpa using h4] at H
 exact wpAnyIn_of (noDefer_of hd) hQ2 _ _ _ _ (AnyT.any _ _ _ _ H)
end
end Go.Proofs.YtdpojpcoghcieaaGreat
namespace Go.Proofs.YtdpojpcoghcieaaGreat
open Lib renaming hid → K1
open List renaming filterMap_cons → p1, filterMap_nil → p2, getElem?_cons_zero → p3, getElem?_cons_succ → p4
open Go.RowKit Go.Shelf
attribute [local go_sem] Oper.semAt_some
def backTo (vs ys:List Int) (c q:Nat):Nat→List Int
 | 0=>zeroL c
 | k+1=>addTo 0 (scaleTo (rowL vs c k) (ys[k]?.getD 0) q c) (backTo vs ys c q k) c
theorem backTo_len (vs ys:List Int) (c q:Nat):∀ k,(backTo vs ys c q k).length=c
 | 0=>by simp [backTo]
 | k+1=>by rw [backTo,addTo_len,backTo_len vs ys c q k]
theorem backTo_in (vs ys:List Int) (c q:Nat):∀ k,In64 (backTo vs ys c q k)
 | 0=>zero_in c
 | k+1=>addTo_in (backTo_in vs ys c q k) _
def backS (w:World) (g3 g8 gz gr:Nat) (r c n cap q cy:Nat) (A Y:Option Addr) (vs ys:List Int) (k:Nat) (L:List Ch):Prop :=
 L=[.bel w.heap.size w,.rd A (zC vs),.rd Y (zC ys),.obj (g3+1) (.cells #[.slice Y r cy] 87 (0,0)),.obj (g3+2) (.cells #[.int .i64 q] 3 (0,0)),matB gr r c A n cap,
   .obj g8 (.cells #[.slice (some ⟨gz,0,none⟩) c c] 87 (0,0)),.own gz 2 1 (.slice (some ⟨gz,0,none⟩) c c) c (zC (backTo vs ys c q k))]
set_option maxRecDepth 100000 in
theorem matBack_any (w:World) (r c n cap q cy:Nat) (A Y:Option Addr) (vs ys:List Int) (hr:1≤r∧r≤1048576) (hc:1≤c∧c≤1048576) (hn:n=r*c) (hn2:n≤1048576) (hcap:n≤cap) (hA:Rd w w.heap.size A (zC vs)) (hY:Rd w w.heap.size Y (zC ys)) (hv:vs.length=n) (hy:ys.length=r) (h1:In64 vs) (h2:In64 ys) (hq:q≤62) :
  Calls Tryz.prog 226 #[matV r c A n cap,.slice Y r cy,.int .i64 q] w fun e w'=>∃ gz,e=.returned (.tuple #[.slice (some ⟨gz,0,none⟩) c c,.bool true])∧w'.ownsRow w.heap.size 2 1 (.slice (some ⟨gz,0,none⟩) c c) c (zC (backTo vs ys c q r))∧Below w.heap.size w w':=by
 have CR:=K1 (fun W=>right_any W r c n cap A hr hc hn hn2)
 have CW:=K1 (fun W=>rows_any A r c n cap W)
 have CS:=K1 (fun (W:World) (R:Option Addr) (k:Nat) (y:Int) (hk:k<r) (hR:Rd W W.heap.size R (zC (rowL vs c k))) (hyy:-9223372036854775808≤y∧y≤9223372036854775807)=>scale_any W R c c q y (rowL vs c k) hR (rowL_len (hv.trans hn) hk) (h1.sub _ _) hyy hq (by omega))
 have HV:=K1 (And.intro (hv.trans hn) (And.intro hn (And.intro hy (And.intro h1 h2))))
 have hmk:=run_make_vec c hc.2
 have hm:=((((Mem.start w).add_rd (i:=0) rfl hA).add_rd (i:=0) rfl hY).alloc (.cells #[.int .i64 r,.int .i64 c,.slice A n cap] 333)).alloc (.cells #[.slice Y r cy] 87) |>.alloc (.cells #[.int .i64 q] 3)
 simp only [World.size_alloc] at hm
 have HM:=K1 hm
 clear hm hA hY hv hy h1 h2 hn
 refine (callsIn_wide (n:=5)).1 ?_
 refine callsIn_of_wp_marks Tryz.func226 rfl trivial ?_ rfl
 simp only [Tryz.ntmps226,List.size_toArray,List.length_cons,List.length_nil,Nat.reduceAdd,Nat.reduceSub,Array.replicate_succ,Array.replicate_zero,List.push_toArray,List.append_toArray,List.nil_append,List.cons_append]
 have c3:=HM.out.cells 3 rfl
 have c4:=HM.out.cells 4 rfl
 gi_wp2_with fail
 refine ⟨trivial,(callsIn_wide.2 (CR.out _)).mono ?_⟩
 rintro e w1 ⟨rfl,hb⟩
 replace HM:=K1 (HM.out.below hb)
 clear hb c3 c4 CR
 have HGZ:=K1 (HM.out.bel 0 rfl).size
 have c3:=HM.out.cells 3 rfl
 have c4:=HM.out.cells 4 rfl
 have hm2:=(HM.out.zero c hc.2).alloc (.cells #[.slice (some ⟨w1.heap.size,0,none⟩) c c] 87)
 simp only [World.size_alloc] at hm2
 have HM2:=K1 hm2
 have c5:=hm2.cells 3 rfl
 clear hm2
 gi_wp2_with fail
 replace HM:=HM2
 clear c3 c4 c5 HM2
 refine ⟨trivial,(callsIn_wide.2 (CW.out _)).mono ?_⟩
 rintro e w2 ⟨rfl,rfl⟩
 have hm:=HM.out.alloc (.cells #[.int .i64 r,.int .i64 c,.slice A n cap] 333)
 simp only [World.size_alloc] at hm
 replace HM:=K1 hm
 clear hm
 gi_wp2_with fail
 refine wpIn_range_mem rfl (fun _ _=>by go_simp) (backS w w.heap.size (w1.heap.size+1) w1.heap.size (w1.heap.size+1+1) r c n cap q cy A Y vs ys) r (rowArgs A c) ⟨_,rfl,HM.out.pick [0,1,2,4,5,8,7,6] _ rfl (by decide)⟩ (fun _=>rfl) ?_ ?_ ?_
 · intro l J hE hJ hY W h0
   exact rows1_in _ l _ r c n cap A hc.1 HV.out.2.1 hcap hn2 hr.2 J (fun k W h=>by
    obtain ⟨L,M,rfl,hM⟩:=hE k W h
    exact hM.cells 5 rfl) hJ hY W h0
 · rintro k D l o L W hk rfl hM
   have HM:=K1 hM
   clear hM
   unfold rowArgs
   simp only [List.zip_toArray,List.zip_cons_cons,List.zip_nil_left]
   gi_wp2_with fail
   refine ⟨[],by rw [List.append_nil];exact HM.out,fun o' w2 hM2=>?_⟩
   rw [List.append_nil] at hM2
   have HM2:=K1 hM2
   clear hM2 HM
   obtain ⟨y,hyk⟩:=get_some ys k (by have:=HV.out.2.2.1;omega)
   obtain ⟨bY,oY,rfl,_⟩:=HM2.out.rd 2 rfl (by rw [zC_len];have:=HV.out.2.2.1;omega)
   have CK:=K1 (fun W hR=>CS.out W (A.map fun p=>p.add (k*c)) k y hk hR (HV.out.2.2.2.2.at_ hyk))
   have HS:=K1 (show backTo vs ys c q (k+1)=addTo 0 (scaleTo (rowL vs c k) y q c) (backTo vs ys c q k) c by rw [backTo,hyk];rfl)
   have HYK:=K1 (zC_at hyk)
   have HSL:=K1 (show (scaleTo (rowL vs c k) y q c).length=c by rw [scaleTo_len];exact rowL_len HV.out.1 hk)
   have HBL:=K1 (backTo_len vs ys c q k)
   clear hyk CS
   generalize backTo vs ys c q k=bs at *
   have HR:=K1 (HM2.out.drew.row (i:=1) rfl HV.out.1 hk hc.1)
   gi_wp2_with fail
   refine wpIn_region_reads [0,1,2,3,4,5,6] [7,8] (fun W'=>W'.cell? ⟨w1.heap.size+1,0,none⟩=some (.slice (some ⟨w1.heap.size,0,none⟩) c c)∧W'.cell? ⟨w.heap.size+1,0,none⟩=some (.slice (some ⟨bY,oY,none⟩) r cy)∧W'.cell? ⟨w.heap.size+2,0,none⟩=some (.int .i64 q)∧W'.cell? ⟨bY,oY+k,none⟩=some (.int .i64 y))
    (by kernel_rfl) (by kernel_rfl) (by kernel_rfl) (by kernel_rfl) (by intro d v c a w h;cases d <;> exact h) (by decide) (by rintro ⟨_,_,h⟩;exact h) ⟨HM2.out.drew.cell 6 0 rfl rfl,HM2.out.drew.cell 3 0 rfl rfl,HM2.out.drew.cell 4 0 rfl rfl,HM2.out.drew.rdAt 2 rfl HYK.out⟩ ?_
   simp only [pickO,p1,p2,p3,p4]
   apply Exists.intro
   apply And.intro
   · intro W' hS
     obtain ⟨s1,s2,s3,s4⟩:=hS
     repeat still_step
     exact wpStill_nil rfl
   replace HM2:=K1 HM2.out.drew
   refine Spine.step ?_
   go_wp2_with fail
   (with_reducible refine (CK.out _ HR.out).mono ?_)
   rintro e w3 ⟨A3,cc,rfl,ho,hcc,hb⟩
   have HM3:=K1 (HM2.out.push_rd hb (rd_of_own ho) (own_from_base ho))
   clear hb ho HM2 CK
   go_wp2_with fail
   refine Behind.go ⟨HM3.out.cell 6 0 rfl rfl,HM3.out.cell 3 0 rfl rfl,HM3.out.cell 4 0 rfl rfl,HM3.out.rdAt 2 rfl HYK.out⟩ (Spine.step ?_)
   go_wp2_with fail
   refine (vadd_any w3 _ HM3.out 7 10 w1.heap.size c c 0 c c cc (some ⟨w1.heap.size,0,none⟩) (some ⟨w1.heap.size,0,none⟩) A3 bs _ rfl rfl HSL.out (by have:=HBL.out;omega) HBL.out (fun _=>rfl) (Nat.le_refl _) hcc (by omega)).mono ?_
   rintro e w4 ⟨rfl,hm4⟩
   rw [← HS.out] at hm4
   have HM4:=K1 hm4
   clear hm4 HM3
   go_wp2_with fail
   refine Behind.go ⟨HM4.out.cell 6 0 rfl rfl,HM4.out.cell 3 0 rfl rfl,HM4.out.cell 4 0 rfl rfl,HM4.out.rdAt 2 rfl HYK.out⟩ (Spine.nil_ ?_)
   exact ⟨_,[_],rfl,HM4.out⟩
 · rintro D l o L W rfl hM
   have HM:=K1 hM
   clear hM
   have c0:=HM.out.cell 6 0 rfl rfl
   gi_wp2_with fail
   refine ⟨by simp,.inl ⟨_,_,rfl,run_takeDeferred (HM.out.obj 8 rfl),?_⟩⟩
   have hF:=HM.out.put (i:=8) rfl (.deferred none)
   exact ⟨_,results_tmp2 rfl _ _ _,_,rfl,own_from HGZ.out (hF.own 7 rfl),hF.bel 0 rfl⟩
end Go.Proofs.YtdpojpcoghcieaaGreat
namespace Go.Proofs.YtdpojpcoghcieaaGreat
open Lib renaming hid → K1
open List renaming filterMap_cons → p1, filterMap_nil → p2, getElem?_cons_zero → p3, getElem?_cons_succ → p4
open Go.RowKit Go.Shelf
attribute [local go_sem] Oper.semAt_some
def outIn (ys xs:List Int) (q c k:Nat) (l:List Int):Nat→List Int
 | 0=>l
 | j+1=>(outIn ys xs q c k l j).set (k*c+j) (mulF (ys[k]?.getD 0) (xs[j]?.getD 0) q)
def outTo (ys xs:List Int) (q c n:Nat):Nat→List Int
 | 0=>zeroL n
 | k+1=>outIn ys xs q c k (outTo ys xs q c n k) c
theorem outIn_len (ys xs:List Int) (q c k:Nat) (l:List Int):∀ j,(outIn ys xs q c k l j).length=l.length
 | 0=>rfl
 | j+1=>by rw [outIn,List.length_set,outIn_len ys xs q c k l j]
theorem outTo_len (ys xs:List Int) (q c n:Nat):∀ k,(outTo ys xs q c n k).length=n
 | 0=>by simp [outTo]
 | k+1=>by rw [outTo,outIn_len,outTo_len ys xs q c n k]
def outP (w:World) (g3 g7 gz gr:Nat) (r c n q cy cx:Nat) (Y X:Option Addr) (ys xs:List Int) (l:List Int):List Ch :=
 [.bel w.heap.size w,.rd Y (zC ys),.rd X (zC xs),.obj g3 (.cells #[.slice Y r cy] 87 (0,0)),.obj (g3+1) (.cells #[.slice X c cx] 87 (0,0)),.obj (g3+2) (.cells #[.int .i64 q] 3 (0,0)),
  .obj (g3+3) (.cells #[.int .i64 0,.int .i64 0,.slice none 0 0] 333 (0,0)),matB g7 r c (some ⟨gz,0,none⟩) n n,matB gr r c (some ⟨gz,0,none⟩) n n,.own (g3+4) 2 1 (.slice (some ⟨gz,0,none⟩) n n) n (zC l)]
set_option maxRecDepth 100000 in
theorem outer_any (w:World) (r c n q cy cx:Nat) (Y X:Option Addr) (ys xs:List Int) (hr:1≤r∧r≤1048576) (hc:1≤c∧c≤1048576) (hn:n=r*c) (hn2:n≤1048576) (hY:Rd w w.heap.size Y (zC ys)) (hX:Rd w w.heap.size X (zC xs)) (hy:ys.length=r) (hx:xs.length=c) (h1:In64 ys) (h2:In64 xs) (hq:q≤62) :
  Calls Tryz.prog 225 #[.slice Y r cy,.slice X c cx,.int .i64 q] w fun e w'=>∃ gz,e=.returned (matV r c (some ⟨gz,0,none⟩) n n)∧w'.ownsRow w.heap.size 2 1 (.slice (some ⟨gz,0,none⟩) n n) n (zC (outTo ys xs q c n r))∧Below w.heap.size w w':=by
 have CN:=K1 (fun W=>matNew_any W r c n hr hc hn hn2)
 have CR:=K1 (fun W g=>right_any W r c n n (some ⟨g,0,none⟩) hr hc hn hn2)
 have CW:=K1 (fun W g=>rows_any (some ⟨g,0,none⟩) r c n n W)
 have CM:=K1 (fun W a b h3 h4=>mul_any W a b q hq h3 h4)
 have HV:=K1 (And.intro hy (And.intro hx (And.intro hn (And.intro h1 h2))))
 have hm:=((((Mem.start w).add_rd (i:=0) rfl hY).add_rd (i:=0) rfl hX).alloc (.cells #[.slice Y r cy] 87)).alloc (.cells #[.slice X c cx] 87) |>.alloc (.cells #[.int .i64 q] 3) |>.alloc (.cells #[.int .i64 0,.int .i64 0,.slice none 0 0] 333)
 simp only [World.size_alloc] at hm
 have HM:=K1 hm
 clear hm hY hX hy hx h1 h2 hn
 refine (callsIn_wide (n:=5)).1 ?_
 refine callsIn_of_wp_marks Tryz.func225 rfl trivial ?_ rfl
 simp only [Tryz.ntmps225,List.size_toArray,List.length_cons,List.length_nil,Nat.reduceAdd,Nat.reduceSub,Array.replicate_succ,Array.replicate_zero,List.push_toArray,List.append_toArray,List.nil_append,List.cons_append]
 have c3:=HM.out.cells 3 rfl
 have c4:=HM.out.cells 4 rfl
 gi_wp2_with fail
 refine ⟨trivial,(callsIn_wide.2 (CN.out _)).mono ?_⟩
 rintro e w1 ⟨gz,rfl,ho,hb⟩
 replace HM:=K1 (HM.out.push_own hb ho rfl)
 clear hb c3 c4 CN ho
 gi_wp2_with fail
 replace HM:=K1 (HM.out.alloc (.cells #[.int .i64 r,.int .i64 c,.slice (some ⟨gz,0,none⟩) n n] 333))
 refine ⟨trivial,(callsIn_wide.2 (CR.out _ _)).mono ?_⟩
 rintro e w2 ⟨rfl,hb⟩
 replace HM:=K1 (HM.out.below hb)
 clear hb CR
 have c3:=HM.out.cells 8 rfl
 gi_wp2_with fail
 refine ⟨trivial,(callsIn_wide.2 (CW.out _ _)).mono ?_⟩
 rintro e w3 ⟨rfl,rfl⟩
 have hm:=HM.out.alloc (.cells #[.int .i64 r,.int .i64 c,.slice (some ⟨gz,0,none⟩) n n] 333)
 simp only [World.size_alloc] at hm
 replace HM:=K1 hm
 clear hm c3 CW
 gi_wp2_with fail
 refine wpIn_range_mem rfl (fun _ _=>by go_simp) (fun k L=>L=outP w w.heap.size w1.heap.size gz w2.heap.size r c n q cy cx Y X ys xs (outTo ys xs q c n k)) r (rowArgs (some ⟨gz,0,none⟩) c) ⟨_,rfl,HM.out.pick [0,1,2,3,4,5,6,8,9,7] _ rfl (by decide)⟩ (fun _=>rfl) ?_ ?_ ?_
 · intro l J hE hJ hY W h0
   exact rows1_in _ l _ r c n n _ hc.1 HV.out.2.2.1 (Nat.le_refl _) hn2 hr.2 J (fun k W h=>by
    obtain ⟨L,M,rfl,hM⟩:=hE k W h
    exact hM.cells 8 rfl) hJ hY W h0
 · rintro k D l o L W hk rfl hM
   have HMk:=K1 hM
   clear hM
   unfold rowArgs
   simp only [List.zip_toArray,List.zip_cons_cons,List.zip_nil_left]
   gi_wp2_with fail
   refine ⟨[],by rw [List.append_nil];exact HMk.out,fun o' w4 hM2=>?_⟩
   rw [List.append_nil] at hM2
   have HM2:=K1 hM2
   clear hM2 HMk HM
   obtain ⟨y,hyk⟩:=get_some ys k (by have:=HV.out.1;omega)
   obtain ⟨bY,oY,rfl,_⟩:=HM2.out.rd 1 rfl (by rw [zC_len];have:=HV.out.1;omega)
   have HYK:=K1 (And.intro (zC_at hyk) (HV.out.2.2.2.1.at_ hyk))
   have HOT:Hid (outTo ys xs q c n (k+1)=outIn ys xs q c k (outTo ys xs q c n k) c):=K1 rfl
   have HOS:=K1 (show ∀ j x,xs[j]?=some x→outIn ys xs q c k (outTo ys xs q c n k) (j+1)=(outIn ys xs q c k (outTo ys xs q c n k) j).set (k*c+j) (mulF y x q) from fun j x hx=>by rw [outIn,hyk,hx];rfl)
   have HOL:=K1 (show ∀ j,(outIn ys xs q c k (outTo ys xs q c n k) j).length=n from fun j=>by rw [outIn_len,outTo_len])
   have HO0:Hid (outTo ys xs q c n k=outIn ys xs q c k (outTo ys xs q c n k) 0):=K1 rfl
   have hle:=Nat.mul_le_mul_right c (show k+1≤r by omega)
   rw [Nat.succ_mul,← HV.out.2.2.1] at hle
   rw [HO0.out] at HM2
   clear hyk HO0
   generalize outIn ys xs q c k (outTo ys xs q c n k)=ol at *
   obtain ⟨lo,hlo⟩:∃ lo,lo=k*c:=⟨_,rfl⟩
   rw [← hlo] at HOS hle ⊢
   clear hlo
   try simp only [Option.map_some,add_none,Nat.zero_add]
   gi_wp2_with fail
   gi_loopw [26] (fun i wr=>∃ j:Nat,j≤c∧i=.int .i64 j∧Hid (Mem wr (outP w w.heap.size w1.heap.size gz w2.heap.size r c n q cy cx (some ⟨bY,oY,none⟩) X ys xs (ol j)++loopP D l o'))) (fun i _=>c-(intOf i).toNat)
   case atStart=>exact ⟨0,Nat.zero_le _,rfl,HM2⟩
   case round =>
    clear HM2
    obtain ⟨j,hj,rfl,HM⟩:=hrel
    by_cases hlt:j<c
    · obtain ⟨x,hxj⟩:=get_some xs j (by have:=HV.out.2.1;omega)
      obtain ⟨bX,oX,rfl,_⟩:=HM.out.rd 2 rfl (by rw [zC_len];have:=HV.out.2.1;omega)
      have HXJ:=K1 (zC_at hxj)
      have CK:=K1 (fun W=>CM.out W y x HYK.out.2 (HV.out.2.2.2.2.at_ hxj))
      have HS:=K1 (show zC (ol (j+1))=(zC (ol j)).set (lo+j) (.int .i64 (mulF y x q)) by rw [HOS.out j x hxj,zC_set])
      have HL:=K1 (HOL.out j)
      clear hxj
      generalize mulF y x q=p at *
      gi_wp2_with fail
      refine wpIn_region_reads [0,1,2,3,4,5,6,7,8,9,10] [11,12,13] (fun W'=>W'.cell? ⟨w.heap.size,0,none⟩=some (.slice (some ⟨bY,oY,none⟩) r cy)∧W'.cell? ⟨w.heap.size+1,0,none⟩=some (.slice (some ⟨bX,oX,none⟩) c cx)∧W'.cell? ⟨w.heap.size+2,0,none⟩=some (.int .i64 q)∧W'.cell? ⟨bY,oY+k,none⟩=some (.int .i64 y)∧W'.cell? ⟨bX,oX+j,none⟩=some (.int .i64 x))
       (by kernel_rfl) (by kernel_rfl) (by kernel_rfl) (by kernel_rfl) (by intro d v c a w h;cases d <;> exact h) (by decide) (by rintro ⟨_,_,h⟩;exact h) ⟨HM.out.drew.cell 3 0 rfl rfl,HM.out.drew.cell 4 0 rfl rfl,HM.out.drew.cell 5 0 rfl rfl,HM.out.drew.rdAt 1 rfl HYK.out.1,HM.out.drew.rdAt 2 rfl HXJ.out⟩ ?_
      simp only [pickO,p1,p2,p3,p4]
      apply Exists.intro
      apply And.intro
      · intro W' hS
        obtain ⟨s1,s2,s3,s4,s5⟩:=hS
        repeat still_step
        exact wpStill_nil rfl
      replace HM:=K1 HM.out.drew
      refine Spine.step ?_
      go_wp2_with fail
      (with_reducible refine (CK.out _).mono ?_)
      rintro e w5 ⟨rfl,hb⟩
      have HM3:=K1 (HM.out.below hb)
      clear hb HM CK
      go_wp2_with fail
      refine Behind.go ⟨HM3.out.cell 3 0 rfl rfl,HM3.out.cell 4 0 rfl rfl,HM3.out.cell 5 0 rfl rfl,HM3.out.rdAt 1 rfl HYK.out.1,HM3.out.rdAt 2 rfl HXJ.out⟩ (Spine.step ?_)
      go_wp2_with fail
      refine Behind.go ⟨HM3.out.cell 3 0 rfl rfl,HM3.out.cell 4 0 rfl rfl,HM3.out.cell 5 0 rfl rfl,HM3.out.rdAt 1 rfl HYK.out.1,HM3.out.rdAt 2 rfl HXJ.out⟩ (Spine.step ?_)
      obtain ⟨v,hv⟩:∃ v,w5.cell? ⟨gz,lo+j,none⟩=some v:=⟨_,((HM3.out.own 9 rfl).cellAt (lo+j) (by omega)).trans (List.getElem?_eq_getElem (by rw [zC_len,HL.out];omega))⟩
      have kf:=HM3.out.ownF 9 rfl
      have hm4:=HM3.out.setOwn (i:=9) (j:=lo+j) rfl (.int .i64 p)
      rw [← HS.out] at hm4
      have HM4:=K1 hm4
      clear hm4 HM3
      go_wp2_with fail
      refine Behind.go ⟨HM4.out.cell 3 0 rfl rfl,HM4.out.cell 4 0 rfl rfl,HM4.out.cell 5 0 rfl rfl,HM4.out.rdAt 1 rfl HYK.out.1,HM4.out.rdAt 2 rfl HXJ.out⟩ (Spine.nil_ ?_)
      clear hv kf
      apply_assumption
      gi_wp2_with fail
      go_roundw
      case rel=>exact ⟨j+1,by omega,by go_num,HM4⟩
      case measure=>simp [intOf];omega
    · have hjc:j=c:=by omega
      subst hjc
      gi_wp2_with fail
      exact ⟨_,[],rfl,by rw [List.append_nil,HOT.out];exact HM.out⟩
 · rintro D l o L W rfl hM
   have HM:=K1 hM
   clear hM
   have c0:=HM.out.cells 7 rfl
   have c1:=HM.out.cells 6 rfl
   have f1:=fun j=>HM.out.frozen 6 j rfl
   gi_wp2_with fail
   refine ⟨by simp,.inl ⟨_,_,rfl,run_takeDeferred ((((HM.out.set (i:=6) (j:=0) rfl (.int .i64 r)).set (i:=6) (j:=1) rfl (.int .i64 c)).set (i:=6) (j:=2) rfl (.slice (some ⟨gz,0,none⟩) n n)).obj 10 rfl),?_⟩⟩
   have hF:=K1 ((((HM.out.set (i:=6) (j:=0) rfl (.int .i64 r)).set (i:=6) (j:=1) rfl (.int .i64 c)).set (i:=6) (j:=2) rfl (.slice (some ⟨gz,0,none⟩) n n)).put (i:=10) rfl (.deferred none))
   clear c0 c1 f1 HM
   have c0:=hF.out.cells 6 rfl
   refine ⟨matV r c (some ⟨gz,0,none⟩) n n,?_,gz,rfl,own_from (by omega) (hF.out.own 9 rfl),hF.out.bel 0 rfl⟩
   simp [results,Tryz.results225,go_sem,c0]
end Go.Proofs.YtdpojpcoghcieaaGreat
