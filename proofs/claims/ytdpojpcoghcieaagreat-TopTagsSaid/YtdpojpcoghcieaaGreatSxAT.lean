/- A part of the proof of TopTags: RefWts. Conditions: none. -/
import Derived.Test.YtdpojpcoghcieaaGreatSxAQ
set_option maxHeartbeats 8000000
set_option linter.all false
namespace Go.Proofs.YtdpojpcoghcieaaGreat
open Lib renaming hid → K1
open Go.RowKit
set_option maxRecDepth 100000
open Value renaming int → U
open IntKind renaming i64 → O
open Nat renaming le_refl → ZE
open IntWalk renaming i64_in → ZF
open List renaming getElem?_map → ZG, getElem?_eq_getElem → ZH
section
theorem LQ {w:World} {B:Nat} {A:Option Addr} {zs:List Int} (h:RdI w B A zs) (n:Nat):RdI w B A (zs.take n):=fun h0=>by
 obtain ⟨b,off,e,hb,hc⟩:=h (by simp at h0 ⊢;omega);refine ⟨b,off,e,hb,fun j u hu=>hc j u ?_⟩;rw [ZG,List.getElem?_take] at hu
 split at hu
 . rw [ZG];exact hu
 . cases hu
theorem QT {W w':World} {g:Nat} {o:Obj} (h:W.heap[g]?=some o) (hb:Below W.heap.size W w'):w'.heap[g]?=some o:=Bp h hb (AZ h)
theorem NsOk.okSz {ns:List Nat} (h:NsOk ns) (n:Nat):((AX ns).take n).all okSz=true:=by
 refine List.all_eq_true.2 fun z hz=>Di.2 ?_;obtain ⟨x,hx,rfl⟩:=List.mem_map.1 (List.mem_of_mem_take hz);have h1:=h.pos x hx;obtain ⟨i,hi,rfl⟩:=List.mem_iff_getElem.1 hx
 by_cases hl:i<ns.length-1
 . obtain ⟨a,b,ha,_,_,_,_,_,h3,_⟩:=h.at_ hl;rw [ZH hi] at ha;injection ha with ha
   omega
 . have h2:=h.len;obtain ⟨a,b,_,hb,_,_,_,_,_,h3,_⟩:=h.at_ (k:=i-1) (by omega);rw [show i-1+1=i by omega,ZH hi] at hb;injection hb with hb
   omega
theorem LR {ns:List Nat} {k:Nat} (hk:k<ns.length):cnt ((AX ns).take (k+1))=(offN ns k:Int):=Fo ns k hk
theorem H6 {ns:List Nat} {k:Nat} (hk:k<=ns.length):((AX ns).take k).length=k:=by simp;omega
theorem LS (w:World) (A:Option Addr) (m cs k:Nat) (ns:List Nat) (hr:Rd w w.heap.size A (zC (AX ns))) (hn:NsOk ns) (hm:ns.length=m) (hcs:m<=cs) (hk:k<m-1) :
  Calls Tryz.prog 161 #[.slice A m cs,U O k] w fun e w'=>e=.returned (.agg #[U O (offN ns k),U O (midN ns k)])/\Below w.heap.size w w':=by
 have HB0:=K1 ((Below.refl w.heap.size w).alloc (ZE _) (.cells #[U O 0,U O 0] 72));have HF:=K1 (heap_alloc_new w (.cells #[U O 0,U O 0] 72));have h16:=hn.len;obtain ⟨a,a',ha,ha',h1a,h1b,e1,e2,h3a,h3b,h4⟩:=hn.at_ (k:=k) (by omega);have h5:=hn.few;obtain ⟨b,off,rfl,hb,hcs'⟩:=RdI.at_ (zs:=AX ns) hr (by simp;omega);have f1:=hcs' k _ (Dp ha);have f2:=hcs' (k+1) _ (Dp ha');have hC:=fun W (hW:Below w.heap.size w W)=>FF (some ⟨b,off,none⟩) cs ((AX ns).take (k+1)) W (LQ (RdI.more (RdI.below hr hW) hW.size) _) (by rw [H6 (by omega)];omega) (hn.okSz _)
 rw [H6 (by omega),LR (by omega)] at hC;have hp:a*a'=midN ns k-offN ns k:=by rw [e1,Nat.mul_comm];omega
 have hML:offN ns k<=midN ns k/\midN ns k<=1000:=by omega
 generalize midN ns k=M at *;generalize offN ns k=L at *
 obtain ⟨p,hp'⟩:∃ p,a*a'=p:=⟨_,rfl⟩
 have m1:IntKind.i64.wrap ((a:Int)*(a':Int))=(p:Int):=by rw [<- Int.natCast_mul,hp'];exact ZF _ (by omega)
 have m2:IntKind.i64.wrap ((L:Int)+(p:Int))=(M:Int):=by rw [show (L:Int)+(p:Int)=(M:Int) by omega];exact ZF _ (by omega)
 have p1:IntKind.i64.wrap ((k:Int)+1)=(k:Int)+1:=ZF _ (by omega);have p2:((k:Int)+1).toNat=k+1:=by omega
 have HC:=K1 hC;have hn0:¬ (k:Int)<0:=by omega
 have hn1:(k:Int)<(m:Int)-1:=by omega
 have hn5:(0:Int)<=(k:Int):=by omega
 have hcap2:(k:Int)+1<=(cs:Int):=by omega
 have hlen2:(k:Int)+1<(m:Int):=by omega
 have hlen3:(k:Int)<(m:Int):=by omega
 have hcp:(m:Int)<=(cs:Int):=by omega
 have hm16:(m:Int)<=16:=by omega
 have p3:(0:Int)<=(k:Int)+1:=by omega
 have HCF:=K1 (fun W (hW:Below w.heap.size w W)=>And.intro ((hW.cell (p:=⟨b,off+k,none⟩) hb).trans f1) ((hW.cell (p:=⟨b,off+(k+1),none⟩) hb).trans f2));clear hr hcs' f1 f2 hC hk hn hcs e1 e2 h3a h3b h4 h5 ha ha' hp hp' hm hML h16;go_enter Tryz.func161,Tryz.ntmps161;go_wp2_with fail
 (with_reducible refine (HC.out _ HB0.out).mono ?_)
 rintro e w1 ⟨rfl,q,rfl⟩
 obtain ⟨w1,hw1⟩:∃ W,(w.alloc (.cells #[U O 0,U O 0] 72)).drewN q=W:=⟨_,rfl⟩
 have HB1:=K1 (show Below w.heap.size w w1 from hw1 ▸ B6 HB0.out q);have HF1:=K1 (show w1.heap[w.heap.size]?=some (.cells #[U O 0,U O 0] 72 (0,0)) from hw1 ▸ GE HF.out q);rw [hw1];have F0:=Ay HF1.out 0;have F1:=Ay HF1.out 1;have Z0:=DD HF1.out 0;have Z1:=DD HF1.out 1;have hbl:w.heap.size<w1.heap.size:=AZ HF1.out;clear hw1 HC HF HB0;go_wp2_with fail
 go_region_held3 (fun w'=>w'.cell? ⟨b,off+k,none⟩=some (U O a)/\w'.cell? ⟨b,off+(k+1),none⟩=some (U O a'))
  (first
   | exact HCF.out _ ((Cs HB1.out).setCell (p:=⟨w.heap.size,0,none⟩) (ZE _) _ |>.setCell (p:=⟨w.heap.size,1,none⟩) (ZE _) _)
   | exact HCF.out _ (Cs HB1.out)
   | exact HCF.out _ HB1.out)
  (fail)
 have K:=Ec (Ec HF1.out 0 (U O (L:Int))) 1 (U O (M:Int));have K0:=Ay K 0;have KV1:=Ay K 1;have HB3:=K1 (Cs ((HB1.out.setCell (p:=⟨w.heap.size,0,none⟩) (ZE _) (U O (L:Int))).setCell (p:=⟨w.heap.size,1,none⟩) (ZE _) (U O (M:Int))));clear F0 F1 Z0 Z1 K;go_wp2_with fail;refine bodyPost_ret (v:=.agg #[U O L,U O M]) ?_ rfl ⟨rfl,HB3.out⟩;simp [results,Tryz.results161,go_sem,K0,KV1]
theorem QU (w:World) (A:Option Addr) (m cs k:Nat) (ns:List Nat) (hr:Rd w w.heap.size A (zC (AX ns))) (hn:NsOk ns) (hm:ns.length=m) (hcs:m<=cs) (hk:k<m-1) :
  Calls Tryz.prog 169 #[.slice A m cs,U O k] w fun e w'=>e=.returned (.agg #[U O (midN ns k),U O (offN ns (k+1))])/\Below w.heap.size w w':=by
 have HB0:=K1 ((Below.refl w.heap.size w).alloc (ZE _) (.cells #[U O 0,U O 0] 72));have HF:=K1 (heap_alloc_new w (.cells #[U O 0,U O 0] 72));have h16:=hn.len;have hW:=fun W (hW:Below w.heap.size w W)=>LS W A m cs k ns (Rd.more (Rd.below hr hW) hW.size) hn hm hcs hk
 obtain ⟨b,off,rfl,hb,hcs'⟩:=RdI.at_ (zs:=AX ns) hr (by simp;omega);have hC:=fun W (hW:Below w.heap.size w W)=>FF (some ⟨b,off,none⟩) cs ((AX ns).take (k+2)) W (LQ (RdI.more (RdI.below hr hW) hW.size) _) (by rw [H6 (by omega)];omega) (hn.okSz _)
 rw [H6 (by omega),LR (k:=k+1) (by omega)] at hC;generalize midN ns k=M at *;generalize offN ns (k+1)=L1 at *;generalize offN ns k=L at *;have hfd:∀ w:World,(Instr.field 72 (.agg #[U O (L:Int),U O (M:Int)]) 1).run Tryz.prog w=.ok (U O (M:Int)) w:=fun _=>by kernel_rfl
 have p1:IntKind.i64.wrap ((k:Int)+2)=(k:Int)+2:=ZF _ (by omega);have p2:((k:Int)+2).toNat=k+2:=by omega
 have HC:=K1 hC;have HW:=K1 hW;have hn0:¬ (k:Int)<0:=by omega
 have hn1:(k:Int)<(m:Int)-1:=by omega
 have hn5:(0:Int)<=(k:Int):=by omega
 have hcap2:(k:Int)+2<=(cs:Int):=by omega
 have p3:(0:Int)<=(k:Int)+2:=by omega
 have hcp:(m:Int)<=(cs:Int):=by omega
 have hm16:(m:Int)<=16:=by omega
 clear hr hcs' hC hW hk hn hcs hm h16;go_enter Tryz.func169,Tryz.ntmps169;go_wp2_with fail
 go_region_held3 (fun _=>True) (trivial)
  (first
   | (go_at_call 161
      (with_reducible refine (HW.out _ (Cs HB0.out)).mono ?_)
      rintro e w1 ⟨rfl,hb1⟩;have HB1:=K1 ((Cs HB0.out).trans (hb1.mono HB0.out.size));have HF1:=K1 (QT (F8 HF.out) hb1)
      clear hb1 HB0 HF HW)
   | (go_at_call 55
      (with_reducible refine (HC.out _ HB1.out).mono ?_)
      rintro e w2 ⟨rfl,q,rfl⟩;have F0:=Ay HF1.out 0;have F1:=Ay HF1.out 1;have Z0:=DD HF1.out 0;have Z1:=DD HF1.out 1;have hbl:w.heap.size<w1.heap.size:=AZ HF1.out
      clear HC))
 have K:=Ec (Ec (GE HF1.out q) 0 (U O (M:Int))) 1 (U O (L1:Int));have K0:=Ay K 0;have KV1:=Ay K 1;have HB3:=K1 (((B6 HB1.out q).setCell (p:=⟨w.heap.size,0,none⟩) (ZE _) (U O (M:Int))).setCell (p:=⟨w.heap.size,1,none⟩) (ZE _) (U O (L1:Int)));clear F0 F1 Z0 Z1 K;go_wp2_with fail;refine bodyPost_ret (v:=.agg #[U O M,U O L1]) ?_ rfl ⟨rfl,HB3.out⟩;simp [results,Tryz.results169,go_sem,K0,KV1]
end
end Go.Proofs.YtdpojpcoghcieaaGreat
