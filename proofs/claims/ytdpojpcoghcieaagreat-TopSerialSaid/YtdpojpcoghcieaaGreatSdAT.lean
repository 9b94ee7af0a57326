/- A part of the proof of TopSerial: Trace, Sgd, Link. Conditions: none. -/
import Derived.Test.YtdpojpcoghcieaaGreatSdAS
import Derived.Test.YtdpojpcoghcieaaGreatSdAO
set_option maxHeartbeats 8000000
namespace Go.Proofs.YtdpojpcoghcieaaGreat
open Lib renaming hid → K1
open List renaming filterMap_cons → p1, filterMap_nil → p2, getElem?_cons_zero → p3, getElem?_cons_succ → p4
open Go.RowKit
theorem infoVV:(Tryz.prog.info? 87).map (fun i=>(i.zero,i.size,i.bytes))=some (some (.slice none 0 0),1,24):=by kernel_rfl
theorem rowVV:RowT Tryz.prog 340 87 1 24:=by
 obtain ⟨i0,hi,hz0,hz1,hz2⟩:=info_parts infoVV
 exact ⟨i0,_,Tryz.underlying340,hi,hz0,hz1,hz2,rfl,by decide,by decide⟩
def vvO (base n c:Nat) (A:Option Addr) (xs:List Value):Ch:=.own base 87 1 (.slice A n c) n xs
def vvB (g n c:Nat) (A:Option Addr):Ch:=.obj g (.cells #[.slice A n c] 340 (0,0))
theorem trace1_any (w:World) (L:List Ch) (h:Mem w L) (ib io base g n c m cz:Nat) (A Z:Option Addr) (xs:List Value) (hb:L[ib]?=some (vvB g n c A)) (ho:L[io]?=some (vvO base n c A xs)) (hn:n≤1000) :
  Calls Tryz.prog 241 #[.slice Z m cz,.pointer (some ⟨g,0,none⟩)] w fun e w'=>e=.returned (.tuple #[])∧∃ A' c',Mem w' (two L ib io (vvB g (n+1) c' A') (vvO base (n+1) c' A' (xs++[.slice Z m cz]))):=by
 have HB:=K1 hb
 have HO:=K1 ho
 have HN:=K1 (idx_ne ho hb (by simp [vvO,vvB]))
 have c0:=h.cell ib 0 hb rfl
 have HM1:=K1 (h.alloc (.cells #[.slice Z m cz] 87))
 clear h hb ho
 go_enter Tryz.func241,Tryz.ntmps241
 go_wp2_with (at_builtin;refine wpList_append_mem rfl _ _ 340 rfl HM1.out io rowVV (at_l HO.out) rfl _ 1 _ [.slice Z m cz] rfl (HM1.out.box L.length at_last) rfl (by intro u hu;simp at hu;subst hu;rfl) (by omega) ?_;intro A' c' W5 hM5;have hM6:=hM5.setl HO.out;have c4:=hM6.cell ib 0 (at_ne HN.out HB.out) rfl;have f4:=hM6.frozen ib 0 (at_ne HN.out HB.out);have HM6:=K1 hM6;clear hM5 hM6 HM1 c0)
 go_end0
 refine ⟨rfl,A',c',?_⟩
 have h7:=HM6.out.set (i:=ib) (j:=0) (at_ne HN.out HB.out) (.slice A' (n+1) c')
 unfold two
 rw [List.set_comm _ _ HN.out] at h7
 exact h7
def relTo (xs:List Int):Nat→List Int
 | 0=>xs
 | k+1=>(relTo xs k).set k (max (xs[k]?.getD 0) 0)
theorem relTo_len (xs:List Int):∀ k,(relTo xs k).length=xs.length
 | 0=>rfl
 | k+1=>by rw [relTo,List.length_set,relTo_len xs k]
theorem relTo_at (xs:List Int):∀ k j,k≤j→(relTo xs k)[j]?=xs[j]?
 | 0,_,_=>rfl
 | k+1,j,h=>by rw [relTo,List.getElem?_set_ne (by omega),relTo_at xs k j (by omega)]
theorem relTo_in {xs:List Int} (h:In64 xs):∀ k,In64 (relTo xs k)
 | 0=>h
 | k+1=>by
   refine (relTo_in h k).set _ ?_
   cases hx:xs[k]? with
   | none=>simp
   | some x=>have:=h.at_ hx;simp;omega
def linL (ns:List Nat) (ps:List Int) (q k:Nat) (xs:List Int):List Int :=
 addTo 0 (subL ps (midN ns k) (offN ns (k+1))) (mvL (subL ps (offN ns k) (midN ns k)) xs (ns[k]?.getD 0) q (ns[k+1]?.getD 0)) (ns[k+1]?.getD 0)
def layL (ns:List Nat) (ps:List Int) (q:Nat) (xs:List Int):Nat→List Int
 | 0=>xs
 | k+1=>if k+1<ns.length-1 then relTo (linL ns ps q k (layL ns ps q xs k)) (ns[k+1]?.getD 0) else linL ns ps q k (layL ns ps q xs k)
theorem linL_len (ns:List Nat) (ps:List Int) (q k:Nat) (xs:List Int):(linL ns ps q k xs).length=ns[k+1]?.getD 0:=by rw [linL,addTo_len,mvL_len]
theorem linL_in (ns:List Nat) (ps:List Int) (q k:Nat) (xs:List Int):In64 (linL ns ps q k xs):=addTo_in (mvL_in _ _ _ _ _) _
theorem layL_len (ns:List Nat) (ps:List Int) (q:Nat) (xs:List Int) (hx:xs.length=ns[0]?.getD 0):∀ k,(layL ns ps q xs k).length=ns[k]?.getD 0
 | 0=>hx
 | k+1=>by
   rw [layL]
   split
   · rw [relTo_len,linL_len]
   · rw [linL_len]
theorem layL_in (ns:List Nat) (ps:List Int) (q:Nat) {xs:List Int} (hx:In64 xs):∀ k,In64 (layL ns ps q xs k)
 | 0=>hx
 | k+1=>by
   rw [layL]
   split
   · exact relTo_in (linL_in _ _ _ _ _) _
   · exact linL_in _ _ _ _ _
structure Ly where
 A:Option Addr
 c:Nat
 v:List Int
def lyVals (ls:List Ly):List Value:=ls.map fun l=>.slice l.A l.v.length l.c
def lyFam (ls:List Ly):List (Option Addr × List Value):=ls.map fun l=>(l.A,zC l.v)
def lyOk (ns:List Nat) (ps:List Int) (q:Nat) (xs:List Int) (n:Nat) (ls:List Ly):Prop:=ls.map Ly.v=(List.range n).map (layL ns ps q xs)∧∀ l∈ls,l.v.length≤l.c
theorem lyOk.len {ns:List Nat} {ps:List Int} {q:Nat} {xs:List Int} {n:Nat} {ls:List Ly} (h:lyOk ns ps q xs n ls):ls.length=n:=by
 have:=congrArg List.length h.1
 simpa using this
theorem lyOk.at_ {ns:List Nat} {ps:List Int} {q:Nat} {xs:List Int} {n:Nat} {ls:List Ly} (h:lyOk ns ps q xs n ls) {k:Nat} (hk:k<n):∃ l,ls[k]?=some l∧l.v=layL ns ps q xs k∧l.v.length≤l.c:=by
 obtain ⟨l,hl⟩:=get_some ls k (by rw [h.len];exact hk)
 refine ⟨l,hl,?_,h.2 l (List.mem_of_getElem? hl)⟩
 have:=congrArg (·[k]?) h.1
 simp only [List.getElem?_map,hl,List.getElem?_range hk,Option.map_some,Option.some.injEq] at this
 exact this
theorem lyOk.snoc {ns:List Nat} {ps:List Int} {q:Nat} {xs:List Int} {n:Nat} {ls:List Ly} (h:lyOk ns ps q xs n ls) {l:Ly} (hv:l.v=layL ns ps q xs n) (hc:l.v.length≤l.c):lyOk ns ps q xs (n+1) (ls++[l]):=by
 refine ⟨?_,fun m hm=>?_⟩
 · rw [List.map_append,h.1,List.range_succ,List.map_append]
   simp [hv]
 · rcases List.mem_append.1 hm with hm | hm
   · exact h.2 m hm
   · rw [List.mem_singleton.1 hm];exact hc
theorem Mem.famRd {W:World} {L:List Ch} {l:List (Option Addr × List Value)} {i j:Nat} {A:Option Addr} {vs:List Value} (h:Mem W L) (hi:L[i]?=some (famCh l)) (hj:l[j]?=some (A,vs)):Rd W W.heap.size A vs:=h.st i hi (A,vs) (List.mem_of_getElem? hj)
def trP (w:World) (g6 n co:Nat) (Ao:Option Addr) (ls:List Ly):List Ch:=[.bel w.heap.size w,vvB g6 n co Ao,vvO w.heap.size n co Ao (lyVals ls),famCh (lyFam ls)]
def trZ (w:World) (g6 n co:Nat) (Ao:Option Addr) (ls:List Ly) (bz gz b cz:Nat) (zs:List Int):List Ch:=[.bel w.heap.size w,vvB g6 n co Ao,vvO w.heap.size n co Ao (lyVals ls),famCh (lyFam ls),.own bz 2 1 (.slice (some ⟨gz,0,none⟩) b cz) b (zC zs)]
theorem trZ_next {W w:World} {g6 n co bz gz b cz c':Nat} {Ao A':Option Addr} {ls:List Ly} {zs:List Int} (h:Mem W (two (trZ w g6 n co Ao ls bz gz b cz zs) 1 2 (vvB g6 (n+1) c' A') (vvO w.heap.size (n+1) c' A' (lyVals ls++[.slice (some ⟨gz,0,none⟩) b cz])))) (hz:zs.length=b) :
  Mem W (trP w g6 (n+1) c' A' (ls++[⟨some ⟨gz,0,none⟩,cz,zs⟩])):=by
 have h1:=((h.freeze (i:=4) rfl).famSnoc (i:=3) (j:=4) rfl rfl).front 4
 have e1:lyVals (ls++[⟨some ⟨gz,0,none⟩,cz,zs⟩])=lyVals ls++[.slice (some ⟨gz,0,none⟩) b cz]:=by simp [lyVals,hz]
 have e2:lyFam (ls++[⟨some ⟨gz,0,none⟩,cz,zs⟩])=lyFam ls++[(some ⟨gz,0,none⟩,zC zs)]:=by simp [lyFam]
 unfold trP
 rw [e1,e2]
 exact h1
theorem Mem.lower {W:World} {L:List Ch} {base base' e size n i:Nat} {v:Value} {xs:List Value} (h:Mem W L) (hi:L[i]?=some (.own base e size v n xs)) (hb:base'≤base):Mem W (L.set i (.own base' e size v n xs)) :=
 h.turn hi ⟨own_from hb (h.own i hi),Nat.le_trans hb (h.holds i _ hi).2⟩ (fun _ hg=>hg) trivial
theorem own_built (w:World) (e:TypeId) (v:Value):(w.alloc (.cells #[v] e)).ownsRow w.heap.size e 1 (.slice (some ⟨w.heap.size,0,none⟩) 1 1) 1 [v] :=
 ⟨by simp,.inr ⟨w.heap.size,1,#[v],rfl,Nat.le_refl _,heap_alloc_new w _,Nat.le_refl _,by simp [maxLen],by simp,by simp⟩⟩
theorem lk_at {ms:List Lk} {n k:Nat} (h:ms.map Lk.k=List.range n) (hk:k<n):∃ m,ms[k]?=some m∧m.k=k:=by
 have hl:ms.length=n:=by have:=congrArg List.length h;simpa using this
 obtain ⟨m,hm⟩:=get_some ms k (by omega)
 refine ⟨m,hm,?_⟩
 have:=congrArg (·[k]?) h
 simp only [List.getElem?_map,hm,List.getElem?_range hk,Option.map_some,Option.some.injEq] at this
 exact this
theorem Mem.link {W w0:World} {B gn gs q P cp n cl k:Nat} {ns:List Nat} {Ap As Al:Option Addr} {ps:List Int} {ms:List Lk} {m:Lk} (h:Mem W (netP w0 B gn gs q P cp n cl ns Ap As Al ps ms)) (hm:ms[k]?=some m) :
  ∃ bl ol,Al=some ⟨bl,ol,none⟩∧∀ i v,(lkC ns Ap cp m)[i]?=some v→W.cell? ⟨bl,ol+k*4+i,none⟩=some v:=by
 have hr:=rd_of_own (h.own 4 rfl)
 have hf:=flat_at (lkC ns Ap cp) 4 (fun _=>rfl) ms k m hm
 obtain ⟨bl,ol,rfl,_,hc⟩:=hr (by
  have:=(List.getElem?_eq_some_iff.1 (hf 0 _ rfl)).1
  exact Nat.lt_of_le_of_lt (Nat.zero_le _) this)
 exact ⟨bl,ol,rfl,fun i v hv=>by rw [Nat.add_assoc];exact hc _ _ (hf i v hv)⟩
set_option maxRecDepth 100000 in
theorem trace_any (w w0:World) (B gn gs q P cp cl flo fhi nx cx:Nat) (ns:List Nat) (Ap As Al X:Option Addr) (ps xs:List Int) (ms:List Lk) (hN:Mem w (netP w0 B gn gs q P cp (ns.length-1) cl ns Ap As Al ps ms)) (hMS:ms.map Lk.k=List.range (ns.length-1)∧∀ m∈ms,midN ns m.k-offN ns m.k≤m.c)
  (hF:FormAt w flo fhi gs ns) (hh:fhi≤w.heap.size) (hn:NsOk ns) (hp:ps.length=P) (hP:P=offN ns (ns.length-1)) (hPc:P≤cp) (hX:Rd w w.heap.size X (zC xs)) (hx:xs.length=nx) (hnx:ns[0]?=some nx) (h1:In64 xs) (h2:In64 ps) (hq:q≤62) (hcl:ns.length-1≤cl) :
  Calls Tryz.prog 232 #[.pointer (some ⟨gn,0,none⟩),.slice X nx cx] w fun e w'=>∃ Ao co ls,e=.returned (.tuple #[.slice Ao ns.length co,.bool true])∧lyOk ns ps q xs ns.length ls∧Mem w' [.bel w.heap.size w,vvO w.heap.size ns.length co Ao (lyVals ls),famCh (lyFam ls)]:=by
 have HN:=K1 (fun W (hb:Below w.heap.size w W)=>hN.below hb)
 have CS:=K1 (formSizes_any w flo fhi gs ns hF hh (by have:=hn.len;omega))
 have CC:=K1 (fun W (hW:Rd W W.heap.size X (zC xs))=>vclone_any X nx cx xs W hW hx (by have:=hn.few;have h3:=hn.at_ (k:=0) (by have:=hn.len;omega);obtain ⟨a,b,ha,_,_,_,_,_,h4,_⟩:=h3;rw [hnx] at ha;injection ha with ha;omega))
 have HNO:=K1 hn
 have HMS:=K1 hMS
 have HP:=K1 (And.intro hp (And.intro hP (And.intro hPc (And.intro h1 (And.intro h2 hnx)))))
 have HB:=K1 (show ∀ x y,x<y→y≤ps.length→Rd w w.heap.size (Ap.map fun p=>p.add x) (zC (subL ps x y)) from fun x y hxy hy=>hN.subZ (i:=1) rfl hxy hy)
 have c0:=hN.cells 3 rfl
 have HM:=K1 ((Mem.start w).add_rd (i:=0) rfl hX)
 have hl1:ns.length-1≤15:=by have:=hn.len;omega
 have hnl:ns.length=ns.length-1+1:=by have:=hn.len;omega
 have hx0:=hnx
 clear hN hF hn hp hP hPc hX h1 h2 hMS hh
 rw [hnl]
 generalize hn1:ns.length-1=n1 at *
 have HN1:=K1 (And.intro hn1 hnl)
 clear hn1
 rw [hnl] at CS
 have hns0:(iCells ns)[0]?=some (.int .i64 nx):=by simp [iCells,hnx]
 have HNS0:=K1 hns0
 clear hnl hns0 hnx hx0
 go_enter Tryz.func232,Tryz.ntmps232
 go_wp2_with fail
 refine (CS.out).mono ?_
 rintro e w1 ⟨A1,c1,rfl,ho,hb⟩
 replace HM:=K1 (HM.out.push_rd hb (rd_of_own ho) (own_from_base ho))
 clear ho CS c0
 obtain ⟨b1,o1,rfl,_⟩:=HM.out.rd 2 rfl (by have:=(List.getElem?_eq_some_iff.1 HNS0.out).1;omega)
 have d0:=HM.out.rdAt 2 rfl HNS0.out
 rw [Nat.add_zero] at d0
 go_wp2_with fail
 refine (CC.out _ (HM.out.rd 1 rfl)).mono ?_
 rintro e w2 ⟨A2,c2,rfl,ho,hc2,hb2⟩
 replace HM:=K1 (HM.out.push_rd hb2 (rd_of_own ho) (own_from_base ho))
 clear ho CC d0 hb2 hb
 have hm3:=(HM.out.push_own ((Below.refl w2.heap.size w2).alloc (Nat.le_refl _) (.cells #[.slice A2 nx c2] 87)) (own_built w2 87 (.slice A2 nx c2)) rfl).alloc (.cells #[.slice (some ⟨w2.heap.size,0,none⟩) 1 1] 340)
 simp only [World.size_alloc] at hm3
 have c0:=(HN.out _ (hm3.bel 0 rfl)).cells 3 rfl
 have hg2:=(HM.out.bel 0 rfl).size
 replace HM:=K1 hm3
 clear hm3
 go_wp2_with fail
 have hm4:=(((HM.out.lower (i:=4) rfl hg2).add (c:=famCh (lyFam [])) (fam_local (fun a ha=>by cases ha)) (fun _ _ _ _ g hg=>by obtain ⟨a,ha,_⟩:=hg;cases ha)).famSnoc (i:=6) (j:=3) rfl rfl).pick [0,5,4,6] (trP w (w2.heap.size+1) 1 1 (some ⟨w2.heap.size,0,none⟩) [⟨A2,c2,xs⟩]) (by rw [← hx];rfl) (by decide)
 have HM0:=K1 hm4
 have hok0:lyOk ns ps q xs 1 [⟨A2,c2,xs⟩]:=⟨rfl,fun l hl=>by rw [List.mem_singleton.1 hl];dsimp only;omega⟩
 have HOK0:=K1 hok0
 have HX:=K1 hx
 clear hm4 HM c0 hg2 hok0 hx
 generalize w2.heap.size+1=g6 at *
 go_loopw [37] (fun i wr=>∃ (k:Nat) (Ao:Option Addr) (co:Nat) (ls:List Ly),k≤n1∧i=.int .i64 k∧Hid (lyOk ns ps q xs (k+1) ls)∧Hid (Mem wr (trP w g6 (k+1) co Ao ls))) (fun i _=>n1-(intOf i).toNat)
 case atStart=>exact ⟨0,_,1,_,Nat.zero_le _,rfl,HOK0,HM0⟩
 case round =>
  clear HM0 HOK0
  obtain ⟨k,Ao,co,ls,hk,rfl,HOK,HM⟩:=hrel
  by_cases hlt:k<n1
  · obtain ⟨a,b,ha,hb,h1,h2,e1,e2,h3,h4,h5⟩:=HNO.out.at_ (by have:=HN1.out.1;omega:k<ns.length-1)
    obtain ⟨m,hm,hmk⟩:=lk_at HMS.out.1 hlt
    have hmc:=HMS.out.2 m (List.mem_of_getElem? hm)
    obtain ⟨bl,ol,rfl,hlk⟩:=(HN.out w (Below.refl _ _)).link hm
    have hlk2:=fun W hb=>((HN.out W hb).link hm)
    have hfam:=fun W hb=>(HN.out W hb).famRd (i:=5) (j:=k) (A:=m.A) (vs:=zC (subL ps (offN ns m.k) (midN ns m.k))) rfl (by simp [lkFam,hm])
    have hcells:lkC ns Ap cp m=[.int .i64 b,.int .i64 a,.slice m.A (midN ns k-offN ns k) m.c,.slice (Ap.map fun p=>p.add (midN ns k)) (offN ns (k+1)-midN ns k) (cp-midN ns k)]:=by
     unfold lkC;rw [hmk,ha,hb];rfl
    rw [hmk] at hmc hfam
    obtain ⟨l,hl,hlv,hlc⟩:=HOK.out.at_ (show k<k+1 by omega)
    have hll:l.v.length=a:=by rw [hlv,layL_len ns ps q xs (by rw [HP.out.2.2.2.2.2];exact HX.out) k,ha];rfl
    have hba:=Nat.mul_le_mul h2 h1
    rw [HN1.out.1,← HP.out.2.1] at h5
    have hP1000:P≤1000:=by rw [HP.out.2.1,← HN1.out.1];exact HNO.out.few
    have hlin:linL ns ps q k l.v=addTo 0 (subL ps (midN ns k) (offN ns (k+1))) (mvL (subL ps (offN ns k) (midN ns k)) l.v a q b) b:=by unfold linL;rw [ha,hb];rfl
    have hnext:layL ns ps q xs (k+1)=if k+1<n1 then relTo (linL ns ps q k l.v) b else linL ns ps q k l.v:=by rw [layL,HN1.out.1,hb,← hlv];rfl
    generalize hx:offN ns k=x at *
    generalize hy:midN ns k=y at *
    generalize hz:offN ns (k+1)=z at *
    have hxy:x<y:=by omega
    have hyz:y<z:=by omega
    have hyps:y≤ps.length:=by have:=HP.out.1;omega
    have hzps:z≤ps.length:=by have:=HP.out.1;omega
    have CM:=K1 (fun W (hb:Below w.heap.size w W) (hL:Rd W W.heap.size l.A (zC l.v))=>matMul_any W b a (y-x) m.c q l.c m.A l.A (subL ps x y) l.v ⟨h2,by omega⟩ ⟨h1,by omega⟩ (by omega) (by omega) hmc (by omega) (hfam W hb) hL (subL_len (by omega) hyps) hll (HP.out.2.2.2.2.1.sub _ _) (by rw [hlv];exact layL_in ns ps q HP.out.2.2.2.1 k) hq)
    obtain ⟨k1,hk1⟩:∃ k1,k1=k+1:=⟨_,rfl⟩
    have hk1i:(k:Int)+1=(k1:Int):=by omega
    have hk1b:k1≤16:=by omega
    have hkc:k<k+1:=by omega
    have wk1:IntKind.i64.wrap (k1:Int)=(k1:Int):=IntWalk.i64_in _ (by omega)
    rw [← hk1] at hnext HM HOK
    have HK1:=K1 hk1
    have HNX:=K1 (And.intro hnext (And.intro hlin (And.intro hlv (And.intro hll (And.intro hlc hl)))))
    have HBI:=K1 (HB.out y z hyz hzps)
    have HBL:=K1 (show (subL ps y z).length=b by rw [subL_len (by omega) hzps];omega)
    have d0:∀ i v,(lkC ns Ap cp m)[i]?=some v→wr.cell? ⟨bl,ol+k*4+i,none⟩=some v:=fun i v hv=>by
     obtain ⟨bl',ol',e,h⟩:=hlk2 wr (HM.out.bel 0 rfl)
     injection e with e
     injection e with e1 e2
     subst e1;subst e2
     exact h i v hv
    rw [hcells] at d0
    have d1:=d0 0 _ rfl
    have d2:=d0 1 _ rfl
    have d3:=d0 2 _ rfl
    have d4:=d0 3 _ rfl
    have hzy:z-y=b:=by omega
    have hzcp:z≤cp:=by have:=HP.out.2.2.1;omega
    have hk1n:k<k1:=by omega
    clear hk1
    rw [hzy] at d4
    rw [Nat.add_zero] at d1
    clear ha hb e1 e2 hm hmk hlk hlk2 hfam hcells hmc hl hlv hlc hll hba hlin hnext hx hy hz d0 hkc
    go_wp2_with fail
    refine name_wp fun W0 hW0=>?_
    replace HM:=K1 (HM.out.alloc_ hW0.out)
    clear hW0 d1 d2 d3 d4
    generalize wr.heap.size=g9 at *
    obtain ⟨go,rfl⟩:=HM.out.ownA 2 rfl (by omega)
    have HLV:=K1 (show (lyVals ls)[k]?=some (.slice l.A a l.c) by simp [lyVals,HNX.out.2.2.2.2.2,HNX.out.2.2.2.1])
    have HLK:=K1 (show ∀ (W:World) (M:List Ch),Mem W M→M[2]?=some (vvO w.heap.size k1 co (some ⟨go,0,none⟩) (lyVals ls))→W.cell? ⟨go,k,none⟩=some (.slice l.A a l.c) from fun W M h hM=>((h.own 2 hM).cellAt k (by omega)).trans HLV.out)
    have HLR:=K1 (show ∀ (W:World) (M:List Ch),Mem W M→M[3]?=some (famCh (lyFam ls))→Rd W W.heap.size l.A (zC l.v) from fun W M h hM=>h.famRd (j:=k) hM (by simp [lyFam,HNX.out.2.2.2.2.2]))
    refine wp_region_stage (.reads [0,1,2,3,4,5,6,7,8,9] (.eff 10 (.reads [11,12,13,14,15] (.fin)))) 16
     (fun W'=>(∀ i,W'.cell? ⟨g9,i,none⟩=([.int .i64 b,.int .i64 a,.slice m.A (y-x) m.c,.slice (Ap.map fun p=>p.add y) b (cp-y)]:List Value)[i]?)∧W'.cell? ⟨g6,0,none⟩=some (.slice (some ⟨go,0,none⟩) k1 co)∧W'.cell? ⟨go,k,none⟩=some (.slice l.A a l.c)∧(∀ i,W'.cell? ⟨gn,i,none⟩=([.pointer (some ⟨gs,0,none⟩),.slice Ap P cp,.int .i64 q,.slice (some ⟨bl,ol,none⟩) n1 cl]:List Value)[i]?))
     (by kernel_rfl) (by kernel_rfl) (by intro d v c a w h;cases d <;> exact h) ?_
    replace HM:=K1 HM.out.drew
    refine PlS.reads_ ⟨HM.out.cells 4 rfl,HM.out.cell 1 0 rfl rfl,HLK.out _ _ HM.out rfl,(HN.out _ (HM.out.bel 0 rfl)).cells 3 rfl⟩ (by kernel_rfl) ?_
    simp only [pickO,p1,p2,p3,p4]
    apply Exists.intro
    apply And.intro
    · intro W' hS
      obtain ⟨s1,s2,s3,s4⟩:=hS
      repeat still_step
      exact wpStill_nil rfl
    refine PlS.eff_ ?_
    simp only [pickO,p1,p2,p3,p4]
    go_wp2_with fail
    refine (CM.out _ (HM.out.bel 0 rfl) (HLR.out _ _ HM.out rfl)).mono ?_
    rintro e w3 ⟨Z,cz,rfl,ho,hcz,hb⟩
    replace HM:=K1 (HM.out.push_own hb ho rfl)
    clear ho hb CM
    generalize W0.drew.heap.size=bz at *
    go_wp2_with fail
    refine After.go ⟨HM.out.cells 4 rfl,HM.out.cell 1 0 rfl rfl,HLK.out _ _ HM.out rfl,(HN.out _ (HM.out.bel 0 rfl)).cells 3 rfl⟩ ?_
    refine PlS.reads_ ⟨HM.out.cells 4 rfl,HM.out.cell 1 0 rfl rfl,HLK.out _ _ HM.out rfl,(HN.out _ (HM.out.bel 0 rfl)).cells 3 rfl⟩ (by kernel_rfl) ?_
    simp only [pickO,p1,p2,p3,p4]
    apply Exists.intro
    apply And.intro
    · intro W' hS
      repeat still_step
      exact wpStill_nil rfl
    refine PlS.fin_ ?_
    have d4:=HM.out.cell 4 3 rfl rfl
    go_wp2_with fail
    obtain ⟨gz,rfl⟩:=HM.out.ownA 5 rfl (by omega)
    replace HM:=K1 (HM.out.add_rd (i:=0) rfl HBI.out)
    have h9:b≤cp-y:=by omega
    have h10:b≤1000000000:=by omega
    have h11:0+b≤(mvL (subL ps x y) l.v a q b).length:=by rw [mvL_len];omega
    have HVA:=vadd_any w3 _ HM.out 5 6 bz b cz 0 b cz (cp-y) (some ⟨gz,0,none⟩) (some ⟨gz,0,none⟩) (Ap.map fun p=>p.add y) (mvL (subL ps x y) l.v a q b) (subL ps y z) rfl rfl HBL.out h11 (mvL_len _ _ _ _ _) (fun _=>rfl) hcz h9 h10
    clear h9 h10 h11
    rw [← HNX.out.2.1] at HVA
    refine HVA.mono ?_
    clear HVA
    rintro e w4 ⟨rfl,hm4⟩
    replace HM:=K1 hm4
    clear hm4 d4
    have HZL:=K1 (show (linL ns ps q k l.v).length=b by rw [HNX.out.2.1,addTo_len,mvL_len])
    have c0:=(HN.out _ (HM.out.bel 0 rfl)).cells 3 rfl
    replace HM:=K1 (HM.out.pick [0,1,2,3,5] (trZ w g6 k1 co (some ⟨go,0,none⟩) ls bz gz b cz (linL ns ps q k l.v)) rfl (by decide))
    have HNX1:=K1 HNX.out.1
    have HLI:=K1 (linL_in ns ps q k l.v)
    clear HNX HLK HLR HLV HBI HBL HK1
    generalize linL ns ps q k l.v=lin at *
    by_cases hr:k1<n1
    · have HV:=K1 (HNX1.out.trans (if_pos hr))
      clear HNX1
      go_wp2_with fail
      clear c0
      go_loopw [70] (fun i wr=>∃ j:Nat,j≤b∧i=.int .i64 j∧Hid (Mem wr (trZ w g6 k1 co (some ⟨go,0,none⟩) ls bz gz b cz (relTo lin j)))) (fun i _=>b-(intOf i).toNat)
      case atStart=>exact ⟨0,Nat.zero_le _,rfl,HM⟩
      case round =>
       clear HM
       obtain ⟨j,hj,rfl,HM⟩:=hrel
       by_cases hlt2:j<b
       · obtain ⟨v,hv⟩:=get_some lin j (by have:=HZL.out;omega)
         have hc1:wr.cell? ⟨gz,j,none⟩=some (.int .i64 v):=((HM.out.own 4 rfl).cellAt j (by omega)).trans (zC_at ((relTo_at lin j j (Nat.le_refl _)).trans hv))
         have HS:=K1 (show zC (relTo lin (j+1))=(zC (relTo lin j)).set j (.int .i64 (max v 0)) by rw [relTo,zC_set,hv];rfl)
         have kf:=HM.out.ownF 4 rfl
         have hm3:=HM.out.setOwn (j:=j) (i:=4) rfl (.int .i64 (max v 0))
         rw [← HS.out] at hm3
         have HM3:=K1 hm3
         clear hm3 hv HM
         have HRV:=K1 (fun W=>relu_any W v)
         generalize max v 0=v0 at *
         go_wp2_with fail
         refine (HRV.out _).mono ?_
         rintro e w5 ⟨rfl,rfl⟩
         go_wp2_with fail
         go_roundw
         case rel=>exact ⟨j+1,by omega,by go_num,HM3⟩
         case measure=>simp [intOf];omega
       · have hjb:j=b:=by omega
         subst hjb
         have HMZ:=HM
         have HL5:(relTo lin j).length=j:=by rw [relTo_len];exact HZL.out
         have HV5:=HV.out.symm
         have HC5:(relTo lin j).length≤cz:=by omega
         clear HM
         go_wp2_with fail
         refine (trace1_any _ _ HMZ.out 1 2 w.heap.size g6 k1 co j cz (some ⟨go,0,none⟩) (some ⟨gz,0,none⟩) (lyVals ls) rfl rfl (by omega)).mono ?_
         rintro e w5 ⟨rfl,A',c',hm5⟩
         have HM5:=K1 (trZ_next hm5 HL5)
         clear hm5 HMZ
         go_wp2_with fail
         go_roundw
         case rel=>exact ⟨k1,A',c',_,by omega,rfl,K1 (HOK.out.snoc HV5 HC5),HM5⟩
         case measure=>simp [intOf];omega
    · have HV5:=(HNX1.out.trans (if_neg hr)).symm
      have HMZ:=HM
      have HL5:=HZL.out
      have HC5:lin.length≤cz:=by omega
      clear HM HNX1
      go_wp2_with fail
      refine (trace1_any _ _ HMZ.out 1 2 w.heap.size g6 k1 co b cz (some ⟨go,0,none⟩) (some ⟨gz,0,none⟩) (lyVals ls) rfl rfl (by omega)).mono ?_
      rintro e w5 ⟨rfl,A',c',hm5⟩
      have HM5:=K1 (trZ_next hm5 HL5)
      clear hm5 HMZ
      go_wp2_with fail
      go_roundw
      case rel=>exact ⟨k1,A',c',_,by omega,rfl,K1 (HOK.out.snoc HV5 HC5),HM5⟩
      case measure=>simp [intOf];omega
  · have hkn:k=n1:=by omega
    subst hkn
    have c6:=HM.out.cell 1 0 rfl rfl
    go_wp2_with fail
    go_ret2
    exact ⟨Ao,co,ls,rfl,HOK.out,HM.out.pick [0,2,3] _ rfl (by decide)⟩
def vOwn (base n c:Nat) (A:Option Addr) (zs:List Int):Ch:=.own base 2 1 (.slice A n c) n (zC zs)
abbrev stV (n:Nat) (A:Option Addr) (c:Nat) (B:Option Addr) (d:Nat):Value:=.agg #[.slice A n c,.slice B n d]
theorem Mem.zero_ {w W:World} {L:List Ch} {n:Nat} (h:Mem w L) (hW:W=w.alloc (zeroO n)) (hn:n≤1048576):Mem W (L++[.own w.heap.size 2 1 (.slice (some ⟨w.heap.size,0,none⟩) n n) n (zC (zeroL n))]):=hW ▸ h.zero n hn
set_option maxRecDepth 100000 in
theorem start_any (w:World) (A:Option Addr) (n cap:Nat) (zs:List Int) (hA:Rd w w.heap.size A (zC zs)) (hz:zs.length=n) (hn:n≤1048576) :
  Calls Tryz.prog 65 #[.slice A n cap] w fun e w'=>∃ Ap cp gm,e=.returned (stV n Ap cp (some ⟨gm,0,none⟩) n)∧Mem w' [.bel w.heap.size w,vOwn w.heap.size n cp Ap zs,vOwn w.heap.size n n (some ⟨gm,0,none⟩) (zeroL n)]:=by
 have CC:=K1 (fun W (hW:Rd W W.heap.size A (zC zs))=>vclone_any A n cap zs W hW hz (by omega))
 have hmk:=run_make_vec n hn
 have HM:=K1 (((Mem.start w).add_rd (i:=0) rfl hA).alloc (.cells #[.slice none 0 0,.slice none 0 0] 89))
 have HN:=K1 hn
 clear hA hz
 go_enter Tryz.func65,Tryz.ntmps65
 go_wp2_with fail
 refine name_wp fun W0 hW0=>?_
 replace HM:=K1 (hW0.out.symm ▸ HM.out)
 clear hW0
 refine wp_region_stage (.reads [0,2,3] (.two 1 4 (.eff 4 (.reads [5] (.eff 6 (.fin)))) (.eff 1 (.reads [5] (.eff 6 (.fin)))))) 7 (fun _=>True)
  (by kernel_rfl) (by kernel_rfl) (by intro d v c a w h;cases d <;> exact h) ?_
 replace HM:=K1 HM.out.drew
 generalize W0.drew=V at *
 refine PlS.reads_ trivial (by kernel_rfl) ?_
 simp only [pickO,p1,p2,p3,p4]
 apply Exists.intro
 apply And.intro
 · intro W' hS
   clear hS
   repeat still_step
   exact wpStill_nil rfl
 refine PlS.two_ ?_ ?_
 · refine PlS.eff_ ?_
   simp only [pickO,p1,p2,p3,p4]
   go_wp2_with fail
   refine (CC.out _ (HM.out.rd 1 rfl)).mono ?_
   rintro e w1 ⟨Ap,cp,rfl,ho,hcp,hb⟩
   have hg:=(HM.out.bel 0 rfl).size
   replace HM:=K1 ((HM.out.push_own hb ho rfl).lower (i:=3) rfl hg)
   clear ho hb hg CC
   go_wp2_with fail
   refine After.go trivial ?_
   refine PlS.eff_ ?_
   simp only [pickO,p1,p2,p3,p4]
   go_wp2_with fail
   refine name_after fun W7 hW=>?_
   have hg:=(HM.out.bel 0 rfl).size
   replace HM:=K1 ((HM.out.zero_ hW.out HN.out).lower (i:=4) rfl hg)
   clear hW hg
   refine After.go trivial ?_
   refine PlS.reads_ trivial (by kernel_rfl) ?_
   simp only [pickO,p1,p2,p3,p4]
   apply Exists.intro
   apply And.intro
   · intro W' hS
     clear hS
     repeat still_step
     exact wpStill_nil rfl
   refine PlS.eff_ ?_
   simp only [pickO,p1,p2,p3,p4]
   have c2:=HM.out.cells 2 rfl
   have f2:=fun j=>HM.out.frozen 2 j rfl
   have HF:=K1 ((HM.out.set (i:=2) (j:=0) rfl (.slice Ap n cp)).set (i:=2) (j:=1) rfl (.slice (some ⟨w1.heap.size,0,none⟩) n n))
   clear HM
   go_wp2_with fail
   refine After.go trivial (PlS.fin_ ?_)
   clear c2 f2
   have c2:=HF.out.cells 2 rfl
   go_wp2_with fail
   refine bodyPost_ret (v:=stV n Ap cp (some ⟨w1.heap.size,0,none⟩) n) ?_ rfl ⟨_,_,_,rfl,HF.out.pick [0,3,4] _ rfl (by decide)⟩
   simp [results,Tryz.results65,go_sem,c2]
 · refine PlS.eff_ ?_
   simp only [pickO,p1,p2,p3,p4]
   go_wp2_with fail
   refine name_after fun W7 hW=>?_
   have hg:=(HM.out.bel 0 rfl).size
   replace HM:=K1 ((HM.out.zero_ hW.out HN.out).lower (i:=3) rfl hg)
   clear hW hg
   refine After.go trivial ?_
   refine PlS.eff_ ?_
   simp only [pickO,p1,p2,p3,p4]
   go_wp2_with fail
   refine (CC.out _ (HM.out.rd 1 rfl)).mono ?_
   rintro e w1 ⟨Ap,cp,rfl,ho,hcp,hb⟩
   have hg:=(HM.out.bel 0 rfl).size
   replace HM:=K1 ((HM.out.push_own hb ho rfl).lower (i:=4) rfl hg)
   clear ho hb hg CC
   go_wp2_with fail
   refine After.go trivial ?_
   refine PlS.reads_ trivial (by kernel_rfl) ?_
   simp only [pickO,p1,p2,p3,p4]
   apply Exists.intro
   apply And.intro
   · intro W' hS
     clear hS
     repeat still_step
     exact wpStill_nil rfl
   refine PlS.eff_ ?_
   simp only [pickO,p1,p2,p3,p4]
   have c2:=HM.out.cells 2 rfl
   have f2:=fun j=>HM.out.frozen 2 j rfl
   have HF:=K1 ((HM.out.set (i:=2) (j:=0) rfl (.slice Ap n cp)).set (i:=2) (j:=1) rfl (.slice (some ⟨V.heap.size,0,none⟩) n n))
   clear HM
   go_wp2_with fail
   refine After.go trivial (PlS.fin_ ?_)
   clear c2 f2
   have c2:=HF.out.cells 2 rfl
   go_wp2_with fail
   refine bodyPost_ret (v:=stV n Ap cp (some ⟨V.heap.size,0,none⟩) n) ?_ rfl ⟨_,_,_,rfl,HF.out.pick [0,4,3] _ rfl (by decide)⟩
   simp [results,Tryz.results65,go_sem,c2]
set_option maxRecDepth 100000 in
theorem sclone_any (w:World) (A B:Option Addr) (n ca cb:Nat) (ps ms:List Int) (hA:Rd w w.heap.size A (zC ps)) (hB:Rd w w.heap.size B (zC ms)) (hp:ps.length=n) (hm:ms.length=n) (hn:n≤1048576) :
  Calls Tryz.prog 68 #[stV n A ca B cb] w fun e w'=>∃ Ap cp Am cm,e=.returned (stV n Ap cp Am cm)∧Mem w' [.bel w.heap.size w,vOwn w.heap.size n cp Ap ps,vOwn w.heap.size n cm Am ms]:=by
 have CA:=K1 (fun W (hW:Rd W W.heap.size A (zC ps))=>vclone_any A n ca ps W hW hp (by omega))
 have CB:=K1 (fun W (hW:Rd W W.heap.size B (zC ms))=>vclone_any B n cb ms W hW hm (by omega))
 have hm0:=((((Mem.start w).add_rd (i:=0) rfl hA).add_rd (i:=0) rfl hB).alloc (.cells #[.slice A n ca,.slice B n cb] 89)).alloc (.cells #[.slice none 0 0,.slice none 0 0] 89)
 simp only [World.size_alloc] at hm0
 have HM:=K1 hm0
 clear hA hB hp hm hm0
 go_enter Tryz.func68,Tryz.ntmps68
 go_wp2_with fail
 refine name_wp fun W0 hW0=>?_
 replace HM:=K1 (hW0.out.symm ▸ HM.out)
 clear hW0
 refine wp_region_stage (.reads [0,1,3,4] (.eff 2 (.eff 5 (.reads [6] (.eff 7 (.fin)))))) 8 (fun W'=>∀ i,W'.cell? ⟨w.heap.size,i,none⟩=([.slice A n ca,.slice B n cb]:List Value)[i]?)
  (by kernel_rfl) (by kernel_rfl) (by intro d v c a w h;cases d <;> exact h) ?_
 replace HM:=K1 HM.out.drew
 generalize W0.drew=V at *
 refine PlS.reads_ (HM.out.cells 3 rfl) (by kernel_rfl) ?_
 simp only [pickO,p1,p2,p3,p4]
 apply Exists.intro
 apply And.intro
 · intro W' hS
   repeat still_step
   exact wpStill_nil rfl
 refine PlS.eff_ ?_
 simp only [pickO,p1,p2,p3,p4]
 go_wp2_with fail
 refine (CA.out _ (HM.out.rd 1 rfl)).mono ?_
 rintro e w1 ⟨Ap,cp,rfl,ho,hcp,hb⟩
 have hg:=(HM.out.bel 0 rfl).size
 replace HM:=K1 ((HM.out.push_own hb ho rfl).lower (i:=5) rfl hg)
 clear ho hb hg CA
 go_wp2_with fail
 refine After.go (HM.out.cells 3 rfl) ?_
 refine PlS.eff_ ?_
 simp only [pickO,p1,p2,p3,p4]
 go_wp2_with fail
 refine (CB.out _ (HM.out.rd 2 rfl)).mono ?_
 rintro e w2 ⟨Am,cm,rfl,ho,hcm,hb⟩
 have hg:=(HM.out.bel 0 rfl).size
 replace HM:=K1 ((HM.out.push_own hb ho rfl).lower (i:=6) rfl hg)
 clear ho hb hg CB
 go_wp2_with fail
 refine After.go (HM.out.cells 3 rfl) ?_
 refine PlS.reads_ (HM.out.cells 3 rfl) (by kernel_rfl) ?_
 simp only [pickO,p1,p2,p3,p4]
 apply Exists.intro
 apply And.intro
 · intro W' hS
   repeat still_step
   exact wpStill_nil rfl
 refine PlS.eff_ ?_
 simp only [pickO,p1,p2,p3,p4]
 have c2:=HM.out.cells 4 rfl
 have f2:=fun j=>HM.out.frozen 4 j rfl
 have HF:=K1 ((HM.out.set (i:=4) (j:=0) rfl (.slice Ap n cp)).set (i:=4) (j:=1) rfl (.slice Am n cm))
 clear HM
 go_wp2_with fail
 refine After.go (HF.out.cells 3 rfl) (PlS.fin_ ?_)
 clear c2 f2
 have c2:=HF.out.cells 4 rfl
 go_wp2_with fail
 refine bodyPost_ret (v:=stV n Ap cp Am cm) ?_ rfl ⟨_,_,_,_,rfl,HF.out.pick [0,5,6] _ rfl (by decide)⟩
 simp [results,Tryz.results68,go_sem,c2]
def linkB (g:Nat) (A:Option Addr) (n c cap se re pk:Nat):Ch:=.obj g (.cells #[.slice A n c,.int .i64 cap,.int .i64 se,.int .i64 re,.int .i64 pk] 172 (0,0))
abbrev linkC (A:Option Addr) (n c cap se re pk:Nat):List Value:=[.slice A n c,.int .i64 cap,.int .i64 se,.int .i64 re,.int .i64 pk]
theorem linkNew_any (w:World) (cap:Nat) (hc:1≤cap∧cap≤1048576) :
  Calls Tryz.prog 30 #[.int .i64 cap] w fun e w'=>e=.returned (.pointer (some ⟨w.heap.size,0,none⟩))∧w'=w.alloc (.cells (linkC none 0 0 cap 0 0 0).toArray 172):=by
 obtain ⟨h1,h2⟩:=hc
 go_enter Tryz.func30,Tryz.ntmps30
 go_wp2
 all_goals
  go_ret
  exact ⟨rfl,rfl⟩
theorem linkLen_any (w:World) (g n c cap se re pk:Nat) (A:Option Addr) (h:∀ i,w.cell? ⟨g,i,none⟩=(linkC A n c cap se re pk)[i]?) (h1:re≤se) (h2:se≤1000000000) :
  Calls Tryz.prog 84 #[.pointer (some ⟨g,0,none⟩)] w fun e w'=>e=.returned (.int .i64 (se-re:Nat))∧∃ q,w'=w.drewN q:=by
 obtain ⟨d,hd⟩:∃ d,d=se-re:=⟨_,rfl⟩
 have e1:(se:Int)-(re:Int)=(d:Int):=by omega
 have hdb:d≤1000000000:=by omega
 have wd:IntKind.i64.wrap (d:Int)=(d:Int):=IntWalk.i64_in _ (by omega)
 rw [← hd]
 clear hd
 go_enter Tryz.func84,Tryz.ntmps84
 go_wp2_with fail
 go_region
 go_wp2_with fail
 go_ret
 exact ⟨rfl,_,rfl⟩
theorem linkPlace_any (w:World) (g n c cap se re pk m:Nat) (A:Option Addr) (h:∀ i,w.cell? ⟨g,i,none⟩=(linkC A n c cap se re pk)[i]?) (hc:1≤cap) (hm:m≤1000000000) :
  Calls Tryz.prog 85 #[.pointer (some ⟨g,0,none⟩),.int .i64 m] w fun e w'=>e=.returned (.int .i64 (m % cap:Nat))∧w=w':=by
 obtain ⟨r,hr⟩:∃ r,r=m % cap:=⟨_,rfl⟩
 have hr1:r≤m:=hr ▸ Nat.mod_le _ _
 have e2:(m:Int).tmod (cap:Int)=(r:Int):=by rw [hr];exact (Int.ofNat_tmod _ _).symm
 have w2:IntKind.i64.wrap (r:Int)=(r:Int):=IntWalk.i64_in _ (by omega)
 have hz:¬ cap=0:=by omega
 rw [← hr]
 clear hr
 go_enter Tryz.func85,Tryz.ntmps85
 go_wp2
 go_ret
 exact ⟨rfl,rfl⟩
theorem copied_any (A:Option Addr) (n cap:Nat) (zs:List Int) (w:World) (hr:Rd w w.heap.size A (zC zs)) (hl:zs.length=n) (hn:n≤1000000000) :
  Calls Tryz.prog 86 #[.slice A n cap] w fun e w'=>∃ A' c',e=.returned (.slice A' n c')∧w'.ownsRow w.heap.size 2 1 (.slice A' n c') n (zC zs)∧n≤c'∧Below w.heap.size w w':=by
 have C:=K1 (cloneL_any A n cap (zC zs) w hr (by simp [hl]) (zC_one zs) hn)
 clear hr
 go_enter Tryz.func86,Tryz.ntmps86
 go_wp2_with fail
 (with_reducible refine C.out.mono ?_)
 rintro e w1 ⟨A',c',rfl,h1,h2,h3⟩
 clear C
 go_wp2_with fail
 go_ret
 exact ⟨A',c',rfl,h1,h2,h3⟩
end Go.Proofs.YtdpojpcoghcieaaGreat
