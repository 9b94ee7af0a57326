/- A part of the proof of TopSerial: ItsP, Miss. Conditions: none. -/
import Derived.Test.YtdpojpcoghcieaaGreatSdAU
set_option maxHeartbeats 8000000
namespace Go.Proofs.YtdpojpcoghcieaaGreat
open Lib renaming hid → K1
open List renaming filterMap_cons → p1, filterMap_nil → p2, getElem?_cons_zero → p3, getElem?_cons_succ → p4
open Go.RowKit
structure AcOk (p nb k t:Nat) (a:Ac):Prop where
 step:a.step=t
 bucket:a.bucket<nb
 phase:a.phase≤1
 round:a.round<k
 chunk:a.chunk≤1000
 lt:a.lo<a.hi
 hi:a.hi≤p
def ItOk (p nb k mi t:Nat) (x:It):Prop :=
 x.step=t∧((x.kind=1∧x.n<mi)∨(x.kind=2∧x.n<nb)∨(x.kind=3∧AcOk p nb k t x.a)∨(x.kind=4∧AcOk p nb k t x.a)∨(x.kind=5∧x.n<nb)∨x.kind=6)
theorem addsAt_mem {j:Jb} {ph r i:Nat} {xs ys:List (Nat × Nat)} {a:Ac} (h:a∈addsAt j ph r xs ys i):∃ s p,(xs[i]?=some p∨ys[i]?=some p)∧a=addAc j s ph r i p:=by
 unfold addsAt at h
 rcases List.mem_append.1 h with h | h
 · cases hx:xs[i]? with
   | none=>rw [hx] at h;simp at h
   | some p=>rw [hx] at h;simp at h;exact ⟨true,p,.inl rfl,h⟩
 · cases hx:ys[i]? with
   | none=>rw [hx] at h;simp at h
   | some p=>rw [hx] at h;simp at h;exact ⟨false,p,.inr rfl,h⟩
theorem segChunks_ok {s:Nat} (hs:1≤s) {p:Nat × Nat} (hp:p.1≤p.2):∀ q∈segChunks s p,q.1<q.2∧q.2≤p.2:=by
 intro q hq
 obtain ⟨b,hb,rfl⟩:=List.mem_map.1 hq
 obtain ⟨i,hi,rfl⟩:=List.mem_map.1 hb
 have h1:=pcnt_lt hs (List.mem_range.1 hi)
 dsimp only [blk1]
 generalize i*s=e at *
 omega
theorem roundL_ok {j:Jb} {u ph r:Nat} (hk:1≤j.workers) (hlo:j.lo≤j.hi) (hhi:j.hi≤1000) (hs:1≤j.chunk) (hph:ph≤1) (hr:r<j.workers) {nb:Nat} (hb:j.bucket<nb):∀ a∈roundL j u ph r,AcOk j.hi nb j.workers j.step a:=by
 intro a ha
 have hl1:=segS_lt (w:=u) (ph:=ph) (r:=r) hk
 have hl2:=segR_lt (w:=u) (ph:=ph) (r:=r) hk
 have hsl:(jobSegs j).length=j.workers:=by rw [jobSegs,shift_len,even_len]
 obtain ⟨p,hp⟩:=get_some (jobSegs j) (segS j.workers u ph r) (by omega)
 obtain ⟨q,hq⟩:=get_some (jobSegs j) (segR j.workers u ph r) (by omega)
 have h1:=segs_in hlo hk _ (List.mem_of_getElem? hp)
 have h2:=segs_in hlo hk _ (List.mem_of_getElem? hq)
 rw [round_eq hp hq] at ha
 obtain ⟨i,hi,ha⟩:=List.mem_flatMap.1 ha
 have hi:=List.mem_range.1 hi
 have h4:=segChunks_len j.chunk p
 have h5:=segChunks_len j.chunk q
 have h6:=pcnt_le (p.2-p.1) j.chunk
 have h7:=pcnt_le (q.2-q.1) j.chunk
 have h8:max (segChunks j.chunk p).length (segChunks j.chunk q).length≤1000:=Nat.max_le.2 ⟨by omega,by omega⟩
 obtain ⟨s,c,hc,rfl⟩:=addsAt_mem ha
 have hc2:c.1<c.2∧c.2≤j.hi:=by
  rcases hc with hc | hc
  · have:=segChunks_ok hs h1.1 c (List.mem_of_getElem? hc);omega
  · have:=segChunks_ok hs h2.1 c (List.mem_of_getElem? hc);omega
 exact ⟨rfl,hb,hph,hr,by show i≤1000;omega,hc2.1,hc2.2⟩
theorem AcOk.more {p p' nb k t:Nat} {a:Ac} (h:AcOk p nb k t a) (hp:p≤p'):AcOk p' nb k t a:=⟨h.step,h.bucket,h.phase,h.round,h.chunk,h.lt,Nat.le_trans h.hi hp⟩
theorem itemsL_ok {bs gs:List (Nat × Nat)} {k s mi t u p:Nat} (hk:1≤k) (hB:∀ b∈bs,b.1≤b.2∧b.2≤p) (hp:p≤1000) (hG:GsOk bs.length gs) (hs:1≤s):∀ x∈itemsL bs gs k s mi t u,ItOk p bs.length k mi t x:=by
 intro x hx
 rcases List.mem_append.1 hx with hx | hx
 · rcases List.mem_append.1 hx with hx | hx
   · obtain ⟨i,hi,rfl⟩:=List.mem_map.1 hx
     have hi:=List.mem_range.1 hi
     exact ⟨rfl,.inl ⟨rfl,by simp only [plainIt];omega⟩⟩
   · obtain ⟨g,hg,hx⟩:=List.mem_flatMap.1 hx
     have hgo:=hG g hg
     rcases List.mem_append.1 hx with hx | hx
     · rcases List.mem_append.1 hx with hx | hx
       · obtain ⟨i,hi,rfl⟩:=List.mem_map.1 hx
         have hi:=List.mem_range.1 hi
         exact ⟨rfl,.inr (.inl ⟨rfl,by simp only [plainIt];omega⟩)⟩
       · obtain ⟨q,hq,hx⟩:=List.mem_flatMap.1 hx
         have hq:=List.mem_range.1 hq
         obtain ⟨i,hi,hx⟩:=List.mem_flatMap.1 hx
         have hi:=List.mem_range.1 hi
         obtain ⟨a,ha,rfl⟩:=List.mem_map.1 hx
         have hk2:0<k-1:=by omega
         have hq2:q / (k-1)<2:=Nat.div_lt_of_lt_mul (by rw [Nat.mul_comm];exact hq)
         have hq3:q % (k-1)<k-1:=Nat.mod_lt _ hk2
         obtain ⟨⟨y1,y2⟩,hy⟩:=get_some bs (g.1+i) (by omega)
         have hbo:=hB _ (List.mem_of_getElem? hy)
         rw [jobOf_at hy] at ha
         have hok:AcOk p bs.length k t a:=(roundL_ok (j:=⟨t,g.1+i,y1,y2,k,s⟩) hk hbo.1 (Nat.le_trans hbo.2 hp) hs (by omega) (show q % (k-1)<k by omega) (show g.1+i<bs.length by omega) a ha).more hbo.2
         refine ⟨rfl,?_⟩
         cases hsd:a.send with
         | true=>exact .inr (.inr (.inl ⟨by simp [actIt,hsd],hok⟩))
         | false=>exact .inr (.inr (.inr (.inl ⟨by simp [actIt,hsd],hok⟩)))
     · obtain ⟨i,hi,rfl⟩:=List.mem_map.1 hx
       have hi:=List.mem_range.1 hi
       exact ⟨rfl,.inr (.inr (.inr (.inr (.inl ⟨rfl,by simp only [plainIt];omega⟩))))⟩
 · simp at hx
   subst hx
   exact ⟨rfl,.inr (.inr (.inr (.inr (.inr rfl))))⟩
theorem plBs_in {c:Kf} {p:Nat} (h:c.Ok):∀ b∈plBs c p,b.1≤b.2∧b.2≤p:=fun b hb=>by
 have hb':=List.mem_reverse.1 hb
 exact ⟨blocks_ord p c.bu b hb',(blocks_le p c.bu h.bu.1 b hb').2⟩
theorem plIts_ok {c:Kf} {p t u:Nat} (h:c.Ok) (hp:p≤60):∀ x∈plIts c p t u,ItOk p (plBs c p).length c.k c.mi t x :=
 itemsL_ok h.k.1 (plBs_in h) (by omega) (plBs_ok h hp).2.2.1 h.s.1
theorem plIts_len {c:Kf} (hc:c.Ok) (p t t' u:Nat):(plIts c p t u).length=(plIts c p t' u).length:=by
 rw [items_cnt c hc p t u,items_cnt c hc p t' u]
 refine congrArg _ (sumR_congr fun b _=>?_)
 unfold bktCnt
 refine congrArg _ (sumR_congr fun q _=>?_)
 rw [rndB_cnt,rndB_cnt,roundL_cnt,roundL_cnt]
 rfl
structure NetIn (W:World) (gn gs q:Nat) (ns:List Nat) (ps:List Int):Prop where
 ex:∃ w0 B P cp cl Ap As Al ms,Mem W (netP w0 B gn gs q P cp (ns.length-1) cl ns Ap As Al ps ms)∧(ms.map Lk.k=List.range (ns.length-1)∧∀ m∈ms,midN ns m.k-offN ns m.k≤m.c)∧ps.length=P∧P=offN ns (ns.length-1)∧P≤cp
 form:∃ lo hi,FormAt W lo hi gs ns∧hi≤W.heap.size
 ok:NsOk ns
 ps:In64 ps
 q:q≤62
theorem NetIn.below {W W':World} {gn gs q:Nat} {ns:List Nat} {ps:List Int} (h:NetIn W gn gs q ns ps) (hb:Below W.heap.size W W'):NetIn W' gn gs q ns ps:=by
 obtain ⟨⟨w0,B,P,cp,cl,Ap,As,Al,ms,h1,h2⟩,⟨lo,hi,h3,h4⟩,h5,h6,h7⟩:=h
 exact ⟨⟨w0,B,P,cp,cl,Ap,As,Al,ms,h1.below hb,h2⟩,⟨lo,hi,h3.below h4 hb,Nat.le_trans h4 hb.size⟩,h5,h6,h7⟩
theorem traceN_any (w:World) (gn gs q nx cx:Nat) (ns:List Nat) (X:Option Addr) (ps xs:List Int) (h:NetIn w gn gs q ns ps) (hX:Rd w w.heap.size X (zC xs)) (hx:xs.length=nx) (hnx:ns[0]?=some nx) (h1:In64 xs) :
  Calls Tryz.prog 232 #[.pointer (some ⟨gn,0,none⟩),.slice X nx cx] w fun e w'=>∃ Ao co ls,e=.returned (.tuple #[.slice Ao ns.length co,.bool true])∧lyOk ns ps q xs ns.length ls∧Mem w' [.bel w.heap.size w,vvO w.heap.size ns.length co Ao (lyVals ls),famCh (lyFam ls)]:=by
 obtain ⟨⟨w0,B,P,cp,cl,Ap,As,Al,ms,hM,hMS,hp,hP,hPc⟩,⟨lo,hi,hF,hh⟩,hn,h2,hq⟩:=h
 exact trace_any w w0 B gn gs q P cp cl lo hi nx cx ns Ap As Al X ps xs ms hM hMS hF hh hn hp hP hPc hX hx hnx h1 h2 hq (own_cap (hM.own 4 rfl))
def subTo (ys xs:List Int):Nat→List Int
 | 0=>xs
 | k+1=>(subTo ys xs k).set k (wrap64 ((xs[k]?.getD 0)-(ys[k]?.getD 0)))
theorem subTo_len (ys xs:List Int):∀ k,(subTo ys xs k).length=xs.length
 | 0=>rfl
 | k+1=>by rw [subTo,List.length_set,subTo_len ys xs k]
theorem subTo_at (ys xs:List Int):∀ k j,k≤j→(subTo ys xs k)[j]?=xs[j]?
 | 0,_,_=>rfl
 | k+1,j,h=>by rw [subTo,List.getElem?_set_ne (by omega),subTo_at ys xs k j (by omega)]
theorem subTo_in {ys xs:List Int} (h:In64 xs):∀ k,In64 (subTo ys xs k)
 | 0=>h
 | k+1=>(subTo_in h k).set _ (wrap64_in _)
def missP (w:World) (n co m gd cd:Nat) (Ao:Option Addr) (ls:List Ly) (zs:List Int):List Ch :=
 [.bel w.heap.size w,vvO w.heap.size n co Ao (lyVals ls),famCh (lyFam ls),.own w.heap.size 2 1 (.slice (some ⟨gd,0,none⟩) m cd) m (zC zs)]
set_option maxRecDepth 100000 in
theorem miss_any (w:World) (gn gs q nx cx ny cy:Nat) (ns:List Nat) (X Y:Option Addr) (ps xs ys:List Int) (h:NetIn w gn gs q ns ps) (hX:Rd w w.heap.size X (zC xs)) (hx:xs.length=nx) (hnx:ns[0]?=some nx) (h1:In64 xs)
  (hY:Rd w w.heap.size Y (zC ys)) (hy:ys.length=ny) (hny:ns[ns.length-1]?=some ny) :
  Calls Tryz.prog 224 #[.pointer (some ⟨gn,0,none⟩),.slice X nx cx,.slice Y ny cy] w fun e w'=>∃ Ao co ls gd cd,e=.returned (.tuple #[.slice Ao ns.length co,.slice (some ⟨gd,0,none⟩) ny cd,.bool true])∧lyOk ns ps q xs ns.length ls ∧
   Mem w' (missP w ns.length co ny gd cd Ao ls (subTo ys (layL ns ps q xs (ns.length-1)) ny)):=by
 have CT:=K1 (traceN_any w gn gs q nx cx ns X ps xs h hX hx hnx h1)
 have HY:=K1 (And.intro hY hy)
 have hn2:=h.ok.len
 have hny1:1≤ny:=h.ok.pos ny (List.mem_of_getElem? hny)
 have hny2:ny≤1000:=by
  obtain ⟨a,b,ha,hb,_,_,_,_,_,h4,_⟩:=h.ok.at_ (k:=ns.length-2) (by omega)
  rw [show ns.length-2+1=ns.length-1 by omega,hny] at hb
  injection hb with hb;omega
 have hll:(layL ns ps q xs (ns.length-1)).length=ny:=by rw [layL_len ns ps q xs (by rw [hnx];exact hx),hny];rfl
 have CC:=K1 (fun W A c (hW:Rd W W.heap.size A (zC (layL ns ps q xs (ns.length-1))))=>vclone_any A ny c _ W hW hll (by omega))
 have CSb:=K1 (fun W a b=>sub_any W a b)
 obtain ⟨n1,hn1⟩:∃ n1,n1=ns.length-1:=⟨_,rfl⟩
 have hnl:ns.length=n1+1:=by omega
 rw [← hn1] at hll CC ⊢
 rw [hnl] at CT ⊢
 have hni:(n1:Int)+1-1=(n1:Int):=by omega
 have hn15:n1≤15:=by omega
 have hnlt:n1<n1+1:=by omega
 have HLL:=K1 hll
 clear h hX hY hx hnx h1 hy hny hn2 hn1 hnl hll
 go_enter Tryz.func224,Tryz.ntmps224
 go_wp2_with fail
 refine CT.out.mono ?_
 rintro e w1 ⟨Ao,co,ls,rfl,hok,hm⟩
 have HOK:=K1 hok
 obtain ⟨l,hl,hlv,hlc⟩:=hok.at_ hnlt
 obtain ⟨go,rfl⟩:=hm.ownA 1 rfl (by omega)
 have HLV:=K1 (show (lyVals ls)[n1]?=some (.slice l.A ny l.c) by simp only [lyVals,List.getElem?_map,hl,Option.map_some];rw [hlv,HLL.out])
 have HLR:=K1 (show ∀ (W:World) (M:List Ch),Mem W M→M[2]?=some (famCh (lyFam ls))→Rd W W.heap.size l.A (zC (layL ns ps q xs n1)) from fun W M h hM=>h.famRd (j:=n1) hM (by simp [lyFam,hl,hlv]))
 have HM:=K1 hm
 clear hok hl hlv hlc hm CT
 have d1:w1.cell? ⟨go,n1,none⟩=some (.slice l.A ny l.c):=((HM.out.own 1 rfl).cellAt n1 (by omega)).trans HLV.out
 go_wp2_with fail
 refine (CC.out _ _ _ (HLR.out _ _ HM.out rfl)).mono ?_
 rintro e w2 ⟨D,cd,rfl,ho,hcd,hb⟩
 have hg:=(HM.out.bel 0 rfl).size
 replace HM:=K1 ((HM.out.push_own hb ho rfl).lower (i:=3) rfl hg)
 clear ho hb CC d1 hg
 obtain ⟨gd,rfl⟩:=HM.out.ownA 3 rfl (by omega)
 go_wp2_with fail
 have HM0:=K1 (HM.out.pick [0,1,2,3] (missP w (n1+1) co ny gd cd (some ⟨go,0,none⟩) ls (subTo ys (layL ns ps q xs n1) 0)) rfl (by decide))
 clear HM HLR HLV
 go_loopw [42] (fun i wr=>∃ j:Nat,j≤ny∧i=.int .i64 j∧Hid (Mem wr (missP w (n1+1) co ny gd cd (some ⟨go,0,none⟩) ls (subTo ys (layL ns ps q xs n1) j)))) (fun i _=>ny-(intOf i).toNat)
 case atStart=>exact ⟨0,Nat.zero_le _,rfl,HM0⟩
 case round =>
  clear HM0
  obtain ⟨j,hj,rfl,HM⟩:=hrel
  by_cases hlt:j<ny
  · obtain ⟨y,hy⟩:=get_some ys j (by have:=HY.out.2;omega)
    obtain ⟨v,hv⟩:=get_some (layL ns ps q xs n1) j (by have:=HLL.out;omega)
    replace HM:=K1 (HM.out.add_rd (i:=0) rfl HY.out.1)
    obtain ⟨bY,oY,rfl,_⟩:=HM.out.rd 4 rfl (by rw [zC_len];have:=HY.out.2;omega)
    have HYV:=K1 (And.intro (zC_at hy) (zC_at ((subTo_at ys (layL ns ps q xs n1) j j (Nat.le_refl _)).trans hv)))
    have HS:=K1 (show zC (subTo ys (layL ns ps q xs n1) (j+1))=(zC (subTo ys (layL ns ps q xs n1) j)).set j (.int .i64 (wrap64 (v-y))) by rw [subTo,zC_set,hv,hy];rfl)
    have HCE:=K1 (show ∀ (W:World) (M:List Ch),Mem W M→M[3]?=some (.own w.heap.size 2 1 (.slice (some ⟨gd,0,none⟩) ny cd) ny (zC (subTo ys (layL ns ps q xs n1) j)))→W.cell? ⟨gd,j,none⟩=some (.int .i64 v) from fun W M h hM=>((h.own 3 hM).cellAt j (by omega)).trans HYV.out.2)
    have CK:=K1 (fun W=>CSb.out W v y)
    clear hy hv
    generalize wrap64 (v-y)=p at *
    go_wp2_with fail
    refine wp_region_stage (.reads [0,1,2,3,4,5,6,7,8,9] (.eff 10 (.reads [11] (.eff 12 (.fin))))) 12
     (fun W'=>W'.cell? ⟨gd,j,none⟩=some (.int .i64 v)∧W'.cell? ⟨bY,oY+j,none⟩=some (.int .i64 y))
     (by kernel_rfl) (by kernel_rfl) (by intro d v c a w h;cases d <;> exact h) ?_
    replace HM:=K1 HM.out.drew
    refine PlS.reads_ ⟨HCE.out _ _ HM.out rfl,HM.out.rdAt 4 rfl HYV.out.1⟩ (by kernel_rfl) ?_
    simp only [pickO,p1,p2,p3,p4]
    apply Exists.intro
    apply And.intro
    · intro W' hS
      obtain ⟨s1,s2⟩:=hS
      repeat still_step
      exact wpStill_nil rfl
    refine PlS.eff_ ?_
    simp only [pickO,p1,p2,p3,p4]
    go_wp2_with fail
    refine (CK.out _).mono ?_
    rintro e w3 ⟨rfl,rfl⟩
    go_wp2_with fail
    refine After.go ⟨HCE.out _ _ HM.out rfl,HM.out.rdAt 4 rfl HYV.out.1⟩ ?_
    refine PlS.reads_ ⟨HCE.out _ _ HM.out rfl,HM.out.rdAt 4 rfl HYV.out.1⟩ (by kernel_rfl) ?_
    simp only [pickO,p1,p2,p3,p4]
    apply Exists.intro
    apply And.intro
    · intro W' hS
      repeat still_step
      exact wpStill_nil rfl
    refine PlS.eff_ ?_
    simp only [pickO,p1,p2,p3,p4]
    have hc1:=HCE.out _ _ HM.out rfl
    have kf:=HM.out.ownF 3 rfl
    have hm3:=(HM.out.setOwn (j:=j) (i:=3) rfl (.int .i64 p)).front 4
    have HM3:=K1 (show Mem _ (missP w (n1+1) co ny gd cd (some ⟨go,0,none⟩) ls (subTo ys (layL ns ps q xs n1) (j+1))) by unfold missP;rw [HS.out];exact hm3)
    clear hm3 HM
    go_wp2_with fail
    refine After.last (by decide) (PlS.fin_ ?_)
    go_wp2_with fail
    go_roundw
    case rel=>exact ⟨j+1,by omega,by go_num,HM3⟩
    case measure=>simp [intOf];omega
  · have hjn:j=ny:=by omega
    subst hjn
    go_wp2_with fail
    go_ret3
    exact ⟨_,co,ls,gd,cd,rfl,HOK.out,HM.out⟩
end Go.Proofs.YtdpojpcoghcieaaGreat
