/- A part of the proof of TopTags: Ex, DataCheck, Law. Conditions: none. -/
import Derived.ProofKit
import Derived.Deep.Fields
import Derived.Deep.Slices
import Derived.ChangeSame
import Derived.Carry
import Derived.Test.YtdpojpcoghcieaaGreatSxAA
set_option maxHeartbeats 8000000
set_option linter.all false
namespace Go.Proofs.YtdpojpcoghcieaaGreat
open Lib renaming hid → K1
open Go.RowKit
open Value renaming int → U, slice → Us
open IntKind renaming i64 → O
open World renaming block_lt_of_cell? → Wj
open Below renaming refl → Wk
open Nat renaming le_refl → Wl, zero_le → Wm
open List renaming take_of_length_le → Wn, length_cons → Wo, getElem?_append_right → Wp, findIdx?_cons → Wq, take_succ_cons → Wr
section
structure Ex where
 ax:Option Addr
 xs:List Int
 cx:Nat
 ay:Option Addr
 ys:List Int
 cy:Nat
def Ex.cells (e:Ex):List Value:=[Us e.ax e.xs.length e.cx,Us e.ay e.ys.length e.cy]
def Ex.val (e:Ex):Value:=.agg #[Us e.ax e.xs.length e.cx,Us e.ay e.ys.length e.cy]
def Bi (l:List Ex):List Value:=l.flatMap Ex.cells
theorem Er:∀ l:List Ex,(Bi l).length=2*l.length
 | []=>rfl
 | e::l=>by
   have ih:=Er l;have e1:Bi (e::l)=e.cells++Bi l:=rfl;rw [e1,List.length_append,ih,Wo];show 2+_=_;omega
theorem FL:∀ (l:List Ex) (k:Nat) (e:Ex),l[k]?=some e->(Bi l)[2*k]?=some (Us e.ax e.xs.length e.cx)/\(Bi l)[2*k+1]?=some (Us e.ay e.ys.length e.cy)
 | [],_,_,h=>by simp at h
 | x::l,0,e,h=>by
   simp at h;subst h
   exact ⟨rfl,rfl⟩
 | x::l,k+1,e,h=>by
   have ih:=FL l k e (by simpa using h);have e1:Bi (x::l)=x.cells++Bi l:=rfl;have h2:x.cells.length=2:=rfl;rw [e1,Wp (by omega),Wp (by omega),h2];rw [show 2*(k+1)-2=2*k from by omega,show 2*(k+1)+1-2=2*k+1 from by omega];exact ih
def RdX (w:World) (B:Nat) (e:Ex):Prop:=RdI w B e.ax e.xs/\RdI w B e.ay e.ys/\e.xs.length<=e.cx/\e.ys.length<=e.cy/\e.xs.length<=9223372036854775807/\e.ys.length<=9223372036854775807
def RdE (w:World) (B:Nat) (A:Option Addr) (l:List Ex):Prop:=Rd w B A (Bi l)/\∀ e∈l,RdX w B e
theorem RdX.below {w w':World} {B:Nat} {e:Ex} (h:RdX w B e) (hb:Below B w w'):RdX w' B e:=⟨h.1.below hb,h.2.1.below hb,h.2.2⟩
theorem RdX.more {w:World} {B B':Nat} {e:Ex} (h:RdX w B e) (hB:B<=B'):RdX w B' e:=⟨h.1.more hB,h.2.1.more hB,h.2.2⟩
theorem RdE.below {w w':World} {B:Nat} {A:Option Addr} {l:List Ex} (h:RdE w B A l) (hb:Below B w w'):RdE w' B A l:=⟨h.1.below hb,fun e he=>(h.2 e he).below hb⟩
theorem RdE.more {w:World} {B B':Nat} {A:Option Addr} {l:List Ex} (h:RdE w B A l) (hB:B<=B'):RdE w B' A l:=⟨h.1.more hB,fun e he=>(h.2 e he).more hB⟩
theorem RdE.at_ {w:World} {B:Nat} {A:Option Addr} {l:List Ex} (h:RdE w B A l) (h0:0<l.length) :
  ∃ b off,A=some ⟨b,off,none⟩/\b<B/\∀ k e,l[k]?=some e->w.cell? ⟨b,off+k*2,none⟩=some (Us e.ax e.xs.length e.cx)/\w.cell? ⟨b,off+k*2+1,none⟩=some (Us e.ay e.ys.length e.cy):=by
 obtain ⟨b,off,rfl,hb,hc⟩:=h.1 (by rw [Er];omega);refine ⟨b,off,rfl,hb,fun k e he=>?_⟩;have ha:=FL l k e he;have h1:=hc _ _ ha.1;have h2:=hc _ _ ha.2;rw [Nat.mul_comm] at h1;rw [Nat.mul_comm 2 k] at h2;exact ⟨h1,by rw [Nat.add_assoc];exact h2⟩
def Cu (inn out:Int) (e:Ex):Bool:=!(decide ((e.xs.length:Int)=inn) && decide ((e.ys.length:Int)=out))
def EF (inn out:Int) (l:List Ex):Nat:=(l.findIdx? (Cu inn out)).getD 0
def B3 (inn out:Int) (l:List Ex):Bool:=l.all fun e=>!Cu inn out e
theorem Kq {inn out:Int} {l:List Ex} {k:Nat} {e:Ex} (he:l[k]?=some e) (h:B3 inn out (l.take k)=true) (hb:Cu inn out e=false):B3 inn out (l.take (k+1))=true:=by
 unfold B3 at h ⊢;rw [List.take_add_one,he,List.all_append,h];simp [hb]
theorem Kr {inn out:Int}:∀ {l:List Ex} {k:Nat} {e:Ex},l[k]?=some e->B3 inn out (l.take k)=true->Cu inn out e=true->B3 inn out l=false/\l.findIdx? (Cu inn out)=some k
 | [],k,e,h,_,_=>by simp at h
 | x::l,0,e,h,_,hb=>by
   simp at h;subst h
   simp [B3,hb,Wq]
 | x::l,k+1,e,h,hf,hb=>by
   simp only [B3,Wr,List.all_cons,Bool.and_eq_true,Bool.not_eq_true'] at hf;have ih:=Kr (l:=l) (k:=k) (by simpa using h) hf.2 hb;simp [B3,Wq,hf.1,ih.2];have:=ih.1
   simpa [B3] using this
theorem Xio {inn out:Int} {l:List Ex} {k:Nat} {e:Ex} (he:l[k]?=some e) (h:B3 inn out (l.take k)=true) (hb:Cu inn out e=true):B3 inn out l=false/\EF inn out l=k:=by
 have:=Kr he h hb;exact ⟨this.1,by unfold EF;rw [this.2];rfl⟩
theorem Ks:∀ {inn out:Int} {l:List Ex},B3 inn out l=true->EF inn out l=0:=fun {inn out l} h=>by
 unfold EF
 have:l.findIdx? (Cu inn out)=none:=by
  rw [List.findIdx?_eq_none_iff];intro x hx;have:=List.all_eq_true.1 h x hx
  simpa using this
 rw [this];rfl
def Asked (w:World) (b:Bool) (e:Ending) (w':World):Prop:=e=.returned (.bool b)/\Below w.heap.size w w'
theorem Kt {inn out:Int} {e:Ex} (h:¬ (e.xs.length:Int)=inn):Cu inn out e=true:=by simp [Cu,h]
theorem Ku {inn out:Int} {e:Ex} (h:¬ (e.ys.length:Int)=out):Cu inn out e=true:=by simp [Cu,h]
theorem Kv {inn out:Int} {e:Ex} (h:(e.xs.length:Int)=inn) (h':(e.ys.length:Int)=out):Cu inn out e=false:=by simp [Cu,h,h']
theorem Oj (inn out:Int) (ex:Ex) (b1 b2:Nat) (w:World) (h1:w.cell? ⟨b1,0,none⟩=some (U O inn)) (h2:w.cell? ⟨b2,0,none⟩=some (U O out)) :
  Calls Tryz.prog 101 #[ex.val,.pointer (some ⟨b1,0,none⟩),.pointer (some ⟨b2,0,none⟩)] w (Asked w (Cu inn out ex)):=by
 have l1:=Wj w _ h1;have l2:=Wj w _ h2;dsimp only at l1 l2;have hx:=fun h=>Kt (out:=out) (e:=ex) (inn:=inn) h
 have hy:=fun h=>Ku (out:=out) (e:=ex) (inn:=inn) h
 have hn:=fun h h'=>Kv (out:=out) (e:=ex) (inn:=inn) h h'
 obtain ⟨ax,xs,cx,ay,ys,cy⟩:=ex;dsimp only [Ex.val] at hx hy hn ⊢;generalize Cu inn out ⟨ax,xs,cx,ay,ys,cy⟩=bb at *;have Hx:=K1 hx;have Hy:=K1 hy;have Hn:=K1 hn;clear hx hy hn
 by_cases e1:(xs.length:Int)=inn
 . have k1:((xs.length:Int) != inn)=false:=by simpa using e1
   by_cases e2:(ys.length:Int)=out
   . have k2:((ys.length:Int) != out)=false:=by simpa using e2
     have hb:=K1 (Hn.out e1 e2);clear e1 e2;go_enter Tryz.func101,Tryz.ntmps101
     go_wp2
     go_ret;exact ⟨AY hb.out.symm,(Wk _ _).alloc (Wl _) _⟩
   . have k2:((ys.length:Int) != out)=true:=by simpa using e2
     have hb:=K1 (Hy.out e2);clear e1 e2;go_enter Tryz.func101,Tryz.ntmps101
     go_wp2
     go_ret;exact ⟨AY hb.out.symm,(Wk _ _).alloc (Wl _) _⟩
 . have k1:((xs.length:Int) != inn)=true:=by simpa using e1
   have hb:=K1 (Hx.out e1);clear e1;go_enter Tryz.func101,Tryz.ntmps101
   go_wp2
   go_ret;exact ⟨AY hb.out.symm,(Wk _ _).alloc (Wl _) _⟩
theorem Ol (inn out:Int) (A:Option Addr) (cap:Nat) (l:List Ex) (b1 b2:Nat) (w:World) (hr:RdE w w.heap.size A l) (hm:l.length<=9223372036854775807)
  (h1:w.cell? ⟨b1,0,none⟩=some (U O inn)) (h2:w.cell? ⟨b2,0,none⟩=some (U O out)) :
  Calls Tryz.prog 100 #[Us A l.length cap,.func (.func 101) #[] #[.pointer (some ⟨b1,0,none⟩),.pointer (some ⟨b2,0,none⟩)]] w
   fun e w'=>(B3 inn out l=true->e=.returned (U O (-1)))/\(B3 inn out l=false->e=.returned (U O (EF inn out l)))/\Below w.heap.size w w':=by
 have l1:=Wj w _ h1;have l2:=Wj w _ h2;dsimp only at l1 l2;have H1:=K1 h1;have H2:=K1 h2;clear h1 h2;go_enter Tryz.func100,Tryz.ntmps100
 go_wp2
 go_loopw [5,8] (fun _ i wr=>∃ k:Nat,k<=l.length/\i=U O k/\Hid (B3 inn out (l.take k)=true)/\Below w.heap.size w wr) (fun _ i _=>l.length-(intOf i).toNat)
 case atStart=>exact ⟨0,Wm _,rfl,K1 rfl,Wk _ _⟩
 case round =>
  obtain ⟨k,hk,rfl,hfit,hbr⟩:=hrel
  by_cases hlt:k<l.length
  . obtain ⟨b,off,rfl,hb,hc⟩:=hr.at_ (by omega);obtain ⟨ex,hex⟩:=Au l k hlt;have c1:wr.cell? ⟨b,off+k*2,none⟩=some (Us ex.ax ex.xs.length ex.cx):=(hbr.cell (p:=⟨b,off+k*2,none⟩) hb).trans (hc k ex hex).1;have c2:wr.cell? ⟨b,off+k*2+1,none⟩=some (Us ex.ay ex.ys.length ex.cy):=(hbr.cell (p:=⟨b,off+k*2+1,none⟩) hb).trans (hc k ex hex).2;have h1':wr.cell? ⟨b1,0,none⟩=some (U O inn):=(hbr.cell (p:=⟨b1,0,none⟩) l1).trans H1.out;have h2':wr.cell? ⟨b2,0,none⟩=some (U O out):=(hbr.cell (p:=⟨b2,0,none⟩) l2).trans H2.out;have C:=K1 (Oj inn out ex b1 b2 wr h1' h2');have HE:=K1 hex;clear hc hex h1' h2'
    cases hbad:Cu inn out ex
    . go_wp2_with (go_at_call 101;refine C.out.mono ?_;rintro e w1 ⟨rfl,hb1⟩;rw [hbad])
      go_roundw
      case rel=>exact ⟨k+1,by omega,by go_num,K1 (Kq HE.out hfit.out hbad),hbr.trans (hb1.mono hbr.size)⟩
      case measure=>simp [intOf];omega
    . have hf:=K1 (Xio HE.out hfit.out hbad)
      go_wp2_with (go_at_call 101;refine C.out.mono ?_;rintro e w1 ⟨rfl,hb1⟩;rw [hbad])
      go_ret;exact ⟨fun h=>absurd (hf.out.1.symm.trans h) (by decide),fun _=>AN (by rw [hf.out.2]),hbr.trans (hb1.mono hbr.size)⟩
  . have hf:Hid (B3 inn out l=true):=by
     have:=hfit.out;rw [Wn (by omega)] at this;exact K1 this
    clear hfit
    go_wp2
    go_ret;exact ⟨fun _=>rfl,fun h=>absurd (hf.out.symm.trans h) (by decide),hbr⟩
def Fitted (w:World) (inn out:Int) (l:List Ex) (e:Ending) (w':World):Prop:=e=.returned (.tuple #[U O (EF inn out l),.bool (B3 inn out l)])/\Below w.heap.size w w'
theorem FM {a a':Int} {b b':Bool} (h:a=a') (h':b=b'):Ending.returned (.tuple #[U O a,.bool b])=.returned (.tuple #[U O a',.bool b']):=by rw [h,h']
theorem Om (inn out:Int) (A:Option Addr) (cap:Nat) (l:List Ex) (w:World) (hr:RdE w w.heap.size A l) (hm:l.length<=9223372036854775807) :
  Calls Tryz.prog 60 #[Us A l.length cap,U O inn,U O out] w (Fitted w inn out l):=by
 have hB:Below w.heap.size w ((w.alloc (.cells #[U O inn] 3)).alloc (.cells #[U O out] 3)):=((Wk _ _).alloc (Wl _) _).alloc (by simp) _
 have C:=K1 (Ol inn out A cap l w.heap.size (w.heap.size+1) ((w.alloc (.cells #[U O inn] 3)).alloc (.cells #[U O out] 3)) ((hr.below hB).more hB.size) hm
  (Ay (Ct (heap_alloc_new w _) _) 0) (Ay (by have:=heap_alloc_new (w.alloc (.cells #[U O inn] 3)) (.cells #[U O out] 3);rw [World.size_alloc] at this;exact this) 0))
 cases hf:B3 inn out l
 . have HF:=K1 hf;clear hf;go_enter Tryz.func60,Tryz.ntmps60;go_wp2_with fail;refine C.out.mono ?_;rintro e w1 ⟨_,he,hb1⟩;obtain rfl:=he HF.out
   go_wp2
   go_ret2
   exact ⟨FM (by omega) (by rw [HF.out] <;> simp),hB.trans (hb1.mono hB.size)⟩
 . have HF:=K1 hf;clear hf;go_enter Tryz.func60,Tryz.ntmps60;go_wp2_with fail;refine C.out.mono ?_;rintro e w1 ⟨he,_,hb1⟩;obtain rfl:=he HF.out
   go_wp2
   go_ret2
   exact ⟨FM (by rw [Ks HF.out];first | rfl | simp) (by rw [HF.out] <;> simp),hB.trans (hb1.mono hB.size)⟩
theorem On (inn out:Int) (A:Option Addr) (cap:Nat) (l:List Ex) (w:World) (hr:RdE w w.heap.size A l) (hm:l.length<=9223372036854775807) :
  Calls Tryz.prog 54 #[Us A l.length cap,U O inn,U O out] w fun e w'=>e=.returned (.tuple #[U O (EF inn out l),.bool (B3 inn out l)])/\w=w':=by
 go_enter Tryz.func54,Tryz.ntmps54
 go_wp2
 go_loop [8] (fun i=>∃ k:Nat,k<=l.length/\i=U O k/\Hid (B3 inn out (l.take k)=true)) (fun i=>l.length-(intOf i).toNat)
 case atStart=>exact ⟨0,Wm _,rfl,K1 rfl⟩
 case round =>
  obtain ⟨k,hk,rfl,hfit⟩:=hrel
  by_cases hlt:k<l.length
  . obtain ⟨b,off,rfl,hb,hc⟩:=hr.at_ (by omega);obtain ⟨ex,hex⟩:=Au l k hlt;have c1:=(hc k ex hex).1;have c2:=(hc k ex hex).2;have HE:=K1 hex;clear hc hex
    by_cases e1:(ex.xs.length:Int)=inn
    . have k1:((ex.xs.length:Int) != inn)=false:=by simpa using e1
      by_cases e2:(ex.ys.length:Int)=out
      . have k2:((ex.ys.length:Int) != out)=false:=by simpa using e2
        have hb:=K1 (Kq HE.out hfit.out (Kv e1 e2));clear e1 e2
        go_wp2
        go_round
        case rel=>exact ⟨k+1,by omega,by go_num,hb⟩
        case measure=>simp [intOf];omega
      . have k2:((ex.ys.length:Int) != out)=true:=by simpa using e2
        have hb:=K1 (Xio HE.out hfit.out (Ku (inn:=inn) e2));clear e1 e2
        go_wp2
        go_ret2
        exact ⟨FM (by rw [hb.out.2]) hb.out.1.symm,rfl⟩
    . have k1:((ex.xs.length:Int) != inn)=true:=by simpa using e1
      have hb:=K1 (Xio HE.out hfit.out (Kt (out:=out) e1));clear e1
      go_wp2
      go_ret2
      exact ⟨FM (by rw [hb.out.2]) hb.out.1.symm,rfl⟩
  . have hf:Hid (B3 inn out l=true):=by
     have:=hfit.out;rw [Wn (by omega)] at this;exact K1 this
    clear hfit
    go_wp2
    go_ret2
    exact ⟨FM (by rw [Ks hf.out];rfl) hf.out.symm,rfl⟩
def Dm:List Ex->Int
 | []=>0
 | e::l=>min (e.xs.length:Int) 1000+min (e.ys.length:Int) 1000+Dm l
def DR (l:List Ex):Bool:=decide (l.length<=60) && decide (Dm (l.take 100)<=600)
theorem Kw:∀ (l:List Ex) (k:Nat) (e:Ex),l[k]?=some e->Dm (l.take (k+1))=Dm (l.take k)+min (e.xs.length:Int) 1000+min (e.ys.length:Int) 1000
 | [],_,_,h=>by simp at h
 | x::l,0,e,h=>by
   simp at h;subst h
   simp [Dm]
 | x::l,k+1,e,h=>by
   have ih:=Kw l k e (by simpa using h);simp only [Wr,Dm,ih];omega
theorem Kx:∀ (l:List Ex),0<=Dm l/\Dm l<=2000*l.length
 | []=>by simp [Dm]
 | e::l=>by
   have ih:=Kx l;simp only [Dm,Wo];omega
theorem Oo (A:Option Addr) (cap:Nat) (l:List Ex) (w:World) (hr:RdE w w.heap.size A l) (hm:l.length<=9223372036854775807) :
  Calls Tryz.prog 153 #[Us A l.length cap] w fun e w'=>e=.returned (.bool (DR l))/\∃ n,w'=w.drewN n:=by
 go_enter Tryz.func153,Tryz.ntmps153
 go_wp2
 go_loopw [3,4] (fun n i wr=>∃ k:Nat,k<=l.length/\k<=100/\i=U O k/\n=U O (Dm (l.take k))/\∃ q,wr=w.drewN q) (fun _ i _=>100-(intOf i).toNat)
 case atStart=>exact ⟨0,Wm _,Wm _,rfl,rfl,0,rfl⟩
 case round =>
  obtain ⟨k,hk,hk2,rfl,rfl,q,rfl⟩:=hrel;have bs:=Kx (l.take k);have bl:(l.take k).length<=100:=by have:=List.length_take_le k l;omega
  have bs2:Dm (l.take k)<=200000:=by omega
  have bs1:=bs.1;clear bs bl
  by_cases hlt:k<l.length
  . by_cases h100:k<100
    . obtain ⟨b,off,rfl,hb,hc⟩:=hr.at_ (by omega);obtain ⟨ex,hex⟩:=Au l k hlt;have c1:=(hc k ex hex).1;have c2:=(hc k ex hex).2;have hs:=K1 (Kw l k ex hex);have hx:=(hr.2 ex (List.mem_of_getElem? hex)).2.2;clear hc hex
      go_wp2
      go_quiet (fail)
      go_wp2
      go_roundw
      case rel =>
       refine ⟨k+1,by omega,by omega,by go_num,?_,_,rfl⟩;rw [hs.out]
       all_goals go_num
      case measure=>simp [intOf];omega
    . obtain rfl:k=100:=by omega
      by_cases h1:l.length<=60
      . omega
      . go_wp2
        go_ret;exact ⟨AY (by simp [DR,h1]),_,rfl⟩
  . have ht:Hid (l.take 100=l.take k):=K1 (by rw [Wn (by omega),Wn (by omega)])
    by_cases h1:l.length<=60
    . by_cases h2:Dm (l.take k)<=600
      . have hf:Hid (DR l=true):=K1 (by simp [DR,h1,ht.out,h2])
        go_wp2
        go_ret;exact ⟨AY hf.out.symm,_,rfl⟩
      . have hf:Hid (DR l=false):=K1 (by simp only [DR,h1,ht.out,h2];decide)
        go_wp2
        go_ret;exact ⟨AY hf.out.symm,_,rfl⟩
    . have hf:Hid (DR l=false):=K1 (by simp [DR,h1])
      go_wp2
      go_ret;exact ⟨AY hf.out.symm,_,rfl⟩
end
section
open Go.ChangeShapes Go.WideShapes Go.ChangeAt Go.RowKit Go.Deep
section
variable {H:Type} {enc:TypeId × Value->H} {P:Program}
theorem Ky (hl:laidOutB P=true) {W W':World} {sp:Nat->Bool}:∀ {ts:List TypeId} {vs:List Value} {ds:List (DataW H)} {ps:List MemPlace},(∀ t∈ts,P.readableRec t=true/\t<P.types.size) ->
  DataW.TrodAll enc P W 0 (fun _=>true) true ts vs ds ps->(∀ p∈ps,W.sameAt W' p)->(∀ p∈ps,sp p.block=true)->DataW.TrodAll enc P W' 0 sp true ts vs ds ps
 | [],[],[],_,_,h,_,_=>h
 | t::ts,v::vs,d::ds,ps,ht,h,hs,hp=>by
   obtain ⟨p,q,h1,h2,rfl⟩:=h
   exact ⟨p,q,WideElems.Trod_stays hl (ht t (by simp)).1 (ht t (by simp)).2 h1 (fun x hx=>hs x (by simp [hx])) (fun x hx=>hp x (by simp [hx])),
    Ky hl (fun t' h'=>ht t' (by simp [h'])) h2 (fun x hx=>hs x (by simp [hx])) (fun x hx=>hp x (by simp [hx])),rfl⟩
 | [],_::_,_,_,_,h,_,_=>h.elim
 | [],[],_::_,_,_,h,_,_=>h.elim
 | _::_,[],_,_,_,h,_,_=>h.elim
 | _::_,_::_,[],_,_,h,_,_=>h.elim
theorem Oq {f:Func} {s:ChangeSpec} {apart fresh handsOn again:Bool} {W W':World} {args:Array Value} {ds gs:List (DataW H)} {before:List MemPlace} {tb:TypeId}
  (hl:laidOutB P=true) (hpb:(f.params.toList.all fun t=>P.readableRec t && decide (t<P.types.size))=true) (hrt:f.resultTypes=#[tb]) (htb:P.underlying tb=some .bool) (hv:s.vars=[])
  (hs:s.fn H (ds++gs)={ results:=[.lit (.bool true)],args:=ds })
  (hW:DataW.Whole enc P f.params.toList s.vars apart W args.toList ds gs before) (hb:Below W.heap.size W W'):s.post enc P f apart fresh handsOn again W args (.bool true) W':=by
 have hp:∀ t∈f.params.toList,P.readableRec t=true/\t<P.types.size:=fun t ht=>by
  have:=List.all_eq_true.1 hpb t ht
  simpa using this
 have hW':=hW;obtain ⟨p,q,hA,hV,rfl,hfz,hnd⟩:=hW;rw [hv] at hV;obtain ⟨rfl,rfl⟩:=trodVars_none hV;have hlt:∀ x∈p++([]:List MemPlace),x.block<W.heap.size:=fun x hx=>hW'.lt x hx
 have hlt':∀ x∈p,x.block<W.heap.size:=fun x hx=>hlt x (by simp [hx])
 have hargs:∀ sp:Nat->Bool,(∀ x∈p++([]:List MemPlace),sp x.block=true)->DataW.TrodAll enc P W' 0 sp true f.params.toList args.toList (s.fn H (ds++[])).args p:=fun sp hsp=>by
  rw [hs];exact Ky hl hp hA (fun x hx=>hb.same (hlt' x hx)) (fun x hx=>hsp x (by simp [hx]))
 have hres:∀ (b:Nat) (sp:Nat->Bool) (hd:Bool),DataW.TrodAll enc P W' b sp hd f.resultTypes.toList ((Value.bool true).resultList f.resultTypes.size) (s.fn H (ds++[])).results []:=fun _ _ _=>by
  rw [hs,hrt];exact trodAll_mk1 (shut_bool htb true)
 have hvars:∀ sp:Nat->Bool,(∀ x∈p++([]:List MemPlace),sp x.block=true)->DataW.TrodVars enc P W' sp s.vars (s.fn H (ds++[])).vars []:=fun _ _=>by
  rw [hv,hs];exact rfl
 have hold:∀ x∈p++([]:List MemPlace),(fun b=>decide (b<W.heap.size)) x.block=true:=fun x hx=>by simpa using hlt x hx
 refine ⟨ds,[],p++[],[],p,[],hW',hres _ _ _,hargs _ hold,hvars _ hold,World.keptBut_mono (fun x hx=>⟨hx,?_⟩) (hb.frame (·∈p++[])),fun _=>?_⟩
 . right;simpa using hx
 . refine ⟨?_,_,_,([]++p)++[],⟨[]++p,[],trodAll_append (hargs _ (fun _ _=>rfl)) (hres _ _ _),hvars _ (fun _ _=>rfl),rfl,?_,?_⟩,?_⟩
   . intro j t r ht hr;rw [hrt] at ht hr
     match j with
     | 0 =>
       simp at ht;subst ht;simp [Value.resultList] at hr;subst hr;exact okWide_bool_mk htb true
     | j+1=>simp at ht
   . intro b off hx;have hin:MemPlace.cell b off∈p++[]:=by simpa using hx
     rw [hb.frozen (hlt _ hin)];exact hfz b off hin
   . intro ha;have:=hnd ha
     simpa using this
   . intro x hx _
     simpa using hx
theorem list12 {l:List Value} (h:l.length=12):∃ a0 a1 a2 a3 a4 a5 a6 a7 a8 a9 a10 a11,l=[a0,a1,a2,a3,a4,a5,a6,a7,a8,a9,a10,a11]:=by
 match l,h with
 | [a0,a1,a2,a3,a4,a5,a6,a7,a8,a9,a10,a11],_=>exact ⟨_,_,_,_,_,_,_,_,_,_,_,_,rfl⟩
theorem Fa {w:World} {base:Nat} {spare:Nat->Bool} {held:Bool} {t e:TypeId} {k:IntKind} {fuel:Nat} {c:Value} {y:DataW H × List MemPlace} (ht:P.underlying t=some (.slice e)) (he:P.underlying e=some (.int k)) (hc:P.cellsOf e=1)
  (h:DataW.trod enc P w base spare held fuel t [c]=some y) :
  ∃ (A:Option Addr) (zs:List Int) (cap:Nat),c=Us A zs.length cap/\zs.length<=cap/\zs.length<=9223372036854775807/\Rd w w.heap.size A (zs.map (Value.int k))/\∀ z∈zs,(Lit.int k z).wf=true:=by
 rcases open_ints ht he hc h with ⟨hcs,hx⟩ | ⟨a,len,cap,zs,hcs,_,hl,hm,hz,hx,hcell,hwz⟩
 . injection hcs with hcs _
   exact ⟨none,[],0,hcs,by simp,by simp,Rd.nil_ _ _ _,by simp⟩
 . injection hcs with hcs _
   have hlz:len<=zs.length:=by rw [hz];split <;> omega
   have htl:(zs.take len).length=len:=by simp;omega
   unfold maxLen at hm;refine ⟨some a,zs.take len,cap,by rw [htl];exact hcs,by omega,by omega,fun h0=>?_,fun z hz=>hwz z (List.mem_of_mem_take hz)⟩;have h0':0<zs.length:=by simp at h0;omega
   have c0:=hcell 0 h0';obtain ⟨b,off,spot⟩:=a
   have hsp:spot=none:=by
    cases spot with
    | none=>rfl
    | some s =>
      simp only [Addr.add,if_true,World.cell?] at c0
      split at c0 <;> simp at c0
   subst hsp;refine ⟨b,off,rfl,Wj w _ (by simpa [Addr.add] using c0),fun j u hu=>?_⟩;rw [List.getElem?_map,List.getElem?_take] at hu
   split at hu
   . rename_i hj
     have hjz:j<zs.length:=by omega
     have:=hcell j hjz;rw [show (⟨b,off,none⟩:Addr).add j=⟨b,off+j,none⟩ from by unfold Addr.add;split <;> simp_all] at this;rw [this]
     simpa [List.getD,hjz] using hu
   . cases hu
end
end
end Go.Proofs.YtdpojpcoghcieaaGreat
