/- A part of the proof of TopTags: RegionIn, ConfNeedPlain. Conditions: none. -/
import Derived.OrdersIn
import Derived.RangeFuncCalls
import Derived.Test.YtdpojpcoghcieaaGreatSxAC
set_option maxHeartbeats 8000000
set_option linter.all false
namespace Go.Proofs.YtdpojpcoghcieaaGreat
open Go.RowKit
open Int renaming le_ediv_iff_mul_le → WY, ediv_le_self → WZ
section
section
variable {P:Program} {ops:Array Oper} {Q:Exit->Act->World->Prop} {md:Region.Mode} {l n:Nat}
theorem OT {o:Oper} (hd:∀ c,o.op≠.defer c) {a:Act} {w:World} {K:Act->World->Prop} (h:o.wp P a w K Q):o.wpIn (Fence.wide.inRound l) n P a w K Q:=by
 refine ⟨fun _ _=>trivial,?_⟩;rw [Oper.semAt_eq _ _ _ hd];unfold Oper.wp at h;generalize (execOp a.eval o).run P w=r at *
 cases r with
 | ok x w' =>
   cases x <;> simp only [Oper.upon,Oper.uponIn] at h ⊢ <;>
    first
     | exact h
     | exact ⟨(fun hh=>by cases hh),CallsIn.inRound l (callsIn_wide.2 h)⟩
     | exact ⟨(fun hh=>by cases hh),fun c cs _=>let ⟨v,w1,r,s⟩:=h c cs;⟨v,w1,r,stepsIn_wide.2 s⟩⟩
 | halt x w'=>cases x <;> simp only [Oper.upon,Oper.uponIn] at h ⊢ <;> exact h
theorem KB (hd:∀ (i:Nat) (o:Oper) c,ops[i]?=some o->o.op≠.defer c) (hQ:¬ LetsOut Q):∀ (fuel:Nat) (listed:Array Bool) (a:Act) (w:World),
  wpAny P md ops Q fuel listed a w->wpAnyIn (Fence.wide.inRound l) n P md ops Q fuel listed a w
 | 0,_,_,_,h=>h
 | fuel+1,listed,a,w,h=>⟨h.1,fun i hi=>by
   have hh:=wpOp_mono (fun a' w' h'=>KB hd hQ fuel _ a' w' h') (h.2 i hi);unfold wpOp at hh;unfold wpOpIn
   cases ho:ops[i]? with
   | none=>rw [ho] at hh;exact hh
   | some o =>
     rw [ho] at hh;dsimp only at hh ⊢
     by_cases hw:Region.wanted o (yielded ops a.tmps)=true
     . rw [if_pos hw] at hh ⊢;exact OT (hd i o · ho) (hh.resolve_right fun h2=>hQ h2.2)
     . rw [if_neg hw] at hh ⊢
       exact ⟨fun _ _=>trivial,hh⟩⟩
theorem OU {l:List Oper} (h:l.all (fun o=>!(o.op matches .defer _))=true):∀ (i:Nat) (o:Oper) c,(l.toArray)[i]?=some o->o.op≠.defer c:=by
 intro i o c ho e;have hm:o∈l:=by simpa using Array.mem_of_getElem? ho
 have:=List.all_eq_true.1 h o hm;rw [e] at this
 cases this
end
end
section
def epo (k st ba n:Int):Int:=if k≠0\/n<ba\/1048576<n then 0 else (st+n / ba-1) / (n / ba)
theorem DS {k st ba n:Int} (h:k≠0\/n<ba\/1048576<n):epo k st ba n=0:=if_pos h
theorem GO {k st ba n:Int} (h:¬ (k≠0\/n<ba\/1048576<n)):epo k st ba n=(st+n / ba-1) / (n / ba):=if_neg h
theorem OV {s d e:Int} (hd:1<=d) (h1:s<=e*d) (h2:e=0\/(e-1)*d<s) (hs:0<=s):(s+d-1) / d=e:=by
 have hd0:(0:Int)<d:=by omega
 rcases h2 with rfl | h2
 . have:s=0:=by rw [Int.zero_mul] at h1;omega
   subst this;rw [Int.ediv_eq_zero_of_lt (by omega) (by omega)]
 . have e1:(e-1)*d=e*d-d:=by rw [Int.sub_mul,Int.one_mul]
   have e2:(e+1)*d=e*d+d:=by rw [Int.add_mul,Int.one_mul]
   have a:e<=(s+d-1) / d:=(WY hd0).2 (by omega);have b:(s+d-1) / d<e+1:=(Int.ediv_lt_iff_lt_mul hd0).2 (by omega);omega
theorem IQ {n ba:Int} (h1:1<=ba) (h2:ba<=n) (h3:n<=1048576):1<=n / ba/\n / ba<=1048576:=by
 have a:1<=n / ba:=(WY (by omega)).2 (by omega);have b:=WZ (a:=n) ba (by omega);omega
theorem KC {k st ba n:Int} (h1:k=0->1<=ba) (hs:0<=st) (hs':st<=1048576):0<=epo k st ba n/\epo k st ba n<=2097152:=by
 by_cases h:k≠0\/n<ba\/1048576<n
 . rw [DS h];omega
 . rw [GO h];have hq:=IQ (h1 (by omega)) (by omega:ba<=n) (by omega);have a:0<=(st+n / ba-1) / (n / ba):=Int.ediv_nonneg (by omega) (by omega);have b:=WZ (a:=st+n / ba-1) (n / ba) (by omega);omega
theorem DT {zs:List Int} {c:Cf} (h:AT zs c=0):(0<=c.st/\c.st<=1048576)/\1<=c.ba/\c.ba<=1048576/\AV zs=0:=by
 unfold AT at h
 split at h
 . cases h
 split at h
 . cases h
 split at h
 . omega
 split at h
 . cases h
 split at h
 . cases h
 rename_i h1 h2 h3 h4 h5
 have hn:BL c=true:=by simpa using h4
 simp only [BL,Bool.and_eq_true,Bool.or_eq_true,decide_eq_true_eq] at hn;have hst:=hn.2
 have:c.st=0\/(1<=c.st/\c.st<=1048576):=by
  rcases hst with e | e
  . exact .inl e
  . exact .inr (Di.1 e)
 have h3':AV zs=0:=by
  by_cases e:AV zs=0
  . exact e
  . exact absurd e h3
 exact ⟨by omega,by omega,by omega,h3'⟩
end
end Go.Proofs.YtdpojpcoghcieaaGreat
