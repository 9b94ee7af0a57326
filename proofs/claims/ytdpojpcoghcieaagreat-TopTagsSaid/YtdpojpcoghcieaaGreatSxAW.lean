/- A part of the proof of TopTags: GradEl. Conditions: none. -/
import Derived.Test.YtdpojpcoghcieaaGreatSxAS
set_option maxHeartbeats 8000000
set_option linter.all false
namespace Go.Proofs.YtdpojpcoghcieaaGreat
open Go.RowKit
open List renaming getElem?_eq_getElem → Aag, getElem?_eq_none → Aah
section
theorem Fv {a b:List Int} (hl:a.length=b.length) (h:∀ i,i<a.length->a[i]?.getD 0=b[i]?.getD 0):a=b:=by
 refine List.ext_getElem? fun i=>?_
 rcases Nat.lt_or_ge i a.length with hi | hi
 . have:=h i hi;rw [Aag hi,Aag (hl ▸ hi)] at this ⊢;exact congrArg some this
 . rw [Aah hi,Aah (hl ▸ hi)]
theorem Ma (a b:Int):wrap64 (wrap64 a+b)=wrap64 (a+b):=by unfold wrap64;omega
theorem Mb {a:Int} (h:-9223372036854775808<=a/\a<=9223372036854775807):wrap64 a=a:=by unfold wrap64;omega
theorem Fw (l:List Int) (i j:Nat) (v:Int) (hi:i<l.length):(l.set i v)[j]?.getD 0=if j=i then v else l[j]?.getD 0:=by
 by_cases e:j=i
 . subst e;rw [List.getElem?_set_self hi,if_pos rfl];rfl
 . rw [List.getElem?_set_ne (Ne.symm e),if_neg e]
theorem Jq (l:List Int) (a b r:Nat) (h:r<b-a):(subL l a b)[r]?.getD 0=l[a+r]?.getD 0:=by
 unfold subL;rw [List.getElem?_take_of_lt h,List.getElem?_drop]
theorem Fy (f:Nat->Int) (n i:Nat) (h:i<n):((List.range n).map f)[i]?.getD 0=f i:=by simp [h]
theorem Md (n i:Nat):(AE n)[i]?.getD 0=0:=by
 rcases Nat.lt_or_ge i n with h | h <;> simp [AE,h]
theorem Gn (lo:Nat) (ys xs:List Int):∀ k,lo+k<=xs.length->∀ j,(Bn lo ys xs k)[j]?.getD 0=if lo<=j/\j<lo+k then wrap64 (xs[j]?.getD 0+ys[j-lo]?.getD 0) else xs[j]?.getD 0
 | 0,_,j=>by rw [if_neg (by omega)];rfl
 | k+1,h,j=>by
   have e1:=Gn lo ys xs k (by omega) j;have e2:=Gn lo ys xs k (by omega) (lo+k);rw [if_neg (by omega)] at e2;rw [Bn,Fw _ _ _ _ (by rw [D4];omega),e2]
   by_cases e:j=lo+k
   . subst e;rw [if_pos rfl,if_pos (by omega),Nat.add_sub_cancel_left]
   . rw [if_neg e,e1]
     by_cases e2:lo<=j/\j<lo+k
     . rw [if_pos e2,if_pos (by omega)]
     . rw [if_neg e2,if_neg (by omega)]
end
end Go.Proofs.YtdpojpcoghcieaaGreat
