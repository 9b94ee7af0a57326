/- A part of the proof of TopSerial: Spine, Order, Draw. Conditions: none. -/
import Derived.StillTactics
import Derived.StillTail
import Derived.OrdersHeld
import Derived.Test.YtdpojpcoghcieaaGreatSdAB
set_option maxHeartbeats 8000000
namespace Go.Proofs.YtdpojpcoghcieaaGreat
open Lib renaming hid → K1
open Go.RowKit
section
variable {P:Program} {ops:Array Oper} {Q:Exit→Act→World→Prop} {md:Region.Mode} {S:World→Prop} {t:Nat}
def AnyT (P:Program) (md:Region.Mode) (ops:Array Oper) (Q:Exit→Act→World→Prop) (S:World→Prop) (t:Nat):Nat→Array Bool→Act→World→Prop
 | 0,listed,a,w=>Region.ready md ops listed=[]∧Q .normal a w
 | fuel+1,listed,a,w =>
   (Region.ready md ops listed=[]→Q .normal a w) ∧
   ∀ i∈Region.ready md ops listed,wpOp P ops Q i (fun a' w'=>(i<t→S w')∧AnyT P md ops Q S t fuel (listed.setIfInBounds i true) a' w') a w
theorem AnyT.any:∀ (fuel:Nat) (listed:Array Bool) (a:Act) (w:World),AnyT P md ops Q S t fuel listed a w→wpAny P md ops Q fuel listed a w
 | 0,_,_,_,h=>h
 | fuel+1,_,_,_,h=>⟨h.1,fun i hi=>wpOp_mono (fun a' w' h'=>AnyT.any fuel _ a' w' h'.2) (h.2 i hi)⟩
theorem AnyT.of_any:∀ (fuel:Nat) (listed:Array Bool) (a:Act) (w:World),(∀ j∈Region.ready md ops listed,t≤j)→(∀ j ok,ops[j]?=some ok→j<t→listed.getD j true=true)→wpAny P md ops Q fuel listed a w→AnyT P md ops Q S t fuel listed a w
 | 0,_,_,_,_,_,h=>h
 | fuel+1,listed,a,w,hr,hl,h=>⟨h.1,fun i hi=>wpOp_mono (fun a' w' h'=>⟨fun hlt=>absurd (hr i hi) (by omega),AnyT.of_any fuel _ a' w' (fun j hj=>by
   obtain ⟨h0,oj,hoj,_⟩:=mem_ready.1 hj
   rcases Nat.lt_or_ge j t with h1 | h1
   · have h2:=hl j oj hoj h1
     have hne:i≠j:=fun e=>by subst e;have:=hr i hi;omega
     rw [getD_set_ne true hne] at h0
     rw [h0] at h2
     cases h2
   · exact h1) (fun j ok hok hlt=>by
     have hne:i≠j:=fun e=>by subst e;have:=hr i hi;omega
     rw [getD_set_ne true hne]
     exact hl j ok hok hlt) h'⟩) (h.2 i hi)⟩
def YA (P:Program) (ops:Array Oper) (S:World→Prop) (o:Oper) (v:Value) (a:Act):Prop:=∀ w,S w→YieldsAt P ops w o v a
theorem YA.of_same {o:Oper} {v:Value} {a a':Act} (hy:YA P ops S o v a) (he:execOp a'.eval o=execOp a.eval o) (hw:Region.wanted o (yielded ops a'.tmps)=Region.wanted o (yielded ops a.tmps)):YA P ops S o v a':=fun w hS=>(hy w hS).of_same he hw
theorem YA.wpOp {i:Nat} {o:Oper} {v:Value} {a:Act} (hi:ops[i]?=some o) (hy:YA P ops S o v a) {K:Act→World→Prop} {w:World} (hS:S w) (h:K (a.put o.dst v) w):wpOp P ops Q i K a w :=
 wpOp_of_stOp (K:=fun a'=>K a' w) (fun _ h=>h) ((hy w hS).stOp hi h)
theorem YA.comm {j:Nat} {oi oj:Oper} {v:Value} (hj:ops[j]?=some oj) (hap:oi.apart ops oj=true)
  (hsi:∀ cs b,oi.op≠.select cs b) (hsj:∀ cs b,oj.op≠.select cs b)
  (hQ:∀ c a w,Q (.panic c) (a.put oi.dst v) w→Q (.panic c) a w) {K:Act→World→Prop} {a:Act} {w:World}
  (hy:YA P ops S oi v a) (h:Go.wpOp P ops Q j K (a.put oi.dst v) w) :
  Go.wpOp P ops Q j (fun a' w'=>YA P ops S oi v a'∧K (a'.put oi.dst v) w') a w:=by
 obtain ⟨h1,h2,h3⟩:=Oper.apart_spec hap
 have keep:∀ (a:Act),YA P ops S oi v a→∀ u,YA P ops S oi v (a.put oj.dst u):=fun a hy u =>
  hy.of_same (execOp_put oi hsi a oj.dst u h3) (wanted_put oi a oj.dst u h3)
 have keepD:∀ d,YA P ops S oi v { a with defers:=d::a.defers }:=fun d=>hy.of_same rfl rfl
 unfold Go.wpOp at *
 simp only [hj] at *
 rw [wanted_put oj a oi.dst v h1] at h
 split
 · rename_i hw
   simp only [hw,if_true] at h
   rcases h with h | ⟨hasks,hlets⟩
   case inr=>exact .inr ⟨by unfold Oper.asks at *;rw [execOp_put oj hsj a oi.dst v h1] at hasks;exact hasks,hlets⟩
   refine .inl ?_
   unfold Oper.wp at *
   rw [execOp_put oj hsj a oi.dst v h1] at h
   generalize (execOp a.eval oj).run P w=r at *
   cases r with
   | ok n w' =>
     cases n <;> simp only [Oper.upon] at h ⊢
     case value u=>exact ⟨keep a hy u,by rw [← Act.put_comm a v u h2];exact h⟩
     case skip=>exact ⟨keep a hy _,by rw [← Act.put_comm a v undef h2];exact h⟩
     case defer d =>
      refine ⟨keep _ (keepD d) _,?_⟩
      rw [← Act.put_comm _ v undef h2,← Act.put_defers]
      exact h
     case enter f args =>
      refine Calls.mono h fun e w'' he=>?_
      cases e with
      | returned u=>exact ⟨keep a hy u,by rw [← Act.put_comm a v u h2];exact he⟩
      | panicked c=>exact hQ _ _ _ he
      | outgrown=>exact he
     case row row args=>exact Rows.mono h fun u w'' he=>⟨keep a hy u,by rw [← Act.put_comm a v u h2];exact he⟩
   | halt x w' =>
     cases x <;> simp only [Oper.upon] at h ⊢
     case panic u=>exact hQ _ _ _ h
 · rename_i hw
   simp only [hw] at h
   exact ⟨keep a hy _,by rw [← Act.put_comm a v undef h2];exact h⟩
theorem AnyT.first {i:Nat} {oi:Oper} {v:Value} (hi:ops[i]?=some oi) (hsel:∀ (j:Nat) (o:Oper) cs b,ops[j]?=some o→o.op≠.select cs b)
  (hQ:∀ c a w,Q (.panic c) (a.put oi.dst v) w→Q (.panic c) a w) (ht:∀ j,t≤j→j<ops.size→Region.waitsFor md ops j i=true) :
  ∀ (fuel:Nat) (listed:Array Bool) (a:Act) (w:World),
    (∀ j oj,ops[j]?=some oj→j≠i→listed.getD j true=false→(∀ e∈oj.after,Region.binds md e=true→e.on≠i)→oi.apart ops oj=true) →
    i∈Region.ready md ops listed→YA P ops S oi v a→S w →
    AnyT P md ops Q S t fuel (listed.setIfInBounds i true) (a.put oi.dst v) w→AnyT P md ops Q S t (fuel+1) listed a w:=by
 intro fuel
 induction fuel with
 | zero =>
   intro listed a w _ hr hy hS H
   refine ⟨fun h=>(by rw [h] at hr;cases hr),fun j hj=>?_⟩
   by_cases hji:j=i
   · subst hji;exact hy.wpOp hi hS ⟨fun _=>hS,H⟩
   · have:=ready_mono hj hji
     rw [H.1] at this
     cases this
 | succ fuel ih =>
   intro listed a w hfree hr hy hS H
   refine ⟨fun h=>(by rw [h] at hr;cases hr),fun j hj=>?_⟩
   by_cases hji:j=i
   · subst hji;exact hy.wpOp hi hS ⟨fun _=>hS,H⟩
   obtain ⟨hjun,oj,hoj,hall⟩:=mem_ready.1 hj
   have hnot:∀ e∈oj.after,Region.binds md e=true→e.on≠i:=fun e he hb heq=>by
    have h1:=hall e he hb
    have h0:=(mem_ready.1 hr).1
    rw [heq] at h1
    rcases Nat.lt_or_ge i listed.size with h' | h'
    · simp [h'] at h0 h1;rw [h0] at h1;cases h1
    · simp [Array.getElem?_eq_none h'] at h1
   have hjt:j<t:=by
    rcases Nat.lt_or_ge j t with h | h
    · exact h
    · obtain ⟨oj',hoj',e,he,hb,heq⟩:=Region.waitsFor_spec (ht j h (Array.getElem?_eq_some_iff.1 hoj).1)
      rw [hoj] at hoj'
      injection hoj' with hoj'
      subst hoj'
      exact absurd heq (hnot e he hb)
   have h2:=YA.comm hoj (hfree j oj hoj hji hjun hnot) (fun cs b=>hsel i oi cs b hi) (fun cs b=>hsel j oj cs b hoj) hQ hy (H.2 j (ready_mono hj hji))
   refine wpOp_mono (fun a' w' h3=>⟨fun _=>h3.2.1 hjt,ih (listed.setIfInBounds j true) a' w' (fun k ok hk hki hun hno=>?_) (ready_mono hr (Ne.symm hji)) h3.1 (h3.2.1 hjt) ?_⟩) h2
   · refine hfree k ok hk hki ?_ hno
     by_cases hjk:j=k
     · subst hjk;exact hjun
     · rw [getD_set_ne true hjk] at hun;exact hun
   · rw [Array.setIfInBounds_comm _ _ hji]
     exact h3.2.2
theorem still_out {w:World} {o:Oper} {a:Act} {K:Act→Prop} (h:o.still P a w K):∃ v,K (a.put o.dst v):=by
 unfold Oper.still at h
 generalize (execOp a.eval o).run P w=r at h
 cases r with
 | ok n w' =>
   cases n <;> simp only [Oper.stillUpon] at h
   case value u=>exact ⟨u,h.2⟩
   case skip=>exact ⟨_,h.2⟩
   case enter f args=>obtain ⟨_,v,_,h2⟩:=h;exact ⟨v,h2⟩
 | halt x w'=>simp only [Oper.stillUpon] at h
theorem still_keep {w:World} {a':Act} (d:Tmp):∀ (l:List Oper) (a:Act),(∀ o∈l,o.dst≠some d)→wpStill P ops w (fun x=>x=a') l a→a'.tmps[d]?=a.tmps[d]?∧a'.tmps.size=a.tmps.size
 | [],a,_,h=>by cases h;exact ⟨rfl,rfl⟩
 | o::r,a,hd,h=>by
   have key:∃ v,wpStill P ops w (fun x=>x=a') r (a.put o.dst v):=by
    unfold wpStill at h
    split at h
    · exact still_out h
    · exact ⟨_,h⟩
   obtain ⟨v,hv⟩:=key
   obtain ⟨h1,h2⟩:=still_keep d r _ (fun o' ho'=>hd o' (List.mem_cons_of_mem _ ho')) hv
   have hne:=hd o (List.mem_cons_self ..)
   rw [h1,h2]
   cases ho:o.dst with
   | none=>exact ⟨rfl,rfl⟩
   | some e =>
     rw [ho] at hne
     refine ⟨?_,by simp [Act.put]⟩
     simp only [Act.put]
     exact Array.getElem?_setIfInBounds_ne (fun e'=>hne (by rw [e']))
def dstB (size:Nat):List Oper→Bool
 | []=>true
 | o::r=>(match o.dst with | some d=>decide (d<size) && r.all (fun o'=>o'.dst != some d) | none=>false) && dstB size r
def readsB (md:Region.Mode) (ops:Array Oper) (t:Nat):Nat→Nat→Array Bool→Array Bool × Bool
 | 0,_,listed=>(listed,true)
 | f+1,k,listed=>let r:=readsB md ops t f (k+1) (listed.setIfInBounds k true)
   (r.1,(Region.ready md ops listed).contains k && Region.free md ops listed k && (List.range (ops.size-t)).all (fun j=>Region.waitsFor md ops (t+j) k) && r.2)
theorem AnyT.reads (hsel:Region.noSelect ops=true) (hQ:∀ d v c a w,Q (.panic c) (a.put d v) w→Q (.panic c) a w) {a':Act} {w:World} (hS:S w) :
  ∀ (l:List Oper) (k fuel:Nat) (listed:Array Bool) (a:Act),(∀ j,j<l.length→l[j]?=ops[k+j]?)→(readsB md ops t l.length k listed).2=true→dstB a.tmps.size l=true →
  (∀ W,S W→wpStill P ops W (fun x=>x=a') l a)→AnyT P md ops Q S t fuel (readsB md ops t l.length k listed).1 a' w→AnyT P md ops Q S t (l.length+fuel) listed a w
 | [],k,fuel,listed,a,_,_,_,hR,H=>by
   have:a=a':=hR w hS
   subst this
   simpa [readsB] using H
 | o::l,k,fuel,listed,a,hl,hB,hD,hR,H=>by
   have h0:ops[k]?=some o:=by simpa using (hl 0 (by simp)).symm
   simp only [List.length_cons,readsB,Bool.and_eq_true] at hB H
   obtain ⟨⟨⟨hr,hf⟩,hw⟩,hB'⟩:=hB
   simp only [dstB,Bool.and_eq_true] at hD
   obtain ⟨hd1,hd2⟩:=hD
   cases hod:o.dst with
   | none=>rw [hod] at hd1;cases hd1
   | some d =>
     rw [hod] at hd1
     simp only [Bool.and_eq_true,decide_eq_true_eq,List.all_eq_true,bne_iff_ne,ne_eq] at hd1
     have get:∀ W,S W→∃ v,YieldsAt P ops W o v a∧wpStill P ops W (fun x=>x=a') l (a.put o.dst v)∧a'.tmps[d]?=some v:=fun W hW=>by
      have hst:stOp P ops W k (wpStill P ops W (fun x=>x=a') l) a:=by unfold stOp;simp only [h0];exact hR W hW
      obtain ⟨v,hy,hK⟩:=yieldsAt_of_stOp h0 hst
      refine ⟨v,hy,hK,?_⟩
      rw [(still_keep d l _ (fun o' ho'=>hd1.2 o' ho') hK).1,hod]
      simp [Act.put,hd1.1]
     obtain ⟨v,hy,hK,hv⟩:=get w hS
     have hYA:YA P ops S o v a:=fun W hW=>by
      obtain ⟨u,hyu,_,hu⟩:=get W hW
      rw [hv] at hu
      injection hu with hu
      subst hu
      exact hyu
     have hsz:(a.put o.dst v).tmps.size=a.tmps.size:=by rw [hod];simp [Act.put]
     rw [show (o::l).length+fuel=(l.length+fuel)+1 by simp;omega]
     refine AnyT.first h0 (Region.noSelect_spec hsel) (hQ _ _) (fun j hj hjs=>?_) _ _ _ _ (Region.free_spec h0 hf) (by simpa using hr) hYA hS ?_
     · have:=List.all_eq_true.1 hw (j-t) (List.mem_range.2 (by omega))
       rwa [show t+(j-t)=j by omega] at this
     · refine AnyT.reads hsel hQ hS l (k+1) fuel _ _ (fun j hj=>by have:=hl (j+1) (by simp;omega);simpa [Nat.add_assoc,Nat.add_comm 1 j] using this) hB' (by rw [hsz];exact hd2) (fun W hW=>?_) H
       obtain ⟨u,hyu,hKu,hu⟩:=get W hW
       rw [hv] at hu
       injection hu with hu
       subst hu
       exact hKu
def Spine (P:Program) (ops:Array Oper) (Q:Exit→Act→World→Prop) (S:World→Prop) (rest:List Oper):List Oper→Act→World→Prop
 | [],a,w=>wpList P ops Q rest a w
 | o::l,a,w=>wpList P ops (fun e a' w'=>match e with | .normal=>S w'∧Spine P ops Q S rest l a' w' | e=>Q e a' w') [o] a w
theorem Spine.nil_ {rest:List Oper} {a:Act} {w:World} (h:wpList P ops Q rest a w):Spine P ops Q S rest [] a w:=h
def Behind (P:Program) (ops:Array Oper) (Q:Exit→Act→World→Prop) (S:World→Prop) (rest l:List Oper) (e:Exit) (a:Act) (w:World):Prop :=
 match e with | .normal=>S w∧Spine P ops Q S rest l a w | e=>Q e a w
theorem Behind.go {rest l:List Oper} {a:Act} {w:World} (hS:S w) (h:Spine P ops Q S rest l a w):Behind P ops Q S rest l .normal a w:=⟨hS,h⟩
theorem name_behind {rest l:List Oper} {e:Exit} {a:Act} {w:World} (h:∀ W,Hid (W=w)→Behind P ops Q S rest l e a W):Behind P ops Q S rest l e a w:=h w (K1 rfl)
theorem Spine.step {rest l:List Oper} {o:Oper} {a:Act} {w:World} (h:wpList P ops (Behind P ops Q S rest l) [o] a w):Spine P ops Q S rest (o::l) a w:=by
 have e:(Behind P ops Q S rest l)=(fun e a' w'=>match e with | .normal=>S w'∧Spine P ops Q S rest l a' w' | e=>Q e a' w'):=by
  funext e a' w'
  cases e <;> rfl
 rw [e] at h
 exact h
theorem upon_end {o:Oper} {a:Act} {K:Act→World→Prop} {Q Q':Exit→Act→World→Prop} (hp:∀ c a w,Q (.panic c) a w→Q' (.panic c) a w) (ho:LetsOut Q→LetsOut Q') {r:Result Next} (h:o.upon P a K Q r):o.upon P a K Q' r:=by
 cases r with
 | ok n w' =>
   cases n <;> simp only [Oper.upon] at h ⊢
   case enter f args =>
    refine Calls.mono h fun e w'' he=>?_
    cases e with
    | returned u=>exact he
    | panicked c=>exact hp _ _ _ he
    | outgrown=>exact ho he
   all_goals exact h
 | halt x w' =>
   cases x <;> simp only [Oper.upon] at h ⊢
   case panic u=>exact hp _ _ _ h
theorem wpOp_of_single {i:Nat} {o:Oper} {a:Act} {w:World} {rest l:List Oper} (hi:ops[i]?=some o) (h:wpList P ops (Behind P ops Q S rest l) [o] a w):Go.wpOp P ops Q i (fun a' w'=>S w'∧Spine P ops Q S rest l a' w') a w:=by
 unfold Go.wpOp
 simp only [hi]
 unfold wpList at h
 have hlo:LetsOut (Behind P ops Q S rest l)→LetsOut Q:=fun ⟨a,w,h⟩=>⟨a,w,h⟩
 split
 · rename_i hw
   rw [if_pos hw] at h
   rcases h with h | ⟨h1,h2⟩
   · exact .inl (upon_end (K:=fun a' w'=>S w'∧Spine P ops Q S rest l a' w') (fun _ _ _ h=>h) hlo h)
   · exact .inr ⟨h1,hlo h2⟩
 · rename_i hw
   rw [if_neg hw] at h
   exact h
def seqFrom (md:Region.Mode) (ops:Array Oper):Nat→Nat→Array Bool→Array Bool × Bool
 | 0,_,listed=>(listed,true)
 | g+1,k,listed=>let r:=seqFrom md ops g (k+1) (listed.setIfInBounds k true)
   (r.1,decide (Region.ready md ops listed=[k]) && r.2)
theorem AnyT.spine {rest:List Oper} {fuel:Nat}:∀ (l:List Oper) (k:Nat) (listed:Array Bool) (a:Act) (w:World),(∀ j,j<l.length→l[j]?=ops[k+j]?)→(seqFrom md ops l.length k listed).2=true →
  (∀ a w,wpList P ops Q rest a w→AnyT P md ops Q S t fuel (seqFrom md ops l.length k listed).1 a w)→Spine P ops Q S rest l a w→AnyT P md ops Q S t (l.length+fuel) listed a w
 | [],k,listed,a,w,_,_,H,h=>by simpa [seqFrom] using H a w h
 | o::l,k,listed,a,w,hl,hB,H,h=>by
   have h0:ops[k]?=some o:=by simpa using (hl 0 (by simp)).symm
   simp only [List.length_cons,seqFrom,Bool.and_eq_true,decide_eq_true_eq] at hB H
   rw [show (o::l).length+fuel=(l.length+fuel)+1 by simp;omega]
   refine ⟨fun h1=>(by rw [hB.1] at h1;cases h1),fun i hi=>?_⟩
   rw [hB.1] at hi
   obtain rfl:i=k:=by simpa using hi
   refine wpOp_mono (fun a' w' h'=>⟨fun _=>h'.1,AnyT.spine l (i+1) _ a' w' (fun j hj=>by have:=hl (j+1) (by simp;omega);simpa [Nat.add_assoc,Nat.add_comm 1 j] using this) hB.2 H h'.2⟩) (?_:Go.wpOp P ops Q i (fun a' w'=>S w'∧Spine P ops Q S rest l a' w') a w)
   refine wpOp_of_single h0 (?_:wpList P ops (Behind P ops Q S rest l) [o] a w)
   have e:(Behind P ops Q S rest l)=(fun e a' w'=>match e with | .normal=>S w'∧Spine P ops Q S rest l a' w' | e=>Q e a' w'):=by
    funext e a' w'
    cases e <;> rfl
   rw [e]
   exact h
def spineB (ops:Array Oper) (n m:Nat):Bool :=
 let r:=readsB .any ops (n+m) n 0 (Array.replicate ops.size false)
 let s:=seqFrom .any ops m n r.1
 Region.noSelect ops && decide (n+m≤ops.size) && r.2 && s.2 && Region.seqB .any ops (ops.size-(n+m)) (n+m) s.1 &&
  (List.range (n+m)).all (fun j=>s.1.getD j true)
theorem wp_region_spine {id:Nat} {a:Act} {w:World} {l:List Oper} (n m:Nat) (S:World→Prop) (hm:P.follows .mixedOrders=true) (hB:spineB l.toArray n m=true) (hD:dstB a.tmps.size (l.take n)=true)
  (hQ:∀ d v c a w,Q (.panic c) (a.put d v) w→Q (.panic c) a w) (hS:S w.drew)
  (hRT:∃ a',(∀ W,S W→wpStill P l.toArray W (fun x=>x=a') (l.take n) a)∧Spine P l.toArray Q S (l.drop (n+m)) ((l.drop n).take m) a' w.drew):(Code.region id l.toArray true).wp P Q a w:=by
 obtain ⟨a',hR,hT⟩:=hRT
 simp only [spineB,Bool.and_eq_true,decide_eq_true_eq] at hB
 obtain ⟨⟨⟨⟨⟨hsel,hsz⟩,h1⟩,h2⟩,h3⟩,h4⟩:=hB
 have hsz':n+m≤l.length:=by simpa using hsz
 have e1:(l.take n).length=n:=by simp;omega
 have e2:((l.drop n).take m).length=m:=by simp;omega
 have e3:(l.drop (n+m)).length=l.toArray.size-(n+m):=by simp
 refine wp_region_any hm ?_
 have H:AnyT P .any l.toArray Q S (n+m) ((l.take n).length+(((l.drop n).take m).length+(l.drop (n+m)).length)) (Array.replicate l.toArray.size false) a w.drew:=by
  refine AnyT.reads hsel hQ (a':=a') hS (l.take n) 0 _ _ a (fun j hj=>by
   have hj':j<n:=by rw [e1] at hj;exact hj
   simp [hj']) (by rw [e1];exact h1) hD hR ?_
  rw [e1]
  refine AnyT.spine ((l.drop n).take m) n _ a' _ (fun j hj=>by
   have hj':j<m:=by rw [e2] at hj;exact hj
   simp [hj']) (by rw [e2];exact h2) (fun a w h=>?_) hT
  rw [e2]
  refine AnyT.of_any _ _ _ _ (seqB_ready h3) (fun j ok hok hlt=>?_) ?_
  · have:=List.all_eq_true.1 h4 j (List.mem_range.2 hlt)
    exact this
  · exact wpAny_of_seq (l.drop (n+m)) (n+m) _ a w (fun j=>by simp [List.getElem?_drop]) (by rw [e3];exact h3) h
 have e4:(l.take n).length+(((l.drop n).take m).length+(l.drop (n+m)).length)=l.toArray.size:=by rw [e1,e2,e3];simp;omega
 rw [e4] at H
 exact AnyT.any _ _ _ _ H
end
end Go.Proofs.YtdpojpcoghcieaaGreat
namespace Go.Proofs.YtdpojpcoghcieaaGreat
open Go.RowKit
section
variable {P:Program} {ops:Array Oper} {Q:Exit→Act→World→Prop} {md:Region.Mode} {S:World→Prop} {t:Nat}
def readsI (md:Region.Mode) (ops:Array Oper):List Nat→Array Bool→Array Bool × Bool
 | [],listed=>(listed,true)
 | k::r,listed=>let x:=readsI md ops r (listed.setIfInBounds k true)
   (x.1,(Region.ready md ops listed).contains k && Region.free md ops listed k && x.2)
def seqI (md:Region.Mode) (ops:Array Oper):List Nat→Array Bool→Array Bool × Bool
 | [],listed=>(listed,true)
 | k::r,listed=>let x:=seqI md ops r (listed.setIfInBounds k true)
   (x.1,decide (Region.ready md ops listed=[k]) && x.2)
theorem AnyT.readsI_ (hsel:Region.noSelect ops=true) (hQ:∀ d v c a w,Q (.panic c) (a.put d v) w→Q (.panic c) a w) {a':Act} {w:World} (hS:S w) (ht:ops.size≤t) :
  ∀ (is:List Nat) (l:List Oper) (fuel:Nat) (listed:Array Bool) (a:Act),is.map (fun i=>ops[i]?)=l.map some→(readsI md ops is listed).2=true→dstB a.tmps.size l=true →
  (∀ W,S W→wpStill P ops W (fun x=>x=a') l a)→AnyT P md ops Q S t fuel (readsI md ops is listed).1 a' w→AnyT P md ops Q S t (l.length+fuel) listed a w
 | [],[],fuel,listed,a,_,_,_,hR,H=>by
   have:a=a':=hR w hS
   subst this
   simpa [readsI] using H
 | [],_::_,_,_,_,hl,_,_,_,_=>by simp at hl
 | _::_,[],_,_,_,hl,_,_,_,_=>by simp at hl
 | k::is,o::l,fuel,listed,a,hl,hB,hD,hR,H=>by
   simp only [List.map_cons,List.cons.injEq] at hl
   obtain ⟨h0,hl⟩:=hl
   simp only [readsI,Bool.and_eq_true] at hB H
   obtain ⟨⟨hr,hf⟩,hB'⟩:=hB
   simp only [dstB,Bool.and_eq_true] at hD
   obtain ⟨hd1,hd2⟩:=hD
   cases hod:o.dst with
   | none=>rw [hod] at hd1;cases hd1
   | some d =>
     rw [hod] at hd1
     simp only [Bool.and_eq_true,decide_eq_true_eq,List.all_eq_true,bne_iff_ne,ne_eq] at hd1
     have get:∀ W,S W→∃ v,YieldsAt P ops W o v a∧wpStill P ops W (fun x=>x=a') l (a.put o.dst v)∧a'.tmps[d]?=some v:=fun W hW=>by
      have hst:stOp P ops W k (wpStill P ops W (fun x=>x=a') l) a:=by unfold stOp;simp only [h0];exact hR W hW
      obtain ⟨v,hy,hK⟩:=yieldsAt_of_stOp h0 hst
      refine ⟨v,hy,hK,?_⟩
      rw [(still_keep d l _ (fun o' ho'=>hd1.2 o' ho') hK).1,hod]
      simp [Act.put,hd1.1]
     obtain ⟨v,hy,hK,hv⟩:=get w hS
     have hYA:YA P ops S o v a:=fun W hW=>by
      obtain ⟨u,hyu,_,hu⟩:=get W hW
      rw [hv] at hu
      injection hu with hu
      subst hu
      exact hyu
     have hsz:(a.put o.dst v).tmps.size=a.tmps.size:=by rw [hod];simp [Act.put]
     rw [show (o::l).length+fuel=(l.length+fuel)+1 by simp;omega]
     refine AnyT.first h0 (Region.noSelect_spec hsel) (hQ _ _) (fun j hj hjs=>by omega) _ _ _ _ (Region.free_spec h0 hf) (by simpa using hr) hYA hS ?_
     refine AnyT.readsI_ hsel hQ hS ht is l fuel _ _ hl hB' (by rw [hsz];exact hd2) (fun W hW=>?_) H
     obtain ⟨u,hyu,hKu,hu⟩:=get W hW
     rw [hv] at hu
     injection hu with hu
     subst hu
     exact hKu
theorem AnyT.spineI {rest:List Oper} {fuel:Nat}:∀ (ms:List Nat) (l:List Oper) (listed:Array Bool) (a:Act) (w:World),ms.map (fun i=>ops[i]?)=l.map some→(seqI md ops ms listed).2=true →
  (∀ a w,wpList P ops Q rest a w→AnyT P md ops Q S t fuel (seqI md ops ms listed).1 a w)→Spine P ops Q S rest l a w→AnyT P md ops Q S t (l.length+fuel) listed a w
 | [],[],listed,a,w,_,_,H,h=>by simpa [seqI] using H a w h
 | [],_::_,_,_,_,hl,_,_,_=>by simp at hl
 | _::_,[],_,_,_,hl,_,_,_=>by simp at hl
 | k::ms,o::l,listed,a,w,hl,hB,H,h=>by
   simp only [List.map_cons,List.cons.injEq] at hl
   obtain ⟨h0,hl⟩:=hl
   simp only [seqI,Bool.and_eq_true,decide_eq_true_eq] at hB H
   rw [show (o::l).length+fuel=(l.length+fuel)+1 by simp;omega]
   refine ⟨fun h1=>(by rw [hB.1] at h1;cases h1),fun i hi=>?_⟩
   rw [hB.1] at hi
   obtain rfl:i=k:=by simpa using hi
   refine wpOp_mono (fun a' w' h'=>⟨fun _=>h'.1,AnyT.spineI ms l _ a' w' hl hB.2 H h'.2⟩) (?_:Go.wpOp P ops Q i (fun a' w'=>S w'∧Spine P ops Q S rest l a' w') a w)
   refine wpOp_of_single h0 (?_:wpList P ops (Behind P ops Q S rest l) [o] a w)
   have e:(Behind P ops Q S rest l)=(fun e a' w'=>match e with | .normal=>S w'∧Spine P ops Q S rest l a' w' | e=>Q e a' w'):=by
    funext e a' w'
    cases e <;> rfl
   rw [e]
   exact h
def orderB (ops:Array Oper) (is ms:List Nat):Bool :=
 let r:=readsI .any ops is (Array.replicate ops.size false)
 let s:=seqI .any ops ms r.1
 Region.noSelect ops && r.2 && s.2 && (Region.ready .any ops s.1).isEmpty && decide (is.length+ms.length=ops.size)
theorem wp_region_order {id:Nat} {a:Act} {w:World} {l:List Oper} (is ms:List Nat) (li lm:List Oper) (S:World→Prop) (hm:P.follows .mixedOrders=true) (hB:orderB l.toArray is ms=true) (hD:dstB a.tmps.size li=true)
  (hi:is.map (fun i=>l[i]?)=li.map some) (hms:ms.map (fun i=>l[i]?)=lm.map some)
  (hQ:∀ d v c a w,Q (.panic c) (a.put d v) w→Q (.panic c) a w) (hS:S w.drew)
  (hRT:∃ a',(∀ W,S W→wpStill P l.toArray W (fun x=>x=a') li a)∧Spine P l.toArray Q S [] lm a' w.drew):(Code.region id l.toArray true).wp P Q a w:=by
 obtain ⟨a',hR,hT⟩:=hRT
 simp only [orderB,Bool.and_eq_true,decide_eq_true_eq] at hB
 obtain ⟨⟨⟨⟨hsel,h1⟩,h2⟩,h3⟩,h4⟩:=hB
 have e1:li.length=is.length:=by have:=congrArg List.length hi;simpa using this.symm
 have e2:lm.length=ms.length:=by have:=congrArg List.length hms;simpa using this.symm
 refine wp_region_any hm ?_
 have H:AnyT P .any l.toArray Q S l.toArray.size (li.length+(lm.length+0)) (Array.replicate l.toArray.size false) a w.drew:=by
  refine AnyT.readsI_ hsel hQ (a':=a') hS (Nat.le_refl _) is li _ _ a (by simpa using hi) h1 hD hR ?_
  exact AnyT.spineI (rest:=[]) ms lm _ a' _ (by simpa using hms) h2 (fun a w h=>⟨by simpa using h3,h⟩) hT
 rw [show li.length+(lm.length+0)=l.toArray.size by rw [e1,e2];simpa using h4] at H
 exact AnyT.any _ _ _ _ H
def pickO (l:List Oper) (is:List Nat):List Oper:=is.filterMap fun i=>l[i]?
theorem pickO_map {l:List Oper}:∀ {is:List Nat},is.all (fun i=>decide (i<l.length))=true→is.map (fun i=>l[i]?)=(pickO l is).map some
 | [],_=>rfl
 | i::r,h=>by
   simp only [List.all_cons,Bool.and_eq_true,decide_eq_true_eq] at h
   obtain ⟨o,ho⟩:=get_some l i h.1
   have ih:=pickO_map h.2
   unfold pickO at ih ⊢
   rw [List.map_cons,List.filterMap_cons,ho,ih]
   rfl
theorem wp_region_reads {id:Nat} {a:Act} {w:World} {l:List Oper} (is ms:List Nat) (S:World→Prop) (hm:P.follows .mixedOrders=true) (hB:orderB l.toArray is ms=true)
  (hI:(is++ms).all (fun i=>decide (i<l.length))=true) (hD:dstB a.tmps.size (pickO l is)=true)
  (hQ:∀ d v c a w,Q (.panic c) (a.put d v) w→Q (.panic c) a w) (hS:S w.drew)
  (hRT:∃ a',(∀ W,S W→wpStill P l.toArray W (fun x=>x=a') (pickO l is) a)∧Spine P l.toArray Q S [] (pickO l ms) a' w.drew):(Code.region id l.toArray true).wp P Q a w:=by
 rw [List.all_append,Bool.and_eq_true] at hI
 exact wp_region_order is ms _ _ S hm hB hD (pickO_map hI.1) (pickO_map hI.2) hQ hS hRT
end
end Go.Proofs.YtdpojpcoghcieaaGreat
namespace Go.Proofs.YtdpojpcoghcieaaGreat
open Lib renaming hid → K1
open Go.RowKit
def strB (bs:Nat) (Ad:Option Addr) (n cd at_:Nat):Ch:=.obj bs (.cells #[.slice Ad n cd,.int .i64 at_] 252 (0,0))
def uCells (ds:List Nat):List Value:=ds.map fun d:Nat=>.int .u64 (d:Int)
def iCells (l:List Nat):List Value:=l.map fun d:Nat=>.int .i64 (d:Int)
theorem iCells_one (l:List Nat):∀ u∈iCells l,u.oneCell'=true:=fun u hu=>by
 obtain ⟨z,_,rfl⟩:=List.mem_map.1 hu
 rfl
theorem iCells_rd (l:List Nat):iCells l=(l.map fun x:Nat=>(x:Int)).map (Value.int .i64):=by simp [iCells]
theorem drawNew_any (A:Option Addr) (n cap:Nat) (ds:List Nat) (w:World) (hr:Rd w w.heap.size A (uCells ds)) (hn:n=ds.length) (hl:n≤1000000000) :
  Calls Tryz.prog 104 #[.slice A n cap] w fun e w'=>∃ bs Ad cd,e=.returned (.pointer (some ⟨bs,0,none⟩))∧Mem w' [.bel w.heap.size w,.rd Ad (uCells ds),strB bs Ad n cd 0]∧w.heap.size≤bs∧(∀ q:Addr,Ad=some q→w.heap.size≤q.block):=by
 have C:=K1 (cloneU_any A n cap (uCells ds) w hr (by simp [uCells,hn]) (by intro u hu;obtain ⟨z,_,rfl⟩:=List.mem_map.1 hu;rfl) hl)
 clear hr hn
 go_enter Tryz.func104,Tryz.ntmps104
 go_wp2_with fail
 (with_reducible refine C.out.mono ?_)
 rintro e w1 ⟨A',c',rfl,hv,_,hb⟩
 have hs:=hb.size
 have HM:=K1 (((Mem.start w).push_rd hb (rd_of_own hv) (own_from_base hv)).alloc (.cells #[.slice A' n c',.int .i64 0] 252))
 have HS:=K1 (And.intro hs (own_from_base hv))
 clear hv hb hs
 go_wp2
 go_ret
 exact ⟨w1.heap.size,A',c',rfl,HM.out,HS.out.1,HS.out.2⟩
theorem drawLeft_any (w:World) (bs n cd at_:Nat) (Ad:Option Addr) (h:∀ i,w.cell? ⟨bs,i,none⟩=([.slice Ad n cd,.int .i64 at_]:List Value)[i]?) (h1:at_≤n) (h2:n≤1000000000) :
  Calls Tryz.prog 156 #[.pointer (some ⟨bs,0,none⟩)] w fun e w'=>e=.returned (.int .i64 (n-at_:Nat))∧∃ q,w'=w.drewN q:=by
 have HS:=K1 (show ((n:Int)-at_)=((n-at_:Nat):Int) by omega)
 have e1:IntKind.i64.wrap ((n:Int)-at_)=(n:Int)-at_:=IntWalk.i64_in _ (by omega)
 go_enter Tryz.func156,Tryz.ntmps156
 go_wp2_with fail
 go_quiet (fail)
 go_wp2
 go_ret
 exact ⟨ret_int HS.out,_,rfl⟩
set_option maxRecDepth 100000 in
theorem drawNext_any (w:World) (L:List Ch) (h:Mem w L) (bs cd at_ n d ib ir:Nat) (Ad:Option Addr) (ds:List Nat) (hb:L[ib]?=some (strB bs Ad ds.length cd at_)) (hr:L[ir]?=some (.rd Ad (uCells ds))) (hd:ds[at_]?=some d) (hn:1≤n∧n≤1048576) (hl:ds.length≤1000000000) :
  Calls Tryz.prog 158 #[.pointer (some ⟨bs,0,none⟩),.int .i64 n] w fun e w'=>e=.returned (.tuple #[.int .i64 (d % n:Nat),.bool true])∧Mem w' (L.set ib (strB bs Ad ds.length cd (at_+1))):=by
 have hlt:=(List.getElem?_eq_some_iff.1 hd).1
 have CL:=K1 (fun W hW=>drawLeft_any W bs ds.length cd at_ Ad hW (by omega) hl)
 have H0:=K1 h
 have HB:=K1 hb
 have HR:=K1 hr
 obtain ⟨b,off,rfl⟩:∃ b off,Ad=some ⟨b,off,none⟩:=by
  obtain ⟨b,off,e,_⟩:=h.rd ir hr (by simp [uCells];omega)
  exact ⟨b,off,e⟩
 have HD:=K1 (show (uCells ds)[at_]?=some (.int .u64 d) by simp [uCells,hd])
 obtain ⟨q,hq⟩:∃ q,q=d % n:=⟨_,rfl⟩
 rw [← hq]
 have hqn:q<n:=by rw [hq];exact Nat.mod_lt _ (by omega)
 have e1:(d:Int).tmod (n:Int)=(q:Int):=by rw [hq];exact (Int.ofNat_tmod _ _).symm
 have e2:(d:Int) % (n:Int)=(q:Int):=by rw [hq];exact (Int.natCast_emod _ _).symm
 generalize hdl:ds.length=dl at *
 have HDL:=K1 hdl
 have c0:=h.cells ib hb
 have hn0:¬ n=0:=by omega
 clear h hb hr hd hq hdl
 go_enter Tryz.func158,Tryz.ntmps158
 go_wp2_with fail
 (with_reducible refine (CL.out _ c0).mono ?_)
 rintro e w1 ⟨rfl,q0,rfl⟩
 clear c0 CL
 replace H0:=K1 (H0.out.drewN q0)
 generalize w.drewN q0=W1 at *
 obtain ⟨lf,hlf⟩:∃ lf,lf=dl-at_:=⟨_,rfl⟩
 rw [← hlf]
 have hlf2:((lf:Int) == 0)=false:=beq_eq_false_iff_ne.2 (by omega)
 clear hlf
 have c0:=H0.out.cells ib HB.out
 have c1:=H0.out.rdAt ir HR.out HD.out
 go_wp2_with fail
 go_quiet (fail)
 have f1:(W1.drewN nq).frozen? ⟨bs,1,none⟩=false:=(H0.out.drewN nq).frozen ib 1 HB.out
 go_wp2_with fail
 go_ret2
 refine ⟨rfl,?_⟩
 have hf:=((H0.out.drewN nq).set (j:=1) HB.out (.int .i64 ((at_:Int)+1)))
 have e3:strB bs (some ⟨b,off,none⟩) dl cd (at_+1)=.obj bs (.cells (#[.slice (some ⟨b,off,none⟩) dl cd,.int .i64 at_].setIfInBounds 1 (.int .i64 ((at_:Int)+1))) 252 (0,0)):=by
  simp [strB]
 rw [e3]
 exact hf
def drawsAt (ds bnds:List Nat) (at_ k:Nat):List Nat:=(List.range k).map fun i=>(ds[at_+i]?.getD 0) % (bnds[i]?.getD 1)
theorem drawsAt_succ (ds bnds:List Nat) (at_ k:Nat):drawsAt ds bnds at_ (k+1)=drawsAt ds bnds at_ k++[(ds[at_+k]?.getD 0) % (bnds[k]?.getD 1)]:=by simp [drawsAt,List.range_succ]
theorem drawsAt_len (ds bnds:List Nat) (at_ k:Nat):(drawsAt ds bnds at_ k).length=k:=by simp [drawsAt]
theorem manyTest_any (x:Int) (w:World):Calls Tryz.prog 157 #[.int .i64 x] w fun e w'=>e=.returned (.bool (decide (x<1)))∧w=w':=by
 go_enter Tryz.func157,Tryz.ntmps157
 go_wp2
 go_ret
 exact ⟨rfl,rfl⟩
theorem idxMany_none (A:Option Addr) (cap n:Nat) (zs:List Nat) (w:World) (hr:Rd w w.heap.size A (iCells zs)) (hn:n=zs.length) (hm:n≤1000000) (hz:∀ z∈zs,1≤z) :
  Calls Tryz.prog 136 #[.slice A n cap,.func (.func 157) #[] #[]] w fun e w'=>e=.returned (.int .i64 (-1))∧w=w':=by
 have Hall:=K1 hz
 have HN:=K1 hn
 have HR:=K1 hr
 clear hz hn hr
 go_enter Tryz.func136,Tryz.ntmps136
 go_wp2
 go_loop [5,8] (fun j i=>∃ k:Nat,k≤n∧i=.int .i64 k) (fun _ i=>n-(intOf i).toNat)
 case atStart=>exact ⟨0,Nat.zero_le _,rfl⟩
 case round =>
  obtain ⟨k,hk,rfl⟩:=hrel
  by_cases hlt:k<n
  · obtain ⟨b,off,rfl,_,hc⟩:=HR.out (by simp [iCells];have:=HN.out;omega)
    obtain ⟨z,hz⟩:=get_some zs k (by have:=HN.out;omega)
    have c1:w.cell? ⟨b,off+k,none⟩=some (.int .i64 z):=hc _ _ (by simp [iCells,hz])
    have ok1:=Hall.out z (List.mem_of_getElem? hz)
    have ok2:decide ((z:Int)<1)=false:=by simp;omega
    have HZ:=K1 hz
    clear hz hc
    go_wp2_with (go_at_call 157;refine (manyTest_any _ _).mono ?_;rintro e w' ⟨rfl,rfl⟩)
    go_round
    case rel=>exact ⟨k+1,by omega,by go_num⟩
    case measure=>simp [intOf];omega
  · go_wp2
    go_ret
    exact ⟨rfl,rfl⟩
theorem hasMany_no (A:Option Addr) (cap n:Nat) (zs:List Nat) (w:World) (hr:Rd w w.heap.size A (iCells zs)) (hn:n=zs.length) (hm:n≤1000000) (hz:∀ z∈zs,1≤z) :
  Calls Tryz.prog 97 #[.slice A n cap,.func (.func 157) #[] #[]] w fun e w'=>e=.returned (.bool false)∧w=w':=by
 have C:=K1 (idxMany_none A cap n zs w hr hn hm hz)
 clear hr hn hz
 go_enter Tryz.func97,Tryz.ntmps97
 go_wp2_with (go_at_call 136;refine C.out.mono ?_;rintro e w' ⟨rfl,rfl⟩)
 go_ret
 exact ⟨rfl,rfl⟩
end Go.Proofs.YtdpojpcoghcieaaGreat
