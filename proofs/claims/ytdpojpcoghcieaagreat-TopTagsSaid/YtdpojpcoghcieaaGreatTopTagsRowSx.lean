/- A part of the proof of TopTags: TopTagsRow. Conditions: none. -/
import Derived.Test.YtdpojpcoghcieaaGreatSxBU
import Derived.Test.YtdpojpcoghcieaaGreatSxAU
import Derived.Test.YtdpojpcoghcieaaGreatRows
set_option maxHeartbeats 8000000
set_option linter.all false
namespace Go.Proofs.YtdpojpcoghcieaaGreat
open Go.ChangeShapes Go.WideShapes Go.ChangeAt Go.RowKit Go.Deep
open Value renaming int → U
open IntKind renaming i64 → O
section
theorem UJ {H:Type} {enc:TypeId × Value->H} {P:Program} {w:World} {base b0:Nat} {spare:Nat->Bool} {held:Bool} {r:Reach} {t e:TypeId} {k:IntKind} {v:Value} {d:DataW H} {p:List MemPlace} (ht:P.underlying t=some (.slice e)) (he:P.underlying e=some (.int k)) (hc:P.cellsOf e=1)
  (hv:Value.okWide P w r b0 t v) (h:DataW.Trod enc P w base spare held t v d p) :
  ∃ (A:Option Addr) (zs:List Int) (cap:Nat),v=.slice A zs.length cap/\zs.length<=cap/\zs.length<=9223372036854775807/\Rd w w.heap.size A (zs.map (Value.int k))/\∀ z∈zs,(Lit.int k z).wf=true:=by
 obtain ⟨a,n,c,rfl⟩:=okWide_slice ht hv;obtain ⟨fuel,hf⟩:=h;exact Fa ht he hc hf
set_option maxRecDepth 100000 in
theorem UK (os:Os) (started:os.Started) (H:Type) (enc:TypeId × Value->H) :
  ReturnsInHanded {} Tryz.checked os 5 .any (Rows.topTagsSpec.pre6 enc Tryz.prog Tryz.f5 Rows.topTagsRow.domain false) (Rows.topTagsSpec.post enc Tryz.prog Tryz.f5 false true false false):=by
 refine returnsInHanded_of_change (C:=Tryz.checked) Tryz.own started (by kernel_rfl) Tryz.func5
  (ChangeSpec.witness6 (enc:=enc) (C:=Tryz.checked) false ⟨#[],#[.agg #[.slice none 0 0,U O 0,U O 0,U O 0,U O 0,U O 0,U O 0,U O 0,U O 0,U O 0,U O 0,U O 0,.slice none 0 0,.slice none 0 0,.slice none 0 0],.slice none 0 0],[]⟩ 8 (by kernel_rfl) (by kernel_rfl) (by kernel_rfl) (by kernel_rfl)) ?_
 intro W base args ds gs before hval0 hW _ _;have hval:∀ (j:Nat) t v,Tryz.f5.params[j]?=some t->args[j]?=some v->Value.okWide Tryz.prog W .any base t v:=hval0;have hW':=hW;obtain ⟨p,q,hA0,hV,rfl,_,_⟩:=hW;have hA:DataW.TrodAll enc Tryz.prog W 0 (fun _=>true) true Tryz.f5.params.toList args.toList ds p:=hA0;rw [Tryz.params5] at hA hval;obtain ⟨v0,v1,d0,d1,p0,p1,rfl,rfl,rfl,h0,h1⟩:=trodAll_two hA;obtain ⟨rfl,rfl⟩:=trodVars_none hV;obtain ⟨g,rfl,hg⟩:=Rb (hval 0 29 v0 rfl rfl) h0;obtain ⟨A1,zs1,cap1,rfl,_,hlm1,hr1,_⟩:=UJ Tryz.underlying22 Tryz.underlying3 Tryz.cellsInt (hval 1 22 v1 rfl rfl) h1
 refine (UI hg A1 cap1 zs1 hr1 hlm1).mono fun e W' ⟨he,hb⟩=>?_;subst he;exact ⟨_,rfl,Oq Tryz.laidOut (by kernel_rfl) rfl Tryz.underlying4 rfl rfl hW' hb⟩
theorem topTags_holds:Rows.TopTagsSaid :=
 OpenClaim.holds_of_wide 5 Tryz.f5 rfl rfl rfl rfl rfl rfl rfl ⟨rfl,rfl,rfl,rfl,rfl⟩ rfl rfl rfl rfl rfl (by kernel_rfl) Tryz.func5 (by kernel_rfl)
  (of_decide_eq_true (by kernel_rfl)) (by unfold Func.isWrapper;rw [if_neg (of_decide_eq_false (by kernel_rfl))];exact ⟨rfl,rfl⟩)
  (fun os started H enc _=>UK os started H enc)
end
end Go.Proofs.YtdpojpcoghcieaaGreat
