/- Proved: for every input TopAny returns true, and the input reads as it did. Conditions: the listed package variables read as listed; the card ties them to the text of the program. -/
import Derived.Test.YtjambljmnifknaaGreatDoorJ29
set_option maxRecDepth 100000
set_option maxHeartbeats 80000000
set_option linter.all false
open Go.Proofs.Tryz
namespace Go.Proofs.YtjambljmnifknaaGreatDoor.topAny
open Go.ChangeShapes Go.WideShapes Go.ChangeAt Go.RowKit Go.Joins
theorem named3:prog.funcNamed "sheetpile/sheetpiletop.TopAny"=some 3:=by kernel_rfl
theorem band{a b:Bool}(h:a=true)(k:b=true):(a&&b)=true:=by rw[h,k];rfl
theorem facts:joinedFacts prog 3 Tryz.f3 Rows.topAnySpec Rows.topAnyRow=true:=by
 unfold joinedFacts
 iterate 31 (refine band ?_ (by as_aux_lemma=>kernel_rfl))
 as_aux_lemma=>kernel_rfl
theorem inst3:Tryz.f3.isInstance prog Rows.topAnyRow.origin Rows.topAnyRow.targs:=Zl (by kernel_rfl)
theorem wrap3:Tryz.f3.isWrapper prog Rows.topAnyRow.wrapper Rows.topAnyRow.mainSum:=by unfold Func.isWrapper;first|(rw[if_pos (by decide+kernel)];kernel_rfl)|(rw[if_neg (by decide+kernel)];exact⟨rfl,rfl⟩)
theorem row_holds:Rows.TopAnySaid:=
 OpenClaim.holds_of_wide 3 Tryz.f3 rfl rfl rfl rfl rfl rfl rfl ⟨rfl,rfl,rfl,rfl,rfl⟩ rfl rfl rfl rfl rfl named3 func3 facts inst3 wrap3 (λos started H enc _=>lifted os started H enc)
theorem card:Rows.TopAnyCardSaid:=
 Claim7.holds_tied_plain_at .later [] [.data,.data,.data,.data,.sentinel,.sentinel,.pinned] true (true,"6cb8dc525fff674d25ce75cab9dd062ea9f9e3d1055fa9a92591f49188222b04") true
  row_holds (λ_ h=>by cases h) (by kernel_rfl) (λ_ h=>by cases h) topAny_row_tie rfl ⟨rfl,rfl⟩ (by kernel_rfl) rfl
  (λf fn hf hfn=>by
   obtain rfl:f=3:=QS (named3.symm.trans hf)|>.symm
   obtain rfl:fn=Tryz.f3:=(QS (func3.symm.trans hfn)).symm
   exact⟨by kernel_rfl,λj t ht=>by
    rw[params3] at ht
    have hm:t∈[23,24,24]:=by simpa using Array.mem_of_getElem? ht
    have hall:([23,24,24].all λu=>!prog.wantsStandIn u)=true:=by kernel_rfl
    exact(show prog.wantsStandIn t=false by simpa using Q7.1 hall t hm)⟩)
  (by kernel_rfl)
end Go.Proofs.YtjambljmnifknaaGreatDoor.topAny
namespace Go.Proofs.YtjambljmnifknaaGreatDoor
theorem topAny_card:Rows.TopAnyCardSaid:=topAny.card
end Go.Proofs.YtjambljmnifknaaGreatDoor
