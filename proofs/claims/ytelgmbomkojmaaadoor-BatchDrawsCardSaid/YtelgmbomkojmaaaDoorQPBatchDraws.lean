/- BatchDraws: the law's row, proved: for every input it returns true, and each argument reads as it did. -/
import Derived.Conc.Holds
import Derived.Test.YtelgmbomkojmaaaDoorQBObh
import Derived.Test.YtelgmbomkojmaaaDoorQLaa
import Derived.Test.YtelgmbomkojmaaaDoorQCtbm
namespace Go.Proofs.YtelgmbomkojmaaaDoor
set_option linter.unusedSimpArgs false
set_option linter.unusedVariables false
set_option linter.unusedSectionVars false
set_option maxRecDepth 100000
open Exts (ext stop anyOk gapOk)
section
open Go.RowKit Go.Conc
theorem zlm {H:Type}(ds:List (DataW H))(h:ds.length=Tryd.f7.params.toList.length): Rows.batchDrawsSpec.fn H (ds++[])={ results:=[.lit (.bool true)],args:=ds }:=by
 rw [Tryd.params7] at h
 match ds,h with
 | [d0,d1,d2,d3,d4,d5],_=>rfl
set_option maxRecDepth 100000 in
theorem zi8 (os:Os)(started:os.Started)(H:Type)(enc:TypeId×Value→H):
  ReturnsInLeavingWide {} Tryd.checked os 7 .any (fun w args=>(Rows.batchDrawsSpec.pre enc Tryd.prog Tryd.f7 [] false w args∧laidMetH Tryd.prog zjr w)∧sizedMet enc Tryd.prog Tryd.f7 (OpenSpec.ofChange Rows.batchDrawsSpec) false w args) (Rows.batchDrawsSpec.post enc Tryd.prog Tryd.f7 false true false false) :=
 zi4 started (by kernel_rfl) Tryd.func7 Lead.func7 rfl (by kernel_rfl) (by kernel_rfl)
  (ChangeSpec.witness_shaped (enc:=enc) (C:=Tryd.checked) (os:=os) (X:=fun w _=>laidMetH Tryd.prog zjr w) false (World.doorLaid Tryd.prog 400 os) #[.slice none 0 0,.int .i64 0,.int .i64 0,.slice none 0 0,.slice none 0 0,.slice none 0 0] 8 rfl (World.shaped_of_RefB (by kernel_rfl) (by kernel_rfl)) (by kernel_rfl) (by kernel_rfl) (by kernel_rfl) (met0 os _))
  rfl (by kernel_rfl) (by kernel_rfl) zlm (fun W base args ds p hval hA hlt hz ht=>zn7 W base args ds p hval hA hlt hz ht)
theorem zjv:Rows.BatchDrawsSaid :=
 OpenClaim.holds_of_wide_leaving 7 Tryd.f7 rfl rfl rfl rfl rfl rfl rfl ⟨rfl,rfl,rfl,rfl,rfl⟩ rfl rfl rfl rfl rfl (by kernel_rfl) Tryd.func7 (by kernel_rfl)
  (of_decide_eq_true (by kernel_rfl)) (by unfold Func.isWrapper;first|(rw [if_pos (by decide +kernel)];kernel_rfl)|(rw [if_neg (by decide +kernel)];exact ⟨rfl,rfl⟩))
  (fun os started H enc _=>zi8 os started H enc)
theorem batchDraws_card:Rows.BatchDrawsCardSaid :=
 zkc .later [.data] true (true,"fd2a73f1ee9aeb70e659e922ecc724942c5168cf4f8065518491f35013a5df84") false
  zjv (by kernel_rfl) batchDraws_row_tie rfl ⟨rfl,rfl⟩ (by kernel_rfl) rfl
  (fun f fn hf hfn=>by
   obtain rfl:f=7:=Option.some.inj ((show Tryd.prog.funcNamed "shallot/shallotlaw12.BatchDraws" = some 7 by kernel_rfl).symm.trans hf) |>.symm
   obtain rfl:fn=Tryd.f7:=(Option.some.inj (Tryd.func7.symm.trans hfn)).symm
   exact ⟨by kernel_rfl,fun j t ht=>by
    rw [Tryd.params7] at ht
    have hm:t∈[33,3,3,22,23,23]:=by simpa using Array.mem_of_getElem? ht
    have hall:([33,3,3,22,23,23].all fun u=>!Tryd.prog.wantsStandIn u)=true:=by kernel_rfl
    exact (show Tryd.prog.wantsStandIn t=false by simpa using List.all_eq_true.1 hall t hm)⟩)
  (by kernel_rfl)
#print axioms batchDraws_card
end
end Go.Proofs.YtelgmbomkojmaaaDoor
