/- BatchReply: the law's row, proved: for every input it returns true, and each argument reads as it did. -/
import Derived.Conc.Holds
import Derived.Test.YtelgmbomkojmaaaDoorQBObh
import Derived.Test.YtelgmbomkojmaaaDoorQLaa
import Derived.Test.YtelgmbomkojmaaaDoorQCxbr
namespace Go.Proofs.YtelgmbomkojmaaaDoor
set_option linter.unusedSimpArgs false
set_option linter.unusedVariables false
set_option linter.unusedSectionVars false
set_option maxRecDepth 100000
open Exts (ext stop anyOk gapOk)
section
open Go.RowKit Go.Conc
theorem zlj {H:Type}(ds:List (DataW H))(h:ds.length=Tryd.f5.params.toList.length): Rows.batchReplySpec.fn H (ds++[])={ results:=[.lit (.bool true)],args:=ds }:=by
 rw [Tryd.params5] at h
 match ds,h with
 | [d0,d1,d2,d3,d4],_=>rfl
set_option maxRecDepth 100000 in
theorem zi7 (os:Os)(started:os.Started)(H:Type)(enc:TypeId×Value→H):
  ReturnsInLeavingWide {} Tryd.checked os 5 .any (fun w args=>(Rows.batchReplySpec.pre enc Tryd.prog Tryd.f5 [] false w args∧laidMetH Tryd.prog zjr w)∧sizedMet enc Tryd.prog Tryd.f5 (OpenSpec.ofChange Rows.batchReplySpec) false w args) (Rows.batchReplySpec.post enc Tryd.prog Tryd.f5 false true false false) :=
 zi4 started (by kernel_rfl) Tryd.func5 Lead.func5 rfl (by kernel_rfl) (by kernel_rfl)
  (ChangeSpec.witness_shaped (enc:=enc) (C:=Tryd.checked) (os:=os) (X:=fun w _=>laidMetH Tryd.prog zjr w) false (World.doorLaid Tryd.prog 400 os) #[.slice none 0 0,.int .i64 0,.int .i64 0,.slice none 0 0,.slice none 0 0] 8 rfl (World.shaped_of_RefB (by kernel_rfl) (by kernel_rfl)) (by kernel_rfl) (by kernel_rfl) (by kernel_rfl) (met0 os _))
  rfl (by kernel_rfl) (by kernel_rfl) zlj (fun W base args ds p hval hA hlt hz ht=>zn6 W base args ds p hval hA hlt hz ht)
theorem zjt:Rows.BatchReplySaid :=
 OpenClaim.holds_of_wide_leaving 5 Tryd.f5 rfl rfl rfl rfl rfl rfl rfl ⟨rfl,rfl,rfl,rfl,rfl⟩ rfl rfl rfl rfl rfl (by kernel_rfl) Tryd.func5 (by kernel_rfl)
  (of_decide_eq_true (by kernel_rfl)) (by unfold Func.isWrapper;first|(rw [if_pos (by decide +kernel)];kernel_rfl)|(rw [if_neg (by decide +kernel)];exact ⟨rfl,rfl⟩))
  (fun os started H enc _=>zi7 os started H enc)
theorem batchReply_card:Rows.BatchReplyCardSaid :=
 zkc .later [.data] true (true,"fd2a73f1ee9aeb70e659e922ecc724942c5168cf4f8065518491f35013a5df84") false
  zjt (by kernel_rfl) batchReply_row_tie rfl ⟨rfl,rfl⟩ (by kernel_rfl) rfl
  (fun f fn hf hfn=>by
   obtain rfl:f=5:=Option.some.inj ((show Tryd.prog.funcNamed "shallot/shallotlaw12.BatchReply" = some 5 by kernel_rfl).symm.trans hf) |>.symm
   obtain rfl:fn=Tryd.f5:=(Option.some.inj (Tryd.func5.symm.trans hfn)).symm
   exact ⟨by kernel_rfl,fun j t ht=>by
    rw [Tryd.params5] at ht
    have hm:t∈[33,3,3,22,23]:=by simpa using Array.mem_of_getElem? ht
    have hall:([33,3,3,22,23].all fun u=>!Tryd.prog.wantsStandIn u)=true:=by kernel_rfl
    exact (show Tryd.prog.wantsStandIn t=false by simpa using List.all_eq_true.1 hall t hm)⟩)
  (by kernel_rfl)
#print axioms batchReply_card
end
end Go.Proofs.YtelgmbomkojmaaaDoor
