/- BatchBacks: the law's row, proved: for every input it returns true, and each argument reads as it did. -/
import Derived.Conc.Holds
import Derived.Test.YtelgmbomkojmaaaDoorQBObh
import Derived.Test.YtelgmbomkojmaaaDoorQLaa
namespace Go.Proofs.YtelgmbomkojmaaaDoor
set_option linter.unusedSimpArgs false
set_option linter.unusedVariables false
set_option linter.unusedSectionVars false
set_option maxRecDepth 100000
open Exts (ext stop anyOk gapOk)
section
open Go.RowKit Go.Conc
theorem zkx {H:Type}(ds:List (DataW H))(h:ds.length=Tryd.f3.params.toList.length): Rows.batchBacksSpec.fn H (ds++[])={ results:=[.lit (.bool true)],args:=ds }:=by
 rw [Tryd.params3] at h
 match ds,h with
 | [d0,d1,d2],_=>rfl
set_option maxRecDepth 100000 in
theorem zil (os:Os)(started:os.Started)(H:Type)(enc:TypeId×Value→H):
  ReturnsInLeavingWide {} Tryd.checked os 3 .any (fun w args=>(Rows.batchBacksSpec.pre enc Tryd.prog Tryd.f3 [] false w args∧laidMetH Tryd.prog zn2 w)∧sizedMet enc Tryd.prog Tryd.f3 (OpenSpec.ofChange Rows.batchBacksSpec) false w args) (Rows.batchBacksSpec.post enc Tryd.prog Tryd.f3 false true false false) :=
 zsz started (by kernel_rfl) Tryd.func3 Lead.func3 rfl (by kernel_rfl) (by kernel_rfl)
  (ChangeSpec.witness_shaped (enc:=enc) (C:=Tryd.checked) (os:=os) (X:=fun w _=>laidMetH Tryd.prog zn2 w) false (World.doorLaid Tryd.prog 400 os) #[.agg #[.slice none 0 0,.slice none 0 0,.slice none 0 0],.int .i64 0,.slice none 0 0] 8 rfl (World.shaped_of_RefB (by kernel_rfl) (by kernel_rfl)) (by kernel_rfl) (by kernel_rfl) (by kernel_rfl) (met0 os _))
  rfl (by kernel_rfl) (by kernel_rfl) zkx (fun W base args ds p hval hA hlt hz ht=>zm3 W base args ds p hval hA hlt hz ht)
theorem zi6:Rows.BatchBacksSaid :=
 OpenClaim.holds_of_wide_leaving 3 Tryd.f3 rfl rfl rfl rfl rfl rfl rfl ⟨rfl,rfl,rfl,rfl,rfl⟩ rfl rfl rfl rfl rfl (by kernel_rfl) Tryd.func3 (by kernel_rfl)
  (of_decide_eq_true (by kernel_rfl)) (by unfold Func.isWrapper;first|(rw [if_pos (by decide +kernel)];kernel_rfl)|(rw [if_neg (by decide +kernel)];exact ⟨rfl,rfl⟩))
  (fun os started H enc _=>zil os started H enc)
theorem batchBacks_card:Rows.BatchBacksCardSaid :=
 zug .later [.data] true (true,"fd2a73f1ee9aeb70e659e922ecc724942c5168cf4f8065518491f35013a5df84") false
  zi6 (by kernel_rfl) batchBacks_row_tie rfl ⟨rfl,rfl⟩ (by kernel_rfl) rfl
  (fun f fn hf hfn=>by
   obtain rfl:f=3:=Option.some.inj ((show Tryd.prog.funcNamed "shallot/shallotlaw12.BatchBacks" = some 3 by kernel_rfl).symm.trans hf) |>.symm
   obtain rfl:fn=Tryd.f3:=(Option.some.inj (Tryd.func3.symm.trans hfn)).symm
   exact ⟨by kernel_rfl,fun j t ht=>by
    rw [Tryd.params3] at ht
    have hm:t∈[25,3,22]:=by simpa using Array.mem_of_getElem? ht
    have hall:([25,3,22].all fun u=>!Tryd.prog.wantsStandIn u)=true:=by kernel_rfl
    exact (show Tryd.prog.wantsStandIn t=false by simpa using List.all_eq_true.1 hall t hm)⟩)
  (by kernel_rfl)
#print axioms batchBacks_card
end
end Go.Proofs.YtelgmbomkojmaaaDoor
