/- BatchOnce: the law's row, proved: for every input it returns true, and each argument reads as it did. -/
import Derived.Conc.Holds
import Derived.Test.YtelgmbomkojmaaaDoorQBObh
import Derived.Test.YtelgmbomkojmaaaDoorQLaa
import Derived.Test.YtelgmbomkojmaaaDoorQCvbp
namespace Go.Proofs.YtelgmbomkojmaaaDoor
set_option linter.unusedSimpArgs false
set_option linter.unusedVariables false
set_option linter.unusedSectionVars false
set_option maxRecDepth 100000
open Exts (ext stop anyOk gapOk)
section
open Go.RowKit Go.Conc
theorem zl3 {H:Type}(ds:List (DataW H))(h:ds.length=Tryd.f4.params.toList.length): Rows.batchOnceSpec.fn H (ds++[])={ results:=[.lit (.bool true)],args:=ds }:=by
 rw [Tryd.params4] at h
 match ds,h with
 | [d0,d1,d2,d3,d4],_=>rfl
set_option maxRecDepth 100000 in
theorem zju (os:Os)(started:os.Started)(H:Type)(enc:TypeId×Value→H):
  ReturnsInLeavingWide {} Tryd.checked os 4 .any (fun w args=>(Rows.batchOnceSpec.pre enc Tryd.prog Tryd.f4 [] false w args∧laidMetH Tryd.prog zjr w)∧sizedMet enc Tryd.prog Tryd.f4 (OpenSpec.ofChange Rows.batchOnceSpec) false w args) (Rows.batchOnceSpec.post enc Tryd.prog Tryd.f4 false true false false) :=
 zi4 started (by kernel_rfl) Tryd.func4 Lead.func4 rfl (by kernel_rfl) (by kernel_rfl)
  (ChangeSpec.witness_shaped (enc:=enc) (C:=Tryd.checked) (os:=os) (X:=fun w _=>laidMetH Tryd.prog zjr w) false (World.doorLaid Tryd.prog 400 os) #[.slice none 0 0,.int .i64 0,.int .i64 0,.slice none 0 0,.slice none 0 0] 8 rfl (World.shaped_of_RefB (by kernel_rfl) (by kernel_rfl)) (by kernel_rfl) (by kernel_rfl) (by kernel_rfl) (met0 os _))
  rfl (by kernel_rfl) (by kernel_rfl) zl3 (fun W base args ds p hval hA hlt hz ht=>zps W base args ds p hval hA hlt hz ht)
theorem zlk:Rows.BatchOnceSaid :=
 OpenClaim.holds_of_wide_leaving 4 Tryd.f4 rfl rfl rfl rfl rfl rfl rfl ⟨rfl,rfl,rfl,rfl,rfl⟩ rfl rfl rfl rfl rfl (by kernel_rfl) Tryd.func4 (by kernel_rfl)
  (of_decide_eq_true (by kernel_rfl)) (by unfold Func.isWrapper;first|(rw [if_pos (by decide +kernel)];kernel_rfl)|(rw [if_neg (by decide +kernel)];exact ⟨rfl,rfl⟩))
  (fun os started H enc _=>zju os started H enc)
theorem batchOnce_card:Rows.BatchOnceCardSaid :=
 zkc .later [.data] true (true,"fd2a73f1ee9aeb70e659e922ecc724942c5168cf4f8065518491f35013a5df84") false
  zlk (by kernel_rfl) batchOnce_row_tie rfl ⟨rfl,rfl⟩ (by kernel_rfl) rfl
  (fun f fn hf hfn=>by
   obtain rfl:f=4:=Option.some.inj ((show Tryd.prog.funcNamed "shallot/shallotlaw12.BatchOnce" = some 4 by kernel_rfl).symm.trans hf) |>.symm
   obtain rfl:fn=Tryd.f4:=(Option.some.inj (Tryd.func4.symm.trans hfn)).symm
   exact ⟨by kernel_rfl,fun j t ht=>by
    rw [Tryd.params4] at ht
    have hm:t∈[33,3,3,22,23]:=by simpa using Array.mem_of_getElem? ht
    have hall:([33,3,3,22,23].all fun u=>!Tryd.prog.wantsStandIn u)=true:=by kernel_rfl
    exact (show Tryd.prog.wantsStandIn t=false by simpa using List.all_eq_true.1 hall t hm)⟩)
  (by kernel_rfl)
#print axioms batchOnce_card
end
end Go.Proofs.YtelgmbomkojmaaaDoor
