/- BatchChain: the law's row, proved: for every input it returns true, and each argument reads as it did. -/
import Derived.Conc.Holds
import Derived.Test.YtelgmbomkojmaaaDoorQBObh
import Derived.Test.YtelgmbomkojmaaaDoorQLaa
import Derived.Test.YtelgmbomkojmaaaDoorQDabj
namespace Go.Proofs.YtelgmbomkojmaaaDoor
set_option linter.all false
set_option maxRecDepth 100000
open Exts (ext stop anyOk gapOk)
section
open Go.RowKit Go.Conc
theorem zk5 {H:Type}(ds:List (DataW H))(h:ds.length=Tryd.f6.params.toList.length): Rows.batchChainSpec.fn H (ds++[])={ results:=[.lit (.bool true)],args:=ds }:=by
 rw [Tryd.params6] at h
 match ds,h with
 | [d0,d1,d2],_=>rfl
set_option maxRecDepth 100000 in
theorem ziw (os:Os)(started:os.Started)(H:Type)(enc:TypeId×Value→H):
  ReturnsInLeavingWide {} Tryd.checked os 6 .any (fun w args=>(Rows.batchChainSpec.pre enc Tryd.prog Tryd.f6 [] false w args∧laidMetH Tryd.prog zoj w)∧sizedMet enc Tryd.prog Tryd.f6 (OpenSpec.ofChange Rows.batchChainSpec) false w args) (Rows.batchChainSpec.post enc Tryd.prog Tryd.f6 false true false false) :=
 ztg started (by kernel_rfl) Tryd.func6 Lead.func6 rfl (by kernel_rfl) (by kernel_rfl)
  (ChangeSpec.witness_shaped (enc:=enc) (C:=Tryd.checked) (os:=os) (X:=fun w _=>laidMetH Tryd.prog zoj w) false (World.doorLaid Tryd.prog 400 os) #[.slice none 0 0,.slice none 0 0,.slice none 0 0] 8 rfl (World.shaped_of_RefB (by kernel_rfl) (by kernel_rfl)) (by kernel_rfl) (by kernel_rfl) (by kernel_rfl) (met0 os _))
  rfl (by kernel_rfl) (by kernel_rfl) zk5 (fun W base args ds p hval hA hlt hz ht=>znj W base args ds p hval hA hlt hz ht)
theorem zji:Rows.BatchChainSaid :=
 OpenClaim.holds_of_wide_leaving 6 Tryd.f6 rfl rfl rfl rfl rfl rfl rfl ⟨rfl,rfl,rfl,rfl,rfl⟩ rfl rfl rfl rfl rfl (by kernel_rfl) Tryd.func6 (by kernel_rfl)
  (of_decide_eq_true (by kernel_rfl)) (by unfold Func.isWrapper;first|(rw [if_pos (by decide +kernel)];kernel_rfl)|(rw [if_neg (by decide +kernel)];exact ⟨rfl,rfl⟩))
  (fun os started H enc _=>ziw os started H enc)
theorem batchChain_card:Rows.BatchChainCardSaid :=
 zuv .later [.data] true (true,"fd2a73f1ee9aeb70e659e922ecc724942c5168cf4f8065518491f35013a5df84") false
  zji (by kernel_rfl) batchChain_row_tie rfl ⟨rfl,rfl⟩ (by kernel_rfl) rfl
  (fun f fn hf hfn=>by
   obtain rfl:f=6:=Option.some.inj ((show Tryd.prog.funcNamed "shallot/shallotlaw12.BatchChain" = some 6 by kernel_rfl).symm.trans hf) |>.symm
   obtain rfl:fn=Tryd.f6:=(Option.some.inj (Tryd.func6.symm.trans hfn)).symm
   exact ⟨by kernel_rfl,fun j t ht=>by
    rw [Tryd.params6] at ht
    have hm:t∈[22,41,23]:=by simpa using Array.mem_of_getElem? ht
    have hall:([22,41,23].all fun u=>!Tryd.prog.wantsStandIn u)=true:=by kernel_rfl
    exact (show Tryd.prog.wantsStandIn t=false by simpa using List.all_eq_true.1 hall t hm)⟩)
  (by kernel_rfl)
#print axioms batchChain_card
end
end Go.Proofs.YtelgmbomkojmaaaDoor
