/- A pack: Br. -/
import Derived.Test.YtelgmbomkojmaaaDoorQBaf
import Derived.Test.YtelgmbomkojmaaaDoorQBae
import Derived.Test.YtelgmbomkojmaaaDoorQLaa
namespace Go.Proofs.YtelgmbomkojmaaaDoor
set_option linter.unusedSimpArgs false
set_option linter.unusedVariables false
set_option linter.unusedSectionVars false
set_option maxRecDepth 100000
section
open Go.RowKit
theorem zh1 {sv:List Int}{hop hops:Int}{L:List (List Int)}: ∀ k i j,i<j→j<(zde sv hop hops L k).length→(zde sv hop hops L k).getD i 0<(zde sv hop hops L k).getD j 0
 | 0,i,j,_,hj=>absurd hj (Nat.not_lt_zero j)
 | k+1,i,j,hij,hj=>by
   rw [zde] at hj ⊢
   by_cases h:zd3 sv hop hops (L.getD k [])=0
   ·rw [if_pos h] at hj ⊢
    rw [List.length_append,List.length_singleton] at hj
    by_cases e:j<(zde sv hop hops L k).length
    ·have:=zh1 k i j hij e
     simpa [List.getD,List.getElem?_append_left e,List.getElem?_append_left (Nat.lt_trans hij e)] using this
    ·have e2:j=(zde sv hop hops L k).length:=by omega
     subst e2
     have h1:(zde sv hop hops L k).getD i 0∈zde sv hop hops L k:=by
      rw [List.getD,List.getElem?_eq_getElem hij]
      exact List.getElem_mem _
     have h2:=(zdz k _ h1).1
     simpa [List.getD,List.getElem?_append_left hij] using h2
   ·rw [if_neg h,List.append_nil] at hj ⊢
    exact zh1 k i j hij hj
theorem zxp {sv:List Int}{hop hops:Int}{L:List (List Int)}{i j:Nat}(hi:i<(zao sv hop hops L).length)(hj:j<(zao sv hop hops L).length)(e:(zao sv hop hops L).getD i 0=(zao sv hop hops L).getD j 0): i=j:=by
 unfold zao at *
 rcases Nat.lt_trichotomy i j with h|h|h
 ·have:=zh1 _ i j h hj;omega
 ·exact h
 ·have:=zh1 _ j i h hi;omega
theorem zpa {sv:List Int}{hop hops:Int}{L:List (List Int)}{p:Nat}(h:zd3 sv hop hops (L.getD p [])=0): ∀ k,p<k→p∈zde sv hop hops L k
 | 0,hp=>absurd hp (Nat.not_lt_zero p)
 | k+1,hp=>by
   rw [zde,List.mem_append]
   by_cases e:p=k
   ·subst e;rw [if_pos h];exact .inr (by simp)
   ·exact .inl (zpa h k (by omega))
section
variable {sv:List Int} {hop hops:Int} {L:List (List Int)} {ds:List Int}
theorem zxs:(zd5 sv hop hops L ds).length=(zao sv hop hops L).length:=by simp [zd5]
theorem z0s {i:Nat}(h:i<(zao sv hop hops L).length): (zd5 sv hop hops L ds).getD i 0=zaq sv hop hops L ds i:=by simp [zd5,List.getD,h]
theorem zvz {i:Nat}(h:i<(zao sv hop hops L).length): ∃ v:Nat,v<(zao sv hop hops L).length∧(ztm (zao sv hop hops L).length ds).getD i 0=v:=by
 have hs:=(zhe (zao sv hop hops L).length ds).1 i (by rw [zck];exact h)
 rw [zck] at hs
 obtain ⟨v,hv⟩:=Int.eq_ofNat_of_zero_le hs.1
 exact ⟨v,by omega,hv⟩
theorem zmj {i j:Nat}(hi:i<(zao sv hop hops L).length)(hj:j<(zao sv hop hops L).length)(e:zaq sv hop hops L ds i=zaq sv hop hops L ds j): i=j:=by
 obtain ⟨v,hv,ev⟩:=zvz (ds:=ds) hi
 obtain ⟨u,hu,eu⟩:=zvz (ds:=ds) hj
 unfold zaq at e
 rw [ev,eu] at e
 have h:=zxp hv hu e
 refine (zhe (zao sv hop hops L).length ds).2 i j (by rw [zck];exact hi) (by rw [zck];exact hj) ?_
 rw [ev,eu,h]
theorem zqu {p:Nat}(hp:p∈zao sv hop hops L): ∃ i,i<(zao sv hop hops L).length∧zaq sv hop hops L ds i=p:=by
 obtain ⟨v,hv,ev⟩:=List.getElem_of_mem hp
 obtain ⟨i,hi,ei⟩:=(zhe (zao sv hop hops L).length ds).onto v (by rw [zck];exact hv)
 rw [zck] at hi
 refine ⟨i,hi,?_⟩
 unfold zaq
 rw [ei]
 simp [List.getD,hv,ev]
noncomputable def zdf (sv:List Int)(hop hops:Int)(L:List (List Int))(ds:List Int): List Int:=(zd5 sv hop hops L ds).map fun (p:Nat)=>(p:Int)
theorem zdc:(zdf sv hop hops L ds).length=(zao sv hop hops L).length:=by simp [zdf,zd5]
theorem zco {i:Nat}(h:i<(zao sv hop hops L).length): (zdf sv hop hops L ds).getD i 0=(zaq sv hop hops L ds i:Nat):=by simp [zdf,zd5,List.getD,h]
theorem zpc {p:Nat}(hp:p∈zao sv hop hops L): cnt (zdf sv hop hops L ds) (p:Int) (zao sv hop hops L).length=1:=by
 obtain ⟨i,hi,e⟩:=zqu (ds:=ds) hp
 refine z1t _ ⟨i,hi,by rw [zco hi,e],fun j hj ej=>?_⟩
 rw [zco hj] at ej
 exact zmj hj hi (by rw [e];omega)
end
end
end Go.Proofs.YtelgmbomkojmaaaDoor
