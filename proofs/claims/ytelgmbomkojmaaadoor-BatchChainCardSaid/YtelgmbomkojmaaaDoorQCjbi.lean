/- A pack: Br Bj Bu. -/
import Derived.Test.YtelgmbomkojmaaaDoorQBaf
import Derived.Test.YtelgmbomkojmaaaDoorQBae
import Derived.Test.YtelgmbomkojmaaaDoorQLaa
import Derived.Test.YtelgmbomkojmaaaDoorQLac
namespace Go.Proofs.YtelgmbomkojmaaaDoor
set_option linter.all false
set_option maxRecDepth 100000
section
open Go.RowKit
theorem zhs {sv:List Int}{hop hops:Int}{L:List (List Int)}: ∀ k i j,i<j→j<(zc3 sv hop hops L k).length→(zc3 sv hop hops L k).getD i 0<(zc3 sv hop hops L k).getD j 0
 | 0,i,j,_,hj=>absurd hj (Nat.not_lt_zero j)
 | k+1,i,j,hij,hj=>by
   rw [zc3] at hj ⊢
   by_cases h:zds sv hop hops (L.getD k [])=0
   ·rw [if_pos h] at hj ⊢
    rw [List.length_append,List.length_singleton] at hj
    by_cases e:j<(zc3 sv hop hops L k).length
    ·have:=zhs k i j hij e
     simpa [List.getD,List.getElem?_append_left e,List.getElem?_append_left (Nat.lt_trans hij e)] using this
    ·have e2:j=(zc3 sv hop hops L k).length:=by omega
     subst e2
     have h1:(zc3 sv hop hops L k).getD i 0∈zc3 sv hop hops L k:=by
      rw [List.getD,List.getElem?_eq_getElem hij]
      exact List.getElem_mem _
     have h2:=(zjp k _ h1).1
     simpa [List.getD,List.getElem?_append_left hij] using h2
   ·rw [if_neg h,List.append_nil] at hj ⊢
    exact zhs k i j hij hj
theorem zw7 {sv:List Int}{hop hops:Int}{L:List (List Int)}{i j:Nat}(hi:i<(za4 sv hop hops L).length)(hj:j<(za4 sv hop hops L).length)(e:(za4 sv hop hops L).getD i 0=(za4 sv hop hops L).getD j 0): i=j:=by
 unfold za4 at *
 rcases Nat.lt_trichotomy i j with h|h|h
 ·have:=zhs _ i j h hj;omega
 ·exact h
 ·have:=zhs _ j i h hi;omega
section
variable {sv:List Int} {hop hops:Int} {L:List (List Int)} {ds:List Int}
theorem zxb:(zd6 sv hop hops L ds).length=(za4 sv hop hops L).length:=by simp [zd6]
theorem z0e {i:Nat}(h:i<(za4 sv hop hops L).length): (zd6 sv hop hops L ds).getD i 0=zax sv hop hops L ds i:=by simp [zd6,List.getD,h]
theorem zvf {i:Nat}(h:i<(za4 sv hop hops L).length): ∃ v:Nat,v<(za4 sv hop hops L).length∧(zsz (za4 sv hop hops L).length ds).getD i 0=v:=by
 have hs:=(zjk (za4 sv hop hops L).length ds).1 i (by rw [zc9];exact h)
 rw [zc9] at hs
 obtain ⟨v,hv⟩:=Int.eq_ofNat_of_zero_le hs.1
 exact ⟨v,by omega,hv⟩
theorem zs4 {i j:Nat}(hi:i<(za4 sv hop hops L).length)(hj:j<(za4 sv hop hops L).length)(e:zax sv hop hops L ds i=zax sv hop hops L ds j): i=j:=by
 obtain ⟨v,hv,ev⟩:=zvf (ds:=ds) hi
 obtain ⟨u,hu,eu⟩:=zvf (ds:=ds) hj
 unfold zax at e
 rw [ev,eu] at e
 have h:=zw7 hv hu e
 refine (zjk (za4 sv hop hops L).length ds).2 i j (by rw [zc9];exact hi) (by rw [zc9];exact hj) ?_
 rw [ev,eu,h]
noncomputable def zor (sv:List Int)(hop hops:Int)(L:List (List Int))(ds:List Int): List Int:=(zd6 sv hop hops L ds).map fun (p:Nat)=>(p:Int)
theorem zxc:(zor sv hop hops L ds).length=(za4 sv hop hops L).length:=by simp [zor,zd6]
theorem z0f {i:Nat}(h:i<(za4 sv hop hops L).length): (zor sv hop hops L ds).getD i 0=(zax sv hop hops L ds i:Nat):=by simp [zor,zd6,List.getD,h]
end
end
section
open Go.RowKit
theorem z5x (n:Nat): (madeCells (Value.int .u8 0).cells (n * 1)).toList=nums .u8 (List.replicate n 0):=by
 apply List.ext_getElem?
 intro i
 by_cases h:i<n <;> simp [madeCells,nums,Value.cells,h,Nat.mod_one]
end
section
open Go.RowKit
section
variable {g:Nat} {w w':World} {sv:List Int} {hop hops:Int} {L:List (List Int)} {ds:List Int} {X Y Z:Option Addr} {q x y z:Nat} {vo vk:List Value}
end
end
end Go.Proofs.YtelgmbomkojmaaaDoor
