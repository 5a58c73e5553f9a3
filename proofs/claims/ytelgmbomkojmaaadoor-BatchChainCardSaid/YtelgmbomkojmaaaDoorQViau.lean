/- A pack: Vi. -/
import Derived.Test.YtelgmbomkojmaaaDoorQVhat
namespace Go.Proofs.YtelgmbomkojmaaaDoor
set_option linter.all false
set_option maxRecDepth 100000
section
open Go.Conc Go.ConcN Go.ConcN.Gen Go.RowKit Go.Conc.Lib Go.ConcR.Gen
open Go.ConcR (KK wgBlock WgAt stA smA rd wr Payload DC0)
section
variable {E:zar} {x:zey} {y:WIn} {M:Nat→Prop} {w0:World}
theorem z3i (hP:E.P=Tryd.prog)(hty:E.ty=link.tWg)(hx:x.Wg=E.Wg)(hB:y.cB=E.cB)(hG:y.cG=E.cG)(hM:¬ M E.Wg)(hMk:∀ b,M b→b<w0.heap.size)(hst:∀ p a B w w₁,E.A p a B w→(∀ b,B b→w₁.heap[b]?=w.heap[b]?)→E.A p a B w₁)(hPe:∀ p,p<y.n→z0z E x y M w0 p): ∀ (l:List Nat),(∀ p∈l,p<y.n)→∀ T w,IsT x y T→WKn E x y M w0 w→zjj E y.c l M (fun _=>False) (zf7 x T) w
 | [],_,T,w,hT,hK=>⟨rfl,by
   refine ⟨?_,endW hP hty hx hM hT w hK⟩
   rw [hP]
   exact zrm T hT w⟩
 | p :: l,hl,T,w,hT,hK=>⟨rfl,by
   refine ⟨?_,z3u hP hB hG hMk hst (hl p (by simp)) (hPe p (hl p (by simp))) (Next:=zjj E y.c l) (fun T w hT hK=>z3i hP hty hx hB hG hM hMk hst hPe l (fun q hq=>hl q (List.mem_cons_of_mem _ hq)) T w hT hK) hT w hK⟩
   rw [hP]
   exact zrm T hT w⟩
theorem z4r (hP:E.P=Tryd.prog)(hty:E.ty=link.tWg)(hx:x.Wg=E.Wg)(hB:y.cB=E.cB)(hG:y.cG=E.cG)(hM:¬ M E.Wg)(hMk:∀ b,M b→b<w0.heap.size)(hst:∀ p a B w w₁,E.A p a B w→(∀ b,B b→w₁.heap[b]?=w.heap[b]?)→E.A p a B w₁)(hPe:∀ p,p<y.n→z0z E x y M w0 p)(l:List Nat)(hl:∀ p∈l,p<y.n)(w:World)(hK:WKn E x y M w0 w): RunW E (zjj E y.c l) M (fun _=>False) (born Tryd.prog (call30 x)) w :=
 z4u hP (fun T w hT hK=>z3i hP hty hx hB hG hM hMk hst hPe l hl T w hT hK) w hK
end
end
end Go.Proofs.YtelgmbomkojmaaaDoor
