/- A pack: Va. -/
import Derived.Test.YtelgmbomkojmaaaDoorProg
import Derived.Test.YtelgmbomkojmaaaDoorQYal
import Derived.Conc.WgGenN3
namespace Go.Proofs.YtelgmbomkojmaaaDoor
set_option linter.all false
set_option maxRecDepth 100000
section
open Go.Conc Go.Conc.Lib
abbrev link:WgLink:={ add:=29,done:=31,wait:=33,relMerge:=44,disable:=45,enable:=46,inBubble:=47,associate:=48,fatal:=49,uOr:=50,uAdd:=51,raceRead:=52,uLoad:=53,uStore:=54,disassociate:=55,semrelease:=56,acquire:=57,isAssociated:=58,uCas:=59,raceWrite:=60,semacquire:=61,orU64:=69,addU64:=70,loadU64:=71,storeU64:=72,casU64:=73,tWgP:=86,tUP:=88,tAssoc:=89,tWg:=76,tAU:=73,tU64:=71,tUint:=93,tU32:=74,tPU32:=94,tPAU:=110,tPU64:=112,tNoCopy:=68,tANoCopy:=69,tAlign64:=70 }
theorem zup:WgLib Tryd.prog link :=
 ⟨Tryd.func29,Tryd.func31,Tryd.func33,Tryd.func44,Tryd.func45,Tryd.func46,Tryd.func47,Tryd.func48,Tryd.func49,Tryd.func50,Tryd.func51,Tryd.func52,Tryd.func53,Tryd.func54,Tryd.func55,Tryd.func56,Tryd.func57,Tryd.func58,Tryd.func59,Tryd.func60,Tryd.func61,Tryd.func69,Tryd.func70,Tryd.func71,Tryd.func72,Tryd.func73,Tryd.underlying86,Tryd.runUnderlying86,Tryd.sizeOf86,Tryd.isAgg86,Tryd.zeroValue86,Tryd.underlying88,Tryd.runUnderlying88,Tryd.sizeOf88,Tryd.isAgg88,Tryd.zeroValue88,Tryd.underlying89,Tryd.runUnderlying89,Tryd.sizeOf89,Tryd.isAgg89,Tryd.zeroValue89,Tryd.underlying76,Tryd.runUnderlying76,Tryd.sizeOf76,Tryd.isAgg76,Tryd.zeroValue76,Tryd.underlying73,Tryd.runUnderlying73,Tryd.sizeOf73,Tryd.isAgg73,Tryd.zeroValue73,Tryd.underlying71,Tryd.runUnderlying71,Tryd.sizeOf71,Tryd.isAgg71,Tryd.zeroValue71,Tryd.underlying93,Tryd.runUnderlying93,Tryd.sizeOf93,Tryd.isAgg93,Tryd.zeroValue93,Tryd.underlying74,Tryd.runUnderlying74,Tryd.sizeOf74,Tryd.isAgg74,Tryd.zeroValue74,Tryd.underlying94,Tryd.runUnderlying94,Tryd.sizeOf94,Tryd.isAgg94,Tryd.zeroValue94,Tryd.underlying110,Tryd.runUnderlying110,Tryd.sizeOf110,Tryd.isAgg110,Tryd.zeroValue110,Tryd.underlying112,Tryd.runUnderlying112,Tryd.sizeOf112,Tryd.isAgg112,Tryd.zeroValue112,Tryd.underlying0,Tryd.runUnderlying0,Tryd.sizeOf0,Tryd.isAgg0,Tryd.zeroValue0,Tryd.underlying3,Tryd.runUnderlying3,Tryd.sizeOf3,Tryd.isAgg3,Tryd.zeroValue3,Tryd.underlying4,Tryd.runUnderlying4,Tryd.sizeOf4,Tryd.isAgg4,Tryd.zeroValue4,Tryd.underlying9,Tryd.runUnderlying9,Tryd.sizeOf9,Tryd.isAgg9,Tryd.zeroValue9,Tryd.underlying20,Tryd.runUnderlying20,Tryd.sizeOf20,Tryd.isAgg20,Tryd.zeroValue20,Tryd.underlying21,Tryd.runUnderlying21,Tryd.sizeOf21,Tryd.isAgg21,Tryd.zeroValue21,(by kernel_rfl),(by kernel_rfl)⟩
end
end Go.Proofs.YtelgmbomkojmaaaDoor
