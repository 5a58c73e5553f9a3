/- A pack: Vb. -/
import Derived.Test.YtelgmbomkojmaaaDoorQVaam
namespace Go.Proofs.YtelgmbomkojmaaaDoor
set_option linter.all false
set_option maxRecDepth 100000
section
open Go.Conc Go.ConcN Go.ConcN.Gen Go.RowKit Go.Conc.Lib Go.ConcR.Gen
open Go.ConcR (KK wgBlock WgAt stA smA rd wr Payload DC0)
section
variable {E:zar} {L:WgLink} {M o:Nat→Prop}
theorem zdt (n:Nat){S:Kp}{g:Goroutine}{w:World}(h:Goes E.P true (Oth E.ty E.Wg M) DC0 (fun g w=>S M o g w) n g w): RunM E S M o g w :=
 (zgf (o:=o) (fun _ _ h=>h) (fun a b es hd=>by obtain ⟨rfl,rfl⟩:=hd;exact ⟨.rfl',rfl,fun e he=>by simp at he⟩) n g w h).mono fun M' o' g w ⟨e1,e2,hs⟩=>by subst e1 e2;exact hs
theorem ztp (n:Nat){ld:Bool}{S:Kp}{g:Goroutine}{w:World}(h:Goes E.P false (Oth E.ty E.Wg M) DC0 (fun g w=>S M o g w) n g w): Run E.P false E.ty E.Wg ld S M o g w :=
 (zgf (o:=o) (fun _ _ h=>h) (fun a b es hd=>by obtain ⟨rfl,rfl⟩:=hd;exact ⟨.rfl',rfl,fun e he=>by simp at he⟩) n g w h).mono fun M' o' g w ⟨e1,e2,hs⟩=>by subst e1 e2;exact hs
def Kn (E:zar)(M:Nat→Prop)(w0 w:World): Prop:=Oth E.ty E.Wg M w0 w∧WgLive E.ty E.Wg w
theorem rl {w0 w w1:World}(h:Kn E M w0 w)(r:Oth E.ty E.Wg M w w1): Kn E M w0 w1:=⟨h.1.trans r,r.live h.2⟩
theorem Kn.set {w0 w:World}(h:Kn E M w0 w)(hM:¬ M E.Wg){a:Addr}(ha:a.block=E.Wg){v:Value}{st sm:Int}(hl:WgAt E.ty E.Wg (w.setCell a v) st sm): Kn E M w0 (w.setCell a v) :=
 ⟨h.1.trans (z31 hM ha hl),⟨st,sm,hl⟩⟩
set_option maxRecDepth 100000 in
set_option maxHeartbeats 8000000 in
theorem addP (H:WgLib E.P L)(hty:E.ty=L.tWg)(hM:¬ M E.Wg){Next:Kp}{b₀:Frame}{a₀:Act}{ops₀:Array Oper}{i₀:Nat}{rest₀:List Nat}{k₀:List Item}{cs:List Frame}{w0:World}(hT:∀ w',Kn E M w0 w'→RunM E Next M o (G (b₀.at (a₀.put ((ops₀[i₀]?).bind (·.dst)) (.tuple #[])) (.inRegion ops₀ rest₀ :: k₀)) cs) w')(w:World)(hK:Kn E M w0 w):
  RunM E (MMk E .disable (MAdd E fun v=>said E v (MMk E .enable Next))) M o
   (G ((base L.add).at ⟨#[.pointer (some ⟨E.Wg,0,none⟩),.int .i64 1,undef,undef,undef,undef,undef,undef,undef,undef,undef,undef,undef,undef,undef,undef,undef,undef,undef,undef,undef,undef,undef,undef,undef,undef,undef,undef,undef,undef,undef,undef,undef,undef,undef,undef,undef,undef,undef,undef,undef,undef,undef,undef,undef,undef,undef,undef,undef,undef,undef,undef,undef,undef,undef,undef,undef,undef,undef,undef,undef,undef,undef,undef,undef,undef,undef,undef,undef,undef,undef,undef,undef,undef,undef,undef,undef,undef,undef,undef,undef,undef,undef,undef,undef,undef,undef,undef,undef,undef,undef,undef,undef,undef,undef,undef,undef,undef,undef,undef,undef,undef,undef,undef,undef,undef,undef,undef,undef,undef,undef,undef,undef,undef,undef,undef,undef],[]⟩ [.code (body_add L)]) (b₀.at a₀ (.inRegion ops₀ (i₀ :: rest₀) :: k₀) :: cs)) w:=by
 lib_facts
 simp only [body_add,addFn,Option.getD_some]
 refine zdt 40 ?_
 u_c stepG_seq rl hK
 u_cond true rl hK
 u_c stepG_seq rl hK
 u_c stepG_seq rl hK
 u_reg rl hK
 u_op rl hK
 u_op rl hK
 u_c stepG_region_end rl hK
 u_cond false rl hK
 u_c stepG_skip rl hK
 u_c stepG_seq rl hK
 u_reg rl hK
 refine Goes.stop (fun w1 h1=>?_)
 replace hK:=rl hK h1
 clear h1
 refine ⟨rfl,_,stepG_mark0 .disable (by simp) rfl rfl (by k_ne) rfl H.f_disable (x_disable_n L) (x_disable_b L) (x_disable_x L) (x_disable_f L),zdt 60 ?_⟩
 walk_nrm
 u_c stepG_region_end rl hK
 u_reg rl hK
 u_defer rl hK
 u_c stepG_region_end rl hK
 u_c stepG_seq rl hK
 u_reg rl hK
 u_op rl hK
 u_c stepG_region_end rl hK
 u_c stepG_seq rl hK
 u_c stepG_seq rl hK
 u_reg rl hK
 u_bub rl hK
 u_c stepG_region_end rl hK
 u_cond false rl hK
 u_c stepG_skip rl hK
 u_c stepG_seq rl hK
 u_reg rl hK
 u_op rl hK
 u_op rl hK
 u_op rl hK
 u_op rl hK
 u_op rl hK
 u_op rl hK
 u_call H.f_uAdd (nm_uAdd L) uAddFn rl hK
 u_c stepG_seq rl hK
 u_reg rl hK
 u_op rl hK
 u_c stepG_region_end rl hK
 u_c stepG_seq rl hK
 u_reg rl hK
 u_op rl hK
 u_op rl hK
 u_op rl hK
 u_op rl hK
 refine Goes.stop (fun w2 h2=>?_)
 replace hK:=rl hK h2
 clear h2
 refine ⟨rfl,fun v hv hw=>?_⟩
 rw [hty] at hw
 rcases Nat.eq_zero_or_pos v with rfl|hvp
 ·replace hw:WgAt L.tWg E.Wg w2 0 0:=by simpa using hw
  have z:(((0:Nat):Int)+1) * KK=KK:=by simp
  have e0:IntKind.u64.wrap (0+4294967296)=KK:=by decide
  rw [z]
  have hK2:Kn E M w0 (w2.setCell (stA E.Wg) (.int .u64 KK)):=hK.set hM rfl (by rw [hty];exact hw.setSt KK)
  refine ⟨_,(stepG_add_atomic rfl rfl (by k_ne) rfl H.f_addU64 (x_addU64_n L) (x_addU64_b L) (x_addU64_x L) .u64 (x_addU64_f L) rfl rfl hw.cellSt (hw.thaw 0)).trans (by rw [e0];rfl),?_⟩
  show RunM E (MMk E (.read (smA E.Wg)) (MMk E .enable Next)) M o _ _
  refine zdt 110 ?_
  clear hK hw
  simp only [KK] at hK2 ⊢
  walk_nrm
  u_op rl hK2
  u_c stepG_region_end rl hK2
  u_c stepG_ret' rl hK2
  u_leave1 H.f_uAdd rl hK2
  u_op rl hK2
  u_c stepG_region_end rl hK2
  u_c stepG_seq rl hK2
  u_c stepG_seq rl hK2
  u_reg rl hK2
  u_op rl hK2
  u_op rl hK2
  u_op rl hK2
  u_op rl hK2
  u_skip rl hK2
  u_skip rl hK2
  u_op rl hK2
  u_c stepG_region_end rl hK2
  u_cond false rl hK2
  u_c stepG_skip rl hK2
  u_c stepG_seq rl hK2
  u_reg rl hK2
  u_op rl hK2
  u_op rl hK2
  u_op rl hK2
  u_op rl hK2
  u_c stepG_region_end rl hK2
  u_c stepG_seq rl hK2
  u_reg rl hK2
  u_op rl hK2
  u_op rl hK2
  u_op rl hK2
  u_op rl hK2
  u_c stepG_region_end rl hK2
  u_c stepG_seq rl hK2
  u_c stepG_seq rl hK2
  u_reg rl hK2
  u_op rl hK2
  u_op rl hK2
  u_op rl hK2
  u_op rl hK2
  u_op rl hK2
  u_op rl hK2
  u_op rl hK2
  u_op rl hK2
  u_op rl hK2
  u_op rl hK2
  u_c stepG_region_end rl hK2
  u_cond true rl hK2
  u_reg rl hK2
  u_op rl hK2
  u_op rl hK2
  u_op rl hK2
  u_in rl hK2
  refine goes_oper_k rfl rfl (by k_ne) (fun Kx hKx=>?_)
  have hcv:=run_convert_to_unsafe (P:=E.P) H.underlying_tPU32 H.underlying_tUP H.room_tU32 (WgLive.cell1 (hty ▸ hK2.2)).choose_spec
  have hce:=fun es=>events_convert_to_unsafe (P:=E.P) H.underlying_tPU32 H.underlying_tUP H.room_tU32 (WgLive.cell1 (hty ▸ hK2.2)).choose_spec es
  go_simp
  refine hKx _ _ ⟨?_,?_⟩
  ·u_none
   intro ex hex
   have hmx:=mem_listed hex
   simp [go_sem,hce] at hmx
  clear hKx Kx hcv hce
  refine Goes.stop (fun w3 h3=>?_)
  replace hK2:=rl hK2 h3
  clear h3
  refine ⟨rfl,_,stepG_markAt .read (by simp) rfl rfl (by k_ne) rfl H.f_raceRead (x_raceRead_n L) (x_raceRead_b L) (x_raceRead_x L) (x_raceRead_f L) (ad:=⟨E.Wg,1,none⟩) (by simp [Act.eval]),zdt 60 ?_⟩
  walk_nrm
  u_c stepG_region_end rl hK2
  u_c stepG_seq rl hK2
  u_c stepG_seq rl hK2
  u_reg rl hK2
  u_op rl hK2
  u_op rl hK2
  u_c stepG_region_end rl hK2
  u_cond false rl hK2
  u_c stepG_skip rl hK2
  u_c stepG_seq rl hK2
  u_c stepG_seq rl hK2
  u_reg rl hK2
  u_op rl hK2
  u_op rl hK2
  u_op rl hK2
  u_skip rl hK2
  u_skip rl hK2
  u_op rl hK2
  u_op rl hK2
  u_skip rl hK2
  u_skip rl hK2
  u_skip rl hK2
  u_skip rl hK2
  u_op rl hK2
  u_c stepG_region_end rl hK2
  u_cond false rl hK2
  u_c stepG_skip rl hK2
  u_c stepG_seq rl hK2
  u_c stepG_seq rl hK2
  u_reg rl hK2
  u_op rl hK2
  u_op rl hK2
  u_op rl hK2
  u_skip rl hK2
  u_skip rl hK2
  u_op rl hK2
  u_c stepG_region_end rl hK2
  u_cond true rl hK2
  u_c stepG_ret' rl hK2
  refine Goes.stop (fun w4 h4=>?_)
  replace hK2:=rl hK2 h4
  clear h4
  refine ⟨rfl,_,stepG_unwind_entry (v:=.tuple #[]) (evs:=#[Go.ConcR.mk .enable]) rfl H.f_enable (x_enable_n L) (x_enable_b L) (x_enable_x L) (x_enable_f L) (by simp [Extern.Race.none_]) (by simp [Go.ConcR.mk]) (by simp [Go.ConcR.mk]),?_⟩
  refine Run.bind (zdt (S:=fun M' o' g w=>M'=M∧o'=o∧g=G (b₀.at (a₀.put ((ops₀[i₀]?).bind (·.dst)) (.tuple #[])) (.inRegion ops₀ rest₀ :: k₀)) cs∧Kn E M w0 w) 4 ?_) (fun M' o' g w ⟨e1,e2,e3,e4⟩=>by subst e1 e2 e3;exact hT _ e4)
  u_leave0 H.f_add rl hK2
  exact Goes.stop fun w5 h5=>(by refine ⟨?_,?_,?_,rl hK2 h5⟩ <;> first|trivial|rfl)
 ·
  obtain ⟨V,hV⟩:∃ V:Int,V=(v:Int)+1:=⟨_,rfl⟩
  obtain ⟨S,hS⟩:∃ S:Int,S=V * KK:=⟨_,rfl⟩
  have eS:IntKind.u64.wrap ((v:Int) * KK+4294967296)=S:=by rw [IntKind.wrap_u64,hS,hV];simp only [KK];omega
  rw [← hV,← hS]
  have hK2:Kn E M w0 (w2.setCell (stA E.Wg) (.int .u64 S)):=hK.set hM rfl (by rw [hty];exact hw.setSt S)
  refine ⟨_,(stepG_add_atomic rfl rfl (by k_ne) rfl H.f_addU64 (x_addU64_n L) (x_addU64_b L) (x_addU64_x L) .u64 (x_addU64_f L) rfl rfl hw.cellSt (hw.thaw 0)).trans (by rw [eS];rfl),?_⟩
  have es:said E v (MMk E .enable Next)=MMk E .enable Next:=if_neg (by omega)
  show RunM E (said E v (MMk E .enable Next)) M o _ _
  rw [es]
  refine zdt 110 ?_
  have f1:S / 4294967296=V:=by rw [hS];simp only [KK];omega
  have f2:bits .and .u64 S 2147483648=0:=by rw [hS,hV];have:=st_flag (v+1) 0 (by omega) (by omega);simpa [KK] using this
  have f3:bits .and .u64 S 2147483647=0:=by rw [hS,hV];have:=st_waiters (v+1) 0 (by omega) (by omega);simpa [KK] using this
  have f4:IntKind.i32.wrap V=V:=by rw [IntKind.wrap_i32];omega
  have g1:1<V:=by omega
  have g2:V<2147483648:=by omega
  have g3:(V == 1)=false:=by simp;omega
  have g4:decide (V=1)=false:=decide_eq_false (by omega)
  have g5:decide (V<0)=false:=decide_eq_false (by omega)
  have g6:decide (0<V)=true:=decide_eq_true (by omega)
  have g7:(V == 0)=false:=by simp;omega
  have g8:decide (V=0)=false:=decide_eq_false (by omega)
  clear hw hS hV eS hK es
  walk_nrm
  u_op rl hK2
  u_c stepG_region_end rl hK2
  u_c stepG_ret' rl hK2
  u_leave1 H.f_uAdd rl hK2
  u_op rl hK2
  u_c stepG_region_end rl hK2
  u_c stepG_seq rl hK2
  u_c stepG_seq rl hK2
  u_reg rl hK2
  u_op rl hK2
  u_op rl hK2
  u_op rl hK2
  u_op rl hK2
  u_skip rl hK2
  u_skip rl hK2
  u_op rl hK2
  u_c stepG_region_end rl hK2
  u_cnd false rl hK2
  u_c stepG_skip rl hK2
  u_c stepG_seq rl hK2
  u_reg rl hK2
  u_op rl hK2
  u_op rl hK2
  u_op rl hK2
  u_op rl hK2
  u_c stepG_region_end rl hK2
  u_c stepG_seq rl hK2
  u_reg rl hK2
  u_op rl hK2
  u_op rl hK2
  u_op rl hK2
  u_op rl hK2
  u_c stepG_region_end rl hK2
  u_c stepG_seq rl hK2
  u_c stepG_seq rl hK2
  u_reg rl hK2
  u_op rl hK2
  u_op rl hK2
  u_op rl hK2
  u_op rl hK2
  u_op rl hK2
  u_op rl hK2
  u_op rl hK2
  u_op rl hK2
  u_op rl hK2
  u_op rl hK2
  u_c stepG_region_end rl hK2
  u_cnd false rl hK2
  u_c stepG_skip rl hK2
  u_c stepG_seq rl hK2
  u_c stepG_seq rl hK2
  u_reg rl hK2
  u_op rl hK2
  u_op rl hK2
  u_c stepG_region_end rl hK2
  u_cnd false rl hK2
  u_c stepG_skip rl hK2
  u_c stepG_seq rl hK2
  u_c stepG_seq rl hK2
  u_reg rl hK2
  u_op rl hK2
  u_op rl hK2
  u_op rl hK2
  u_skip rl hK2
  u_skip rl hK2
  u_op rl hK2
  u_op rl hK2
  u_skip rl hK2
  u_skip rl hK2
  u_skip rl hK2
  u_skip rl hK2
  u_op rl hK2
  u_c stepG_region_end rl hK2
  u_cnd false rl hK2
  u_c stepG_skip rl hK2
  u_c stepG_seq rl hK2
  u_c stepG_seq rl hK2
  u_reg rl hK2
  u_op rl hK2
  u_op rl hK2
  u_op rl hK2
  u_skip rl hK2
  u_skip rl hK2
  u_op rl hK2
  u_c stepG_region_end rl hK2
  u_cnd true rl hK2
  u_c stepG_ret' rl hK2
  refine Goes.stop (fun w4 h4=>?_)
  replace hK2:=rl hK2 h4
  clear h4
  refine ⟨rfl,_,stepG_unwind_entry (v:=.tuple #[]) (evs:=#[Go.ConcR.mk .enable]) rfl H.f_enable (x_enable_n L) (x_enable_b L) (x_enable_x L) (x_enable_f L) (by simp [Extern.Race.none_]) (by simp [Go.ConcR.mk]) (by simp [Go.ConcR.mk]),?_⟩
  refine Run.bind (zdt (S:=fun M' o' g w=>M'=M∧o'=o∧g=G (b₀.at (a₀.put ((ops₀[i₀]?).bind (·.dst)) (.tuple #[])) (.inRegion ops₀ rest₀ :: k₀)) cs∧Kn E M w0 w) 4 ?_) (fun M' o' g w ⟨e1,e2,e3,e4⟩=>by subst e1 e2 e3;exact hT _ e4)
  u_leave0 H.f_add rl hK2
  exact Goes.stop fun w5 h5=>(by refine ⟨?_,?_,?_,rl hK2 h5⟩ <;> first|trivial|rfl)
end
end
end Go.Proofs.YtelgmbomkojmaaaDoor
