/- A pack: Vc. -/
import Derived.Test.YtelgmbomkojmaaaDoorQVban
namespace Go.Proofs.YtelgmbomkojmaaaDoor
set_option linter.all false
set_option maxRecDepth 100000
section
open Go.Conc Go.ConcN Go.ConcN.Gen Go.RowKit Go.Conc.Lib Go.ConcR.Gen
open Go.ConcR (KK wgBlock WgAt stA smA rd wr Payload DC0)
section
variable {E:zar} {L:WgLink} {M o:Nat→Prop}
set_option maxRecDepth 100000 in
set_option maxHeartbeats 8000000 in
theorem z55 (H:WgLib E.P L)(hty:E.ty=L.tWg)(hM:¬ M E.Wg){c:Frame}{cs:List Frame}{qt0:Nat}(hcm:c.mode=.returning)(hT0:QuitsD E.P qt0 0 (G c cs)){w0:World}(w:World)(hK:Kn E M w0 w):
  RunW E (WR0 E) M o (G ((baseD L.done).at ⟨#[.pointer (some ⟨E.Wg,0,none⟩),undef,undef,undef],[]⟩ [.code (body_done L)]) (c :: cs)) w:=by
 lib_facts
 simp only [body_done,doneFn,addFn,Option.getD_some]
 refine ztp 40 ?_
 u_reg rl hK
 u_op rl hK
 u_in rl hK
 refine goes_call rfl rfl (by k_ne) rfl H.f_add (nm_add L) rfl ⟨by u_nil,?_⟩
 walk_nrmf addFn
 u_c stepG_seq rl hK
 u_cond true rl hK
 u_c stepG_seq rl hK
 u_c stepG_seq rl hK
 u_reg rl hK
 u_op rl hK
 u_op rl hK
 u_c stepG_region_end rl hK
 u_cond true rl hK
 u_reg rl hK
 u_op rl hK
 u_in rl hK
 refine goes_oper_k rfl rfl (by k_ne) (fun Kx hKx=>?_)
 have hcv:=run_convert_to_unsafe (P:=E.P) H.underlying_tWgP H.underlying_tUP H.room_tWg (WgLive.cell0 (hty ▸ hK.2)).choose_spec
 have hce:=fun es=>events_convert_to_unsafe (P:=E.P) H.underlying_tWgP H.underlying_tUP H.room_tWg (WgLive.cell0 (hty ▸ hK.2)).choose_spec es
 go_simp
 refine hKx _ _ ⟨?_,?_⟩
 ·u_none
  intro ex hex
  have hmx:=mem_listed hex
  simp [go_sem,hce] at hmx
 clear hKx Kx hcv hce
 refine Goes.stop (fun w1 h1=>?_)
 replace hK:=rl hK h1
 clear h1
 refine ⟨rfl,_,stepG_markAt .releaseMerge (by simp) rfl rfl (by k_ne) rfl H.f_relMerge (x_relMerge_n L) (x_relMerge_b L) (x_relMerge_x L) (x_relMerge_f L) (by simp [Act.eval,stA]),ztp 30 ?_⟩
 walk_nrm
 u_c stepG_region_end rl hK
 u_c stepG_seq rl hK
 u_reg rl hK
 refine Goes.stop (fun w2 h2=>?_)
 replace hK:=rl hK h2
 clear h2
 refine ⟨rfl,_,stepG_mark0 .disable (by simp) rfl rfl (by k_ne) rfl H.f_disable (x_disable_n L) (x_disable_b L) (x_disable_x L) (x_disable_f L),ztp 60 ?_⟩
 walk_nrm
 u_c stepG_region_end rl hK
 u_reg rl hK
 u_defer rl hK
 u_c stepG_region_end rl hK
 u_c stepG_seq rl hK
 u_reg rl hK
 u_op rl hK
 u_c stepG_region_end rl hK
 u_c stepG_seq rl hK
 u_c stepG_seq rl hK
 u_reg rl hK
 u_bub rl hK
 u_c stepG_region_end rl hK
 u_cond false rl hK
 u_c stepG_skip rl hK
 u_c stepG_seq rl hK
 u_reg rl hK
 u_op rl hK
 u_op rl hK
 u_op rl hK
 u_op rl hK
 u_op rl hK
 u_op rl hK
 u_call H.f_uAdd (nm_uAdd L) uAddFn rl hK
 u_c stepG_seq rl hK
 u_reg rl hK
 u_op rl hK
 u_c stepG_region_end rl hK
 u_c stepG_seq rl hK
 u_reg rl hK
 u_op rl hK
 u_op rl hK
 u_op rl hK
 u_op rl hK
 refine Goes.stop (fun w3 h3=>?_)
 replace hK:=rl hK h3
 clear h3
 refine ⟨rfl,fun v wt hwt hv hw=>?_⟩
 rw [hty] at hw
 have e0:IntKind.u64.wrap (KK+18446744069414584320)=0:=by decide
 have e1:IntKind.u64.wrap (KK+1+18446744069414584320)=1:=by decide
 rcases Nat.eq_zero_or_pos v with rfl|hvp <;> (obtain rfl|rfl:wt=0∨wt=1:=by omega)
 ·replace hw:WgAt L.tWg E.Wg w3 KK 0:=by simpa using hw
  have z:((0:Nat):Int) * KK+((0:Nat):Int)=0:=by simp
  rw [z]
  refine ⟨_,(stepG_add_atomic rfl rfl (by k_ne) rfl H.f_addU64 (x_addU64_n L) (x_addU64_b L) (x_addU64_x L) .u64 (x_addU64_f L) rfl rfl hw.cellSt (hw.thaw 0)).trans (by rw [e0];rfl),fun hl=>absurd hl.2 (by decide),fun _=>⟨qt0+92,?_⟩⟩
  clear hw
  walk_nrm
  q_val (.int .u64 0)
  q_c stepG_region_end
  q_c stepG_ret'
  q_leave1 H.f_uAdd
  q_val (.int .u64 0)
  q_c stepG_region_end
  q_c stepG_seq
  q_c stepG_seq
  q_reg
  q_val (.int .u64 0)
  q_val (.int .u64 0)
  q_val (.bool false)
  q_val (.bool false)
  q_skip
  q_skip
  q_val (.bool false)
  q_c stepG_region_end
  q_cond false
  q_c stepG_skip
  q_c stepG_seq
  q_reg
  q_val (.int .u64 0)
  q_val (.int .u64 0)
  q_val (.int .i32 0)
  q_val (.int .i32 0)
  q_c stepG_region_end
  q_c stepG_seq
  q_reg
  q_val (.int .u64 0)
  q_val (.int .u64 0)
  q_val (.int .u32 0)
  q_val (.int .u32 0)
  q_c stepG_region_end
  q_c stepG_seq
  q_c stepG_seq
  q_reg
  q_val (.bool true)
  q_val (.int .i64 (-1))
  q_val (.bool false)
  q_val (.bool false)
  q_val (.bool false)
  q_skip
  q_skip
  q_skip
  q_skip
  q_val (.bool false)
  q_c stepG_region_end
  q_cond false
  q_c stepG_skip
  q_c stepG_seq
  q_c stepG_seq
  q_reg
  q_val (.int .i32 0)
  q_val (.bool false)
  q_c stepG_region_end
  q_cond false
  q_c stepG_skip
  q_c stepG_seq
  q_c stepG_seq
  q_reg
  q_val (.int .u32 0)
  q_val (.bool false)
  q_val (.bool false)
  q_skip
  q_skip
  q_val (.bool false)
  q_val (.bool false)
  q_skip
  q_skip
  q_skip
  q_skip
  q_val (.bool false)
  q_c stepG_region_end
  q_cond false
  q_c stepG_skip
  q_c stepG_seq
  q_c stepG_seq
  q_reg
  q_val (.int .i32 0)
  q_val (.bool false)
  q_val (.bool false)
  q_val (.int .u32 0)
  q_val (.bool true)
  q_val (.bool true)
  q_c stepG_region_end
  q_cond true
  q_c stepG_ret'
  q_enable
  q_leave0 H.f_add
  q_c stepG_region_end
  q_c stepG_end
  exact QuitsD.leaveD rfl rfl H.f_done rfl hcm hT0
 ·replace hw:WgAt L.tWg E.Wg w3 (KK+1) 0:=by simpa using hw
  have z:((0:Nat):Int) * KK+((1:Nat):Int)=1:=by simp
  rw [z]
  refine ⟨_,(stepG_add_atomic rfl rfl (by k_ne) rfl H.f_addU64 (x_addU64_n L) (x_addU64_b L) (x_addU64_x L) .u64 (x_addU64_f L) rfl rfl hw.cellSt (hw.thaw 0)).trans (by rw [e1];rfl),fun _=>?_,fun hl=>absurd ⟨rfl,rfl⟩ hl⟩
  replace hK:Kn E M w0 (w3.setCell (stA E.Wg) (.int .u64 1)):=hK.set hM rfl (by rw [hty];exact hw.setSt 1)
  clear hw
  refine ztp 120 ?_
  walk_nrm
  u_op rl hK
  u_c stepG_region_end rl hK
  u_c stepG_ret' rl hK
  u_leave1 H.f_uAdd rl hK
  u_op rl hK
  u_c stepG_region_end rl hK
  u_c stepG_seq rl hK
  u_c stepG_seq rl hK
  u_reg rl hK
  u_op rl hK
  u_op rl hK
  u_op rl hK
  u_op rl hK
  u_skip rl hK
  u_skip rl hK
  u_op rl hK
  u_c stepG_region_end rl hK
  u_cond false rl hK
  u_c stepG_skip rl hK
  u_c stepG_seq rl hK
  u_reg rl hK
  u_op rl hK
  u_op rl hK
  u_op rl hK
  u_op rl hK
  u_c stepG_region_end rl hK
  u_c stepG_seq rl hK
  u_reg rl hK
  u_op rl hK
  u_op rl hK
  u_op rl hK
  u_op rl hK
  u_c stepG_region_end rl hK
  u_c stepG_seq rl hK
  u_c stepG_seq rl hK
  u_reg rl hK
  u_op rl hK
  u_op rl hK
  u_op rl hK
  u_op rl hK
  u_op rl hK
  u_skip rl hK
  u_skip rl hK
  u_skip rl hK
  u_skip rl hK
  u_op rl hK
  u_c stepG_region_end rl hK
  u_cond false rl hK
  u_c stepG_skip rl hK
  u_c stepG_seq rl hK
  u_c stepG_seq rl hK
  u_reg rl hK
  u_op rl hK
  u_op rl hK
  u_c stepG_region_end rl hK
  u_cond false rl hK
  u_c stepG_skip rl hK
  u_c stepG_seq rl hK
  u_c stepG_seq rl hK
  u_reg rl hK
  u_op rl hK
  u_op rl hK
  u_op rl hK
  u_op rl hK
  u_op rl hK
  u_op rl hK
  u_op rl hK
  u_skip rl hK
  u_skip rl hK
  u_skip rl hK
  u_skip rl hK
  u_op rl hK
  u_c stepG_region_end rl hK
  u_cond false rl hK
  u_c stepG_skip rl hK
  u_c stepG_seq rl hK
  u_c stepG_seq rl hK
  u_reg rl hK
  u_op rl hK
  u_op rl hK
  u_op rl hK
  u_op rl hK
  u_op rl hK
  u_op rl hK
  u_c stepG_region_end rl hK
  u_cond false rl hK
  u_c stepG_skip rl hK
  u_c stepG_seq rl hK
  u_c stepG_seq rl hK
  u_reg rl hK
  u_op rl hK
  u_op rl hK
  u_op rl hK
  u_call H.f_uLoad (nm_uLoad L) uLoadFn rl hK
  u_c stepG_seq rl hK
  u_reg rl hK
  u_op rl hK
  u_c stepG_region_end rl hK
  u_c stepG_seq rl hK
  u_reg rl hK
  u_op rl hK
  u_op rl hK
  u_op rl hK
  refine Goes.stop (fun w4 h4=>?_)
  replace hK:=rl hK h4
  clear h4
  refine ⟨rfl,fun hw=>?_⟩
  rw [hty] at hw
  refine ⟨_,stepG_load_atomic rfl rfl (by k_ne) rfl H.f_loadU64 (x_loadU64_n L) (x_loadU64_b L) (x_loadU64_x L) .u64 (x_loadU64_f L) rfl hw.cellSt,ztp 40 ?_⟩
  clear hw
  walk_nrm
  u_op rl hK
  u_c stepG_region_end rl hK
  u_c stepG_ret' rl hK
  u_leave1 H.f_uLoad rl hK
  u_op rl hK
  u_op rl hK
  u_c stepG_region_end rl hK
  u_cond false rl hK
  u_c stepG_skip rl hK
  u_c stepG_seq rl hK
  u_reg rl hK
  u_op rl hK
  u_op rl hK
  u_op rl hK
  u_call H.f_uStore (nm_uStore L) uStoreFn rl hK
  u_reg rl hK
  u_op rl hK
  u_op rl hK
  u_op rl hK
  u_op rl hK
  refine Goes.stop (fun w5 h5=>?_)
  replace hK:=rl hK h5
  clear h5
  refine ⟨rfl,fun hw=>?_⟩
  rw [hty] at hw
  refine ⟨_,stepG_store_atomic rfl rfl (by k_ne) rfl H.f_storeU64 (x_storeU64_n L) (x_storeU64_b L) (x_storeU64_x L) (x_storeU64_f L) rfl rfl hw.cellSt (hw.thaw 0),ztp 50 ?_⟩
  replace hK:Kn E M w0 (w5.setCell (stA E.Wg) (.int .u64 0)):=hK.set hM rfl (by rw [hty];exact hw.setSt 0)
  clear hw
  walk_nrm
  u_c stepG_region_end rl hK
  u_c stepG_end rl hK
  u_leave0 H.f_uStore rl hK
  u_c stepG_region_end rl hK
  u_c stepG_seq rl hK
  u_c stepG_seq rl hK
  u_reg rl hK
  u_op rl hK
  u_c stepG_region_end rl hK
  u_cond false rl hK
  u_c stepG_skip rl hK
  u_c stepG_block rl hK
  u_c stepG_loop rl hK
  u_c stepG_seq rl hK
  u_c stepG_seq rl hK
  u_reg rl hK
  u_op rl hK
  u_op rl hK
  u_c stepG_region_end rl hK
  u_cond true rl hK
  u_c stepG_skip rl hK
  u_c stepG_seq rl hK
  u_c stepG_block rl hK
  u_reg rl hK
  u_op rl hK
  u_op rl hK
  u_op rl hK
  refine Goes.stop (fun w6 h6=>?_)
  replace hK:=rl hK h6
  clear h6
  refine ⟨rfl,mayWake_entry rfl rfl H.f_semrelease (x_semrelease_b L),fun hw=>?_⟩
  rw [hty] at hw
  refine ⟨_,(stepG_semrelease rfl rfl (by k_ne) rfl H.f_semrelease (x_semrelease_n L) (x_semrelease_b L) (x_semrelease_x L) (x_semrelease_f L) (by simp [Act.eval,smA]) hw.cellSm (hw.thaw 1)).trans (by rfl),qt0+22,?_⟩
  clear hw
  walk_nrm
  q_c stepG_region_end
  q_c stepG_inBlock
  q_reg
  q_val (.int .u32 1)
  q_val (.int .u32 0)
  q_val (.int .u32 0)
  q_c stepG_region_end
  q_c stepG_inLoop
  q_c stepG_seq
  q_c stepG_seq
  q_reg
  q_val (.int .u32 0)
  q_val (.bool false)
  q_c stepG_region_end
  q_cond false
  q_exit
  q_c stepG_end
  q_enable
  q_leave0 H.f_add
  q_c stepG_region_end
  q_c stepG_end
  exact QuitsD.leaveD rfl rfl H.f_done rfl hcm hT0
 ·replace hw:WgAt L.tWg E.Wg w3 (((v:Nat)+1) * KK+0) 0:=by simpa using hw
  have z:((v:Nat):Int) * KK+((0:Nat):Int)=(v:Int) * KK+0:=by simp
  have eS:IntKind.u64.wrap (((v:Nat)+1) * KK+0+18446744069414584320)=(v:Int) * KK+0:=by rw [IntKind.wrap_u64];simp only [KK];omega
  rw [z]
  have hv0:0<v:=by omega
  obtain ⟨S,hS⟩:∃ S:Int,S=(v:Int) * KK+0:=⟨_,rfl⟩
  rw [← hS] at eS ⊢
  have a1:S / 4294967296=(v:Int):=by rw [hS];simp only [KK];omega
  have a2:0≤S∧S<9223372036854775808:=by rw [hS];simp only [KK];omega
  have b1:bits .and .u64 S 2147483648=0:=by rw [hS];have:=st_flag v 0 (by omega) (by omega);simpa [KK] using this
  have b2:bits .and .u64 S 2147483647=0:=by rw [hS];have:=st_waiters v 0 (by omega) (by omega);simpa [KK] using this
  clear hS z
  refine ⟨_,(stepG_add_atomic rfl rfl (by k_ne) rfl H.f_addU64 (x_addU64_n L) (x_addU64_b L) (x_addU64_x L) .u64 (x_addU64_f L) rfl rfl hw.cellSt (hw.thaw 0)).trans (by rw [eS];rfl),fun hl=>absurd hl.1 (by omega),fun _=>⟨qt0+92,?_⟩⟩
  clear hw
  walk_nrm
  q_vn (.int .u64 S)
  q_c stepG_region_end
  q_c stepG_ret'
  q_leave1 H.f_uAdd
  q_vn (.int .u64 S)
  q_c stepG_region_end
  q_c stepG_seq
  q_c stepG_seq
  q_reg
  q_vn (.int .u64 S)
  q_vn (.int .u64 0)
  q_vn (.bool false)
  q_vn (.bool false)
  q_skip
  q_skip
  q_vn (.bool false)
  q_c stepG_region_end
  q_cond false
  q_c stepG_skip
  q_c stepG_seq
  q_reg
  q_vn (.int .u64 S)
  q_vn (.int .u64 (v:Int))
  q_vn (.int .i32 (v:Int))
  q_vn (.int .i32 (v:Int))
  q_c stepG_region_end
  q_c stepG_seq
  q_reg
  q_vn (.int .u64 S)
  q_vn (.int .u64 0)
  q_vn (.int .u32 0)
  q_vn (.int .u32 0)
  q_c stepG_region_end
  q_c stepG_seq
  q_c stepG_seq
  q_reg
  q_vn (.bool true)
  q_vn (.int .i64 (-1))
  q_vn (.bool false)
  q_vn (.bool false)
  q_vn (.bool false)
  q_skip
  q_skip
  q_skip
  q_skip
  q_vn (.bool false)
  q_c stepG_region_end
  q_cond false
  q_c stepG_skip
  q_c stepG_seq
  q_c stepG_seq
  q_reg
  q_vn (.int .i32 (v:Int))
  q_vn (.bool false)
  q_c stepG_region_end
  q_cond false
  q_c stepG_skip
  q_c stepG_seq
  q_c stepG_seq
  q_reg
  q_vn (.int .u32 0)
  q_vn (.bool false)
  q_vn (.bool false)
  q_skip
  q_skip
  q_vn (.bool false)
  q_vn (.bool false)
  q_skip
  q_skip
  q_skip
  q_skip
  q_vn (.bool false)
  q_c stepG_region_end
  q_cond false
  q_c stepG_skip
  q_c stepG_seq
  q_c stepG_seq
  q_reg
  q_vn (.int .i32 (v:Int))
  q_vn (.bool true)
  q_vn (.bool true)
  q_skip
  q_skip
  q_vn (.bool true)
  q_c stepG_region_end
  q_cond true
  q_c stepG_ret'
  q_enable
  q_leave0 H.f_add
  q_c stepG_region_end
  q_c stepG_end
  exact QuitsD.leaveD rfl rfl H.f_done rfl hcm hT0
 ·replace hw:WgAt L.tWg E.Wg w3 (((v:Nat)+1) * KK+1) 0:=by simpa using hw
  have z:((v:Nat):Int) * KK+((1:Nat):Int)=(v:Int) * KK+1:=by simp
  have eS:IntKind.u64.wrap (((v:Nat)+1) * KK+1+18446744069414584320)=(v:Int) * KK+1:=by rw [IntKind.wrap_u64];simp only [KK];omega
  rw [z]
  have hv0:0<v:=by omega
  obtain ⟨S,hS⟩:∃ S:Int,S=(v:Int) * KK+1:=⟨_,rfl⟩
  rw [← hS] at eS ⊢
  have a1:S / 4294967296=(v:Int):=by rw [hS];simp only [KK];omega
  have a2:0≤S∧S<9223372036854775808:=by rw [hS];simp only [KK];omega
  have b1:bits .and .u64 S 2147483648=0:=by rw [hS];have:=st_flag v 1 (by omega) (by omega);simpa [KK] using this
  have b2:bits .and .u64 S 2147483647=1:=by rw [hS];have:=st_waiters v 1 (by omega) (by omega);simpa [KK] using this
  clear hS z
  refine ⟨_,(stepG_add_atomic rfl rfl (by k_ne) rfl H.f_addU64 (x_addU64_n L) (x_addU64_b L) (x_addU64_x L) .u64 (x_addU64_f L) rfl rfl hw.cellSt (hw.thaw 0)).trans (by rw [eS];rfl),fun hl=>absurd hl.1 (by omega),fun _=>⟨qt0+92,?_⟩⟩
  clear hw
  walk_nrm
  q_vn (.int .u64 S)
  q_c stepG_region_end
  q_c stepG_ret'
  q_leave1 H.f_uAdd
  q_vn (.int .u64 S)
  q_c stepG_region_end
  q_c stepG_seq
  q_c stepG_seq
  q_reg
  q_vn (.int .u64 S)
  q_vn (.int .u64 0)
  q_vn (.bool false)
  q_vn (.bool false)
  q_skip
  q_skip
  q_vn (.bool false)
  q_c stepG_region_end
  q_cond false
  q_c stepG_skip
  q_c stepG_seq
  q_reg
  q_vn (.int .u64 S)
  q_vn (.int .u64 (v:Int))
  q_vn (.int .i32 (v:Int))
  q_vn (.int .i32 (v:Int))
  q_c stepG_region_end
  q_c stepG_seq
  q_reg
  q_vn (.int .u64 S)
  q_vn (.int .u64 1)
  q_vn (.int .u32 1)
  q_vn (.int .u32 1)
  q_c stepG_region_end
  q_c stepG_seq
  q_c stepG_seq
  q_reg
  q_vn (.bool true)
  q_vn (.int .i64 (-1))
  q_vn (.bool false)
  q_vn (.bool false)
  q_vn (.bool false)
  q_skip
  q_skip
  q_skip
  q_skip
  q_vn (.bool false)
  q_c stepG_region_end
  q_cond false
  q_c stepG_skip
  q_c stepG_seq
  q_c stepG_seq
  q_reg
  q_vn (.int .i32 (v:Int))
  q_vn (.bool false)
  q_c stepG_region_end
  q_cond false
  q_c stepG_skip
  q_c stepG_seq
  q_c stepG_seq
  q_reg
  q_vn (.int .u32 1)
  q_vn (.bool true)
  q_vn (.bool true)
  q_vn (.int .i64 (-1))
  q_vn (.bool false)
  q_vn (.bool false)
  q_vn (.bool false)
  q_skip
  q_skip
  q_skip
  q_skip
  q_vn (.bool false)
  q_c stepG_region_end
  q_cond false
  q_c stepG_skip
  q_c stepG_seq
  q_c stepG_seq
  q_reg
  q_vn (.int .i32 (v:Int))
  q_vn (.bool true)
  q_vn (.bool true)
  q_skip
  q_skip
  q_vn (.bool true)
  q_c stepG_region_end
  q_cond true
  q_c stepG_ret'
  q_enable
  q_leave0 H.f_add
  q_c stepG_region_end
  q_c stepG_end
  exact QuitsD.leaveD rfl rfl H.f_done rfl hcm hT0
end
end
end Go.Proofs.YtelgmbomkojmaaaDoor
