/- A pack: Vd. -/
import Derived.Test.YtelgmbomkojmaaaDoorQVban
namespace Go.Proofs.YtelgmbomkojmaaaDoor
set_option linter.all false
set_option maxRecDepth 100000
section
open Go.Conc Go.ConcN Go.ConcN.Gen Go.RowKit Go.Conc.Lib Go.ConcR.Gen
open Go.ConcR (KK wgBlock WgAt stA smA rd wr Payload DC0)
section
variable {E:zar} {L:WgLink} {M o:Nat→Prop}
def zi0 (E:zar)(L:WgLink)(End:Kp): Kp:=fun M o g w=>∃ (b₀:Frame) (a₀:Act) (ops₀:Array Oper) (i₀:Nat) (rest₀:List Nat) (k₀:List Item) (cs:List Frame) (w0:World) (T:Array Value),
 ¬ M E.Wg∧(∀ w',Kn E M w0 w'→RunM E End M o (G (b₀.at (a₀.put ((ops₀[i₀]?).bind (·.dst)) (.tuple #[])) (.inRegion ops₀ rest₀ :: k₀)) cs) w') ∧
 g=G ((base L.wait).at ⟨T,[]⟩ [.code (L7 L),.inLoop (L7 L),.inBlock 0]) (b₀.at a₀ (.inRegion ops₀ (i₀ :: rest₀) :: k₀) :: cs)∧T.size=84∧T[0]?=some (.pointer (some ⟨E.Wg,0,none⟩))∧Kn E M w0 w
theorem zi0.running {End:Kp}{g:Goroutine}{w:World}(h:zi0 E L End M o g w): g.status=.running:=by
 obtain ⟨_,_,_,_,_,_,_,_,_,_,_,rfl,_⟩:=h
 rfl
set_option maxRecDepth 100000 in
theorem z5e (H:WgLib E.P L)(hty:E.ty=L.tWg)(hM:¬ M E.Wg){End:Kp}{b₀:Frame}{a₀:Act}{ops₀:Array Oper}{i₀:Nat}{rest₀:List Nat}{k₀:List Item}{cs:List Frame}{w0:World}(hT:∀ w',Kn E M w0 w'→RunM E End M o (G (b₀.at (a₀.put ((ops₀[i₀]?).bind (·.dst)) (.tuple #[])) (.inRegion ops₀ rest₀ :: k₀)) cs) w')(w:World)(hK:Kn E M w0 w):
  RunM E (MMk E .disable (zi0 E L End)) M o
   (G ((base L.wait).at ⟨#[.pointer (some ⟨E.Wg,0,none⟩),undef,undef,undef,undef,undef,undef,undef,undef,undef,undef,undef,undef,undef,undef,undef,undef,undef,undef,undef,undef,undef,undef,undef,undef,undef,undef,undef,undef,undef,undef,undef,undef,undef,undef,undef,undef,undef,undef,undef,undef,undef,undef,undef,undef,undef,undef,undef,undef,undef,undef,undef,undef,undef,undef,undef,undef,undef,undef,undef,undef,undef,undef,undef,undef,undef,undef,undef,undef,undef,undef,undef,undef,undef,undef,undef,undef,undef,undef,undef,undef,undef,undef,undef],[]⟩ [.code (body_wait L)]) (b₀.at a₀ (.inRegion ops₀ (i₀ :: rest₀) :: k₀) :: cs)) w:=by
 lib_facts
 simp only [body_wait,waitFn,Option.getD_some]
 refine zdt 10 ?_
 u_c stepG_seq rl hK
 u_cond true rl hK
 u_reg rl hK
 refine Goes.stop (fun w1 h1=>?_)
 replace hK:=rl hK h1
 clear h1
 refine ⟨rfl,_,stepG_mark0 .disable (by simp) rfl rfl (by k_ne) rfl H.f_disable (x_disable_n L) (x_disable_b L) (x_disable_x L) (x_disable_f L),zdt 3 ?_⟩
 walk_nrm
 u_c stepG_region_end rl hK
 u_c stepG_block rl hK
 u_c stepG_loop rl hK
 exact Goes.stop fun w2 h2=>⟨b₀,a₀,ops₀,i₀,rest₀,k₀,cs,w0,_,hM,hT,rfl,by simp,by simp,rl hK h2⟩
set_option maxRecDepth 100000 in
set_option maxHeartbeats 8000000 in
theorem zsm (H:WgLib E.P L)(hty:E.ty=L.tWg){End:Kp}(g:Goroutine)(w:World)(h:zi0 E L End M o g w): RunM E (MW1 E End (zi0 E L End)) M o g w:=by
 lib_facts
 obtain ⟨b₀,a₀,ops₀,i₀,rest₀,k₀,cs,w0,T,hM,hT,rfl,hT84,t0,hK⟩:=h
 obtain ⟨v0,v1,v2,v3,v4,v5,v6,v7,v8,v9,v10,v11,v12,v13,v14,v15,v16,v17,v18,v19,v20,v21,v22,v23,v24,v25,v26,v27,v28,v29,v30,v31,v32,v33,v34,v35,v36,v37,v38,v39,v40,v41,v42,v43,v44,v45,v46,v47,v48,v49,v50,v51,v52,v53,v54,v55,v56,v57,v58,v59,v60,v61,v62,v63,v64,v65,v66,v67,v68,v69,v70,v71,v72,v73,v74,v75,v76,v77,v78,v79,v80,v81,v82,v83,rfl⟩:=array84 T hT84
 simp only [List.getElem?_toArray,List.getElem?_cons_zero,Option.some.injEq] at t0
 subst t0
 refine zdt 30 ?_
 simp only [L7,body_wait,waitFn,Option.getD_some]
 u_c stepG_block rl hK
 u_c stepG_seq rl hK
 u_reg rl hK
 u_op rl hK
 u_op rl hK
 u_op rl hK
 u_call H.f_uLoad (nm_uLoad L) uLoadFn rl hK
 u_c stepG_seq rl hK
 u_reg rl hK
 u_op rl hK
 u_c stepG_region_end rl hK
 u_c stepG_seq rl hK
 u_reg rl hK
 u_op rl hK
 u_op rl hK
 u_op rl hK
 refine Goes.stop (fun w1 h1=>?_)
 replace hK:=rl hK h1
 clear h1
 refine ⟨rfl,fun v hv hw=>?_⟩
 rw [hty] at hw
 rcases Nat.eq_zero_or_pos v with rfl|hvp
 ·replace hw:WgAt L.tWg E.Wg w1 0 0:=by simpa using hw
  refine ⟨_,stepG_load_atomic (v:=0) rfl rfl (by k_ne) rfl H.f_loadU64 (x_loadU64_n L) (x_loadU64_b L) (x_loadU64_x L) .u64 (x_loadU64_f L) rfl hw.cellSt,fun _=>zdt 60 ?_,fun h=>absurd rfl h⟩
  clear hw
  walk_nrm
  u_op rl hK
  u_c stepG_region_end rl hK
  u_c stepG_ret' rl hK
  u_leave1 H.f_uLoad rl hK
  u_op rl hK
  u_c stepG_region_end rl hK
  u_c stepG_seq rl hK
  u_reg rl hK
  u_op rl hK
  u_op rl hK
  u_op rl hK
  u_op rl hK
  u_c stepG_region_end rl hK
  u_c stepG_seq rl hK
  u_reg rl hK
  u_op rl hK
  u_op rl hK
  u_op rl hK
  u_op rl hK
  u_c stepG_region_end rl hK
  u_c stepG_seq rl hK
  u_c stepG_seq rl hK
  u_reg rl hK
  u_op rl hK
  u_op rl hK
  u_c stepG_region_end rl hK
  u_cond true rl hK
  u_c stepG_seq rl hK
  u_cond true rl hK
  u_c stepG_seq rl hK
  u_reg rl hK
  refine Goes.stop (fun w8 h8=>?_)
  replace hK:=rl hK h8
  clear h8
  refine ⟨rfl,_,stepG_mark0 .enable (by simp) rfl rfl (by k_ne) rfl H.f_enable (x_enable_n L) (x_enable_b L) (x_enable_x L) (x_enable_f L),zdt 12 ?_⟩
  walk_nrm
  u_c stepG_region_end rl hK
  u_reg rl hK
  u_op rl hK
  u_in rl hK
  refine goes_oper_k rfl rfl (by k_ne) (fun Kx hKx=>?_)
  have hcv:=run_convert_to_unsafe (P:=E.P) H.underlying_tWgP H.underlying_tUP H.room_tWg (WgLive.cell0 (hty ▸ hK.2)).choose_spec
  have hce:=fun es=>events_convert_to_unsafe (P:=E.P) H.underlying_tWgP H.underlying_tUP H.room_tWg (WgLive.cell0 (hty ▸ hK.2)).choose_spec es
  go_simp
  refine hKx _ _ ⟨?_,?_⟩
  ·u_none
   intro ex hex
   have hmx:=mem_listed hex
   simp [go_sem,hce] at hmx
  clear hKx Kx hcv hce
  refine Goes.stop (fun w9 h9=>?_)
  replace hK:=rl hK h9
  clear h9
  refine ⟨rfl,_,stepG_markAt .acquire (by simp) rfl rfl (by k_ne) rfl H.f_acquire (x_acquire_n L) (x_acquire_b L) (x_acquire_x L) (x_acquire_f L) (by simp [Act.eval,stA]),?_⟩
  refine Run.bind (zdt (S:=fun M' o' g w=>M'=M∧o'=o∧g=G (b₀.at (a₀.put ((ops₀[i₀]?).bind (·.dst)) (.tuple #[])) (.inRegion ops₀ rest₀ :: k₀)) cs∧Kn E M w0 w) 30 ?_) (fun M' o' g w ⟨e1,e2,e3,e4⟩=>by subst e1 e2 e3;exact hT _ e4)
  walk_nrm
  u_c stepG_region_end rl hK
  u_c stepG_seq rl hK
  u_c stepG_seq rl hK
  u_reg rl hK
  u_op rl hK
  u_op rl hK
  u_op rl hK
  u_op rl hK
  u_op rl hK
  u_op rl hK
  u_op rl hK
  u_op rl hK
  u_skip rl hK
  u_skip rl hK
  u_op rl hK
  u_c stepG_region_end rl hK
  u_cond false rl hK
  u_c stepG_skip rl hK
  u_c stepG_ret' rl hK
  u_leave0 H.f_wait rl hK
  exact Goes.stop fun w5 h5=>(by refine ⟨?_,?_,?_,rl hK h5⟩ <;> first|trivial|rfl)
 ·obtain ⟨S,hS⟩:∃ S:Int,(v:Int) * KK=S:=⟨_,rfl⟩
  have a1:S / 4294967296=(v:Int):=by rw [← hS];simp only [KK];omega
  have b1:bits .and .u64 S 2147483648=0:=by rw [← hS];have:=st_flag v 0 (by omega) (by omega);simpa [KK] using this
  have b2:bits .and .u64 S 2147483647=0:=by rw [← hS];have:=st_waiters v 0 (by omega) (by omega);simpa [KK] using this
  have c1:IntKind.i32.wrap (v:Int)=(v:Int):=by rw [IntKind.wrap_i32];omega
  have d1:IntKind.u64.wrap (S+1)=S+1:=by rw [IntKind.wrap_u64,← hS];simp only [KK];omega
  have q3:decide ((v:Int)<0)=false:=decide_eq_false (by omega)
  have q4:decide (0<(v:Int))=true:=decide_eq_true (by omega)
  have q5:((v:Int) == 0)=false:=by simp;omega
  have q6:decide ((v:Int)=0)=false:=decide_eq_false (by omega)
  rw [hS] at hw
  refine ⟨_,stepG_load_atomic (v:=S) rfl rfl (by k_ne) rfl H.f_loadU64 (x_loadU64_n L) (x_loadU64_b L) (x_loadU64_x L) .u64 (x_loadU64_f L) rfl hw.cellSt,fun h0=>absurd h0 (by omega),fun _=>zdt 80 ?_⟩
  clear hw
  walk_nrm
  u_op rl hK
  u_c stepG_region_end rl hK
  u_c stepG_ret' rl hK
  u_leave1 H.f_uLoad rl hK
  u_op rl hK
  u_c stepG_region_end rl hK
  u_c stepG_seq rl hK
  u_reg rl hK
  u_op rl hK
  u_op rl hK
  u_op rl hK
  u_op rl hK
  u_c stepG_region_end rl hK
  u_c stepG_seq rl hK
  u_reg rl hK
  u_op rl hK
  u_op rl hK
  u_op rl hK
  u_op rl hK
  u_c stepG_region_end rl hK
  u_c stepG_seq rl hK
  u_c stepG_seq rl hK
  u_reg rl hK
  u_op rl hK
  u_op rl hK
  u_c stepG_region_end rl hK
  u_cnd false rl hK
  u_c stepG_skip rl hK
  u_c stepG_seq rl hK
  u_reg rl hK
  u_op rl hK
  u_op rl hK
  u_op rl hK
  u_op rl hK
  u_op rl hK
  u_op rl hK
  u_call H.f_uCas (nm_uCas L) uCasFn rl hK
  u_c stepG_seq rl hK
  u_reg rl hK
  u_op rl hK
  u_c stepG_region_end rl hK
  u_c stepG_seq rl hK
  u_reg rl hK
  u_op rl hK
  u_op rl hK
  u_op rl hK
  u_op rl hK
  u_op rl hK
  refine Goes.stop (fun w2 h2=>?_)
  replace hK:=rl hK h2
  clear h2
  refine ⟨rfl,fun v' hv' hw=>⟨fun e=>?_,fun e=>?_⟩⟩
  ·subst e
   rw [hty] at hw
   rw [hS] at hw ⊢
   refine ⟨_,(stepG_cas_hit (v:=S) (n:=S+1) rfl rfl (by k_ne) rfl H.f_casU64 (x_casU64_n L) (x_casU64_b L) (x_casU64_x L) .u64 (x_casU64_f L) rfl rfl rfl hw.cellSt (hw.thaw 0)).trans (by rfl),zdt 90 ?_⟩
   replace hK:Kn E M w0 (w2.setCell (stA E.Wg) (.int .u64 (S+1))):=hK.set hM rfl (by rw [hty];exact hw.setSt (S+1))
   clear hw
   walk_nrm
   u_op rl hK
   u_c stepG_region_end rl hK
   u_c stepG_ret' rl hK
   u_leave1 H.f_uCas rl hK
   u_c stepG_region_end rl hK
   u_cond true rl hK
   u_c stepG_seq rl hK
   u_c stepG_seq rl hK
   u_reg rl hK
   u_op rl hK
   u_op rl hK
   u_op rl hK
   u_op rl hK
   u_c stepG_region_end rl hK
   u_cond true rl hK
   u_reg rl hK
   u_op rl hK
   u_op rl hK
   u_op rl hK
   u_in rl hK
   refine goes_oper_k rfl rfl (by k_ne) (fun Kx hKx=>?_)
   have hcv:=run_convert_to_unsafe (P:=E.P) H.underlying_tPU32 H.underlying_tUP H.room_tU32 (WgLive.cell1 (hty ▸ hK.2)).choose_spec
   have hce:=fun es=>events_convert_to_unsafe (P:=E.P) H.underlying_tPU32 H.underlying_tUP H.room_tU32 (WgLive.cell1 (hty ▸ hK.2)).choose_spec es
   go_simp
   refine hKx _ _ ⟨?_,?_⟩
   ·u_none
    intro ex hex
    have hmx:=mem_listed hex
    simp [go_sem,hce] at hmx
   clear hKx Kx hcv hce
   refine Goes.stop (fun w3 h3=>?_)
   replace hK:=rl hK h3
   clear h3
   refine ⟨rfl,_,stepG_markAt .write (by simp) rfl rfl (by k_ne) rfl H.f_raceWrite (x_raceWrite_n L) (x_raceWrite_b L) (x_raceWrite_x L) (x_raceWrite_f L) (ad:=⟨E.Wg,1,none⟩) (by simp [Act.eval]),zdt 40 ?_⟩
   walk_nrm
   u_c stepG_region_end rl hK
   u_c stepG_seq rl hK
   u_reg rl hK
   u_op rl hK
   u_c stepG_region_end rl hK
   u_c stepG_seq rl hK
   u_c stepG_seq rl hK
   u_reg rl hK
   u_op rl hK
   u_op rl hK
   u_op rl hK
   u_op rl hK
   u_skip rl hK
   u_op rl hK
   u_c stepG_region_end rl hK
   u_cond false rl hK
   u_c stepG_skip rl hK
   u_c stepG_seq rl hK
   u_reg rl hK
   u_op rl hK
   u_op rl hK
   u_op rl hK
   u_op rl hK
   refine Goes.stop (fun w4 h4=>?_)
   replace hK:=rl hK h4
   clear h4
   refine ⟨rfl,rfl,fun ⟨st,hw⟩=>?_,fun hf=>?_⟩
   ·rw [hty] at hw
    exact stepG_semacquire_wait rfl rfl rfl H.f_semacquire (x_semacquire_n L) (x_semacquire_b L) (x_semacquire_x L) (x_semacquire_f L) (by simp [Act.eval,smA]) hw.cellSm
   rw [hty] at hf
   refine ⟨_,(stepG_semacquire (n:=1) rfl rfl (by k_ne) rfl H.f_semacquire (x_semacquire_n L) (x_semacquire_b L) (x_semacquire_x L) (x_semacquire_f L) (by simp [Act.eval,smA]) hf.cellSm (by k_ne) (hf.thaw 1)).trans (by rfl),zdt 40 ?_⟩
   replace hK:Kn E M w0 (w4.setCell (smA E.Wg) (.int .u32 0)):=hK.set hM rfl (by rw [hty];exact hf.setSm 0)
   clear hf
   walk_nrm
   u_c stepG_region_end rl hK
   u_c stepG_seq rl hK
   u_reg rl hK
   u_op rl hK
   u_op rl hK
   u_op rl hK
   u_call H.f_uLoad (nm_uLoad L) uLoadFn rl hK
   u_c stepG_seq rl hK
   u_reg rl hK
   u_op rl hK
   u_c stepG_region_end rl hK
   u_c stepG_seq rl hK
   u_reg rl hK
   u_op rl hK
   u_op rl hK
   u_op rl hK
   refine Goes.stop (fun w5 h5=>?_)
   replace hK:=rl hK h5
   clear h5
   refine ⟨rfl,fun hw=>?_⟩
   rw [hty] at hw
   refine ⟨_,stepG_load_atomic (v:=0) rfl rfl (by k_ne) rfl H.f_loadU64 (x_loadU64_n L) (x_loadU64_b L) (x_loadU64_x L) .u64 (x_loadU64_f L) rfl hw.cellSt,zdt 30 ?_⟩
   clear hw
   walk_nrm
   u_op rl hK
   u_c stepG_region_end rl hK
   u_c stepG_ret' rl hK
   u_leave1 H.f_uLoad rl hK
   u_op rl hK
   u_op rl hK
   u_c stepG_region_end rl hK
   u_c stepG_seq rl hK
   u_cond true rl hK
   u_c stepG_seq rl hK
   u_reg rl hK
   refine Goes.stop (fun w8 h8=>?_)
   replace hK:=rl hK h8
   clear h8
   refine ⟨rfl,_,stepG_mark0 .enable (by simp) rfl rfl (by k_ne) rfl H.f_enable (x_enable_n L) (x_enable_b L) (x_enable_x L) (x_enable_f L),zdt 12 ?_⟩
   walk_nrm
   u_c stepG_region_end rl hK
   u_reg rl hK
   u_op rl hK
   u_in rl hK
   refine goes_oper_k rfl rfl (by k_ne) (fun Kx hKx=>?_)
   have hcv:=run_convert_to_unsafe (P:=E.P) H.underlying_tWgP H.underlying_tUP H.room_tWg (WgLive.cell0 (hty ▸ hK.2)).choose_spec
   have hce:=fun es=>events_convert_to_unsafe (P:=E.P) H.underlying_tWgP H.underlying_tUP H.room_tWg (WgLive.cell0 (hty ▸ hK.2)).choose_spec es
   go_simp
   refine hKx _ _ ⟨?_,?_⟩
   ·u_none
    intro ex hex
    have hmx:=mem_listed hex
    simp [go_sem,hce] at hmx
   clear hKx Kx hcv hce
   refine Goes.stop (fun w9 h9=>?_)
   replace hK:=rl hK h9
   clear h9
   refine ⟨rfl,_,stepG_markAt .acquire (by simp) rfl rfl (by k_ne) rfl H.f_acquire (x_acquire_n L) (x_acquire_b L) (x_acquire_x L) (x_acquire_f L) (by simp [Act.eval,stA]),?_⟩
   refine Run.bind (zdt (S:=fun M' o' g w=>M'=M∧o'=o∧g=G (b₀.at (a₀.put ((ops₀[i₀]?).bind (·.dst)) (.tuple #[])) (.inRegion ops₀ rest₀ :: k₀)) cs∧Kn E M w0 w) 30 ?_) (fun M' o' g w ⟨e1,e2,e3,e4⟩=>by subst e1 e2 e3;exact hT _ e4)
   walk_nrm
   u_c stepG_region_end rl hK
   u_c stepG_seq rl hK
   u_c stepG_seq rl hK
   u_reg rl hK
   u_op rl hK
   u_c stepG_region_end rl hK
   u_cond false rl hK
   u_c stepG_skip rl hK
   u_c stepG_ret' rl hK
   u_leave0 H.f_wait rl hK
   exact Goes.stop fun w5 h5=>(by refine ⟨?_,?_,?_,rl hK h5⟩ <;> first|trivial|rfl)
  ·rw [hty] at hw
   refine ⟨_,stepG_cas_miss (v:=(v':Int) * KK) (old:=S) (n:=S+1) rfl rfl (by k_ne) rfl H.f_casU64 (x_casU64_n L) (x_casU64_b L) (x_casU64_x L) .u64 (x_casU64_f L) rfl rfl rfl hw.cellSt (hw.thaw 0) (by rw [← hS];simp only [KK];omega),zdt 20 ?_⟩
   clear hw
   walk_nrm
   u_op rl hK
   u_c stepG_region_end rl hK
   u_c stepG_ret' rl hK
   u_leave1 H.f_uCas rl hK
   u_c stepG_region_end rl hK
   u_cond false rl hK
   u_c stepG_skip rl hK
   u_c stepG_inBlock rl hK
   u_c stepG_inLoop rl hK
   exact Goes.stop fun w5 h5=>⟨b₀,a₀,ops₀,i₀,rest₀,k₀,cs,w0,_,hM,hT,rfl,by simp,by simp,rl hK h5⟩
end
end
end Go.Proofs.YtelgmbomkojmaaaDoor
