import Derived.Test.YtbibnpdnmmgacaaGreatDoorJZg
import Derived.Test.YtbibnpdnmmgacaaGreatDoorJZe
set_option linter.unusedVariables false
set_option linter.unusedSimpArgs false
set_option maxRecDepth 100000
namespace Go.Proofs.YtbibnpdnmmgacaaGreatDoor
open Go.Sx Go.RowKit
set_option maxHeartbeats 400000 in
theorem s_cmpl (w:World) (ks ls:List Ex) (s t:Value) (ss ts:List Value) (hl:ss.length=ks.length) (hl2:ts.length=ls.length) (hsl:∀ i,i<ks.length→IsSl (ss.getD i undef)) (hsl2:∀ i,i<ls.length→IsSl (ts.getD i undef)) (hr:Rd (fun b=>¬ (fun _=>False) b) w s 3 ks.length (xcs ks ss)) (hr2:Rd (fun b=>¬ (fun _=>False) b) w t 3 ls.length (xcs ls ts)) (f:FuncId) (hco:CallOk Tryz.prog f) (hf:∀ w',FrameX (fun _=>False) w w'→∀ i,i<ks.length→i<ls.length→CallS Tryz.prog f [.agg #[.int .i64 (ks.getD i default).op,.int .i64 (ks.getD i default).lt,ss.getD i undef],.agg #[.int .i64 (ls.getD i default).op,.int .i64 (ls.getD i default).lt,ts.getD i undef]] w' (fun r o=>r = .int .i64 (cmpX (ks.getD i default) (ls.getD i default))∧o=[])):CallS Tryz.prog 132 [s,t,.func (.func f) #[] #[]] w (fun r o=>r = .int .i64 (cmpXL ks ls)∧o=[]):=by
 have hm:=hr.le
 have hm2:=hr2.le
 refine spec_of Tryz.func132 rfl (leb rfl) ?_
 refine .sr fun _ hK1=>?_
 refine .as rfl (.nt hK1 ?_)
 refine .seq fun _ hK2=>?_
 refine .sr fun _ hK3=>?_
 refine .mv rfl ?_
 refine .v (.lenR sl22 rfl (by first | exact rdp | exact (RdS.arg hr) | exact (RdS.arg hr2))) ?_
 refine .mv rfl (.nt hK3 (.block ?_))
 refine AK.loopK (X:=Nat) [(0,_),(1,_),(2,_),(11,_),(12,_)] (fun k=>[(13,.int .i64 (k:Int))]) (fun k=>[]) (fun k=>k≤ks.length∧k≤ls.length∧cmpXL ks ls=cmpXL (ks.drop k) (ls.drop k)) (fun k=>ks.length - k) (0) slr ?_ ?_ ?_ ?_
 ·exact ⟨Nat.zero_le _,Nat.zero_le _,rfl⟩
 ·exact slr
 ·exact fun w hw=>hw
 ·intro k hg0 _ hK4
  refine .sr fun _ hK5=>?_
  refine .v (.lss rfl rfl) (.nt hK5 ?_)
  refine .seq fun _ hK6=>?_
  refine AK.condD rfl (fun hc0=>?_) (fun hc0=>?_)
  ·have sk:=hsl k (by omega)
   refine .skip ?_
   refine AK.then_ (hK6 _ ?_)
   refine .seq fun _ hK7=>?_
   refine .block ?_
   refine .sr fun _ hK8=>?_
   refine .mv rfl ?_
   first | refine .v (.iN sl22 rfl rfl (hr:=(by first | exact rdp | exact (RdS.arg hr) | exact (RdS.arg hr2)))) ?_ | refine .v (.iK sl22 rfl rfl (hr:=(by first | exact rdp | exact (RdS.arg hr) | exact (RdS.arg hr2)))) ?_
   refine .v (.loadE ag24 rfl (by first | exact rdp | exact (RdS.arg hr) | exact (RdS.arg hr2)) (by assumption) rfl (by omega)) ?_
   refine AK.alloc el24 rfl rfl trivial rfl (fun bx8=>?_)
   refine .as rfl ?_
   refine AK.storeBox 0 (us:=[.int .i64 (ks.getD k default).op,.int .i64 (ks.getD k default).lt,ss.getD k undef]) (cs':=[.int .i64 (ks.getD k default).op,.int .i64 (ks.getD k default).lt,ss.getD k undef]) rfl sz24 rfl rfl rfl rfl oneP (leb rfl) rfl trivial ?_
   refine .nt hK8 ?_
   refine .seq fun _ hK9=>?_
   refine .sr fun _ hK10=>?_
   refine .mv rfl (.mv rfl ?_)
   refine .v (.lenR sl22 rfl (by first | exact rdp | exact (RdS.arg hr) | exact (RdS.arg hr2))) ?_
   refine .v (.geq rfl rfl) (.nt hK10 ?_)
   refine AK.condD rfl (fun hc1=>?_) (fun hc1=>?_)
   ·refine .sr fun _ hK11=>?_
    refine .as rfl (.nt hK11 (.ret (.then_ret (.block_ret (.then_ret (.then_ret (.block_ret (.then_ret ?_))))))))
    refine AK.ret1 rfl rfl (fun w hw=>⟨_,_,?_,rfl,Ret.of (hw.pick [] (by decide) rfl rfl)⟩)
    exact ⟨congrArg (Value.int .i64) (hg0.2.2.trans (cmpXL_gt (by omega) (by omega))).symm,rfl⟩
   ·have sk2:=hsl2 k (by omega)
    refine .skip ?_
    refine AK.then_ (hK9 _ ?_)
    refine .sr fun _ hK12=>?_
    refine .mv rfl (.mv rfl ?_)
    first | refine .v (.iN sl22 rfl rfl (hr:=(by first | exact rdp | exact (RdS.arg hr) | exact (RdS.arg hr2)))) ?_ | refine .v (.iK sl22 rfl rfl (hr:=(by first | exact rdp | exact (RdS.arg hr) | exact (RdS.arg hr2)))) ?_
    refine .v (.loadE ag24 rfl (by first | exact rdp | exact (RdS.arg hr) | exact (RdS.arg hr2)) (by assumption) rfl (by omega)) ?_
    refine AK.alloc el24 rfl rfl trivial rfl (fun bx9=>?_)
    refine AK.storeBox 1 (us:=[.int .i64 (ls.getD k default).op,.int .i64 (ls.getD k default).lt,ts.getD k undef]) (cs':=[.int .i64 (ls.getD k default).op,.int .i64 (ls.getD k default).lt,ts.getD k undef]) rfl sz24 rfl rfl rfl rfl oneP (leb rfl) rfl trivial ?_
    refine .nt hK12 ?_
    refine .sr fun _ hK13=>?_
    refine .mv rfl (.v (.loadBoxG ag24 rfl bsp rfl rfl) (.v (.loadBoxG ag24 rfl bsp rfl rfl) ?_))
    refine AK.callV (us:=[]) (cs:=[]) hco rfl rfl (fun w hw=>hf w hw.frame k (by omega) (by omega)) trivial rfl ?_
    rintro r o ⟨rfl,rfl⟩
    refine .as rfl (.nt hK13 ?_)
    refine .sr fun _ hK14=>?_
    refine .mv rfl (.v (.neq rfl rfl) (.nt hK14 ?_))
    refine AK.condNe rfl (fun hc2=>?_) (fun hc2=>?_)
    ·refine .sr fun _ hK15=>?_
     refine .mv rfl (.as rfl (.nt hK15 (.ret (.block_ret (.then_ret (.then_ret (.block_ret (.then_ret ?_))))))))
     refine AK.ret1 rfl rfl (fun w hw=>⟨_,_,?_,rfl,Ret.of (hw.pick [] (by decide) rfl rfl)⟩)
     exact ⟨congrArg (Value.int .i64) (hg0.2.2.trans (cmpXL_hit (by omega) (by omega) hc2)).symm,rfl⟩
    ·refine .skip (.block_normal ?_)
     refine AK.then_ (hK7 _ ?_)
     refine AK.region ?_
     refine .v (.add rfl rfl (by omega)) ?_
     refine .mv rfl (.nil ?_)
     refine AK.then_ (hK4 _ _ (k+1) ⟨by omega,by omega,hg0.2.2.trans (cmpXL_next (by omega) (by omega) (by omega))⟩ (by omega) (slr) (fun w hw=>hw.pick [] (by decide) rfl rfl))
  ·refine .exit (.then_exit (.then_exit (.block_exit ?_)))
   refine AK.then_ (hK2 _ ?_)
   refine .seq fun _ hK16=>?_
   refine .sr fun _ hK17=>?_
   refine .mv rfl ?_
   refine .v (.lenR sl22 rfl (by first | exact rdp | exact (RdS.arg hr) | exact (RdS.arg hr2))) ?_
   refine .mv rfl ?_
   refine .v (.lenR sl22 rfl (by first | exact rdp | exact (RdS.arg hr) | exact (RdS.arg hr2))) ?_
   refine .v (.lss rfl rfl) (.nt hK17 ?_)
   refine AK.condD rfl (fun hc3=>?_) (fun hc3=>?_)
   ·refine .sr fun _ hK18=>?_
    refine .as rfl (.nt hK18 (.ret (.then_ret ?_)))
    refine AK.ret1 rfl rfl (fun w hw=>⟨_,_,?_,rfl,Ret.of (hw.pick [] (by decide) rfl rfl)⟩)
    exact ⟨congrArg (Value.int .i64) (hg0.2.2.trans ((cmpXL_end (by omega) (by omega)).trans (if_pos (by omega)))).symm,rfl⟩
   ·refine .skip ?_
    refine AK.then_ (hK16 _ ?_)
    refine .sr fun _ hK19=>?_
    refine .as rfl (.nt hK19 (.ret ?_))
    refine AK.ret1 rfl rfl (fun w hw=>⟨_,_,?_,rfl,Ret.of (hw.pick [] (by decide) rfl rfl)⟩)
    exact ⟨congrArg (Value.int .i64) (hg0.2.2.trans ((cmpXL_end (by omega) (by omega)).trans (if_neg (by omega)))).symm,rfl⟩
def CmpS (a:Ex):Prop:=∀ (b:Ex) (w:World) (s t:Value),RdK (cellR (fun _=>False) w) s a.kids→RdK (cellR (fun _=>False) w) t b.kids→CallS Tryz.prog 80 [.agg #[.int .i64 a.op,.int .i64 a.lt,s],.agg #[.int .i64 b.op,.int .i64 b.lt,t]] w (fun r o=>r = .int .i64 (cmpX a b)∧o=[])
set_option maxHeartbeats 400000 in
theorem s_cmpx_step (a:Ex) (ih:∀ i,i<a.kids.length→CmpS (a.kids.getD i default)) (b:Ex) (w:World) (s t:Value) (h:RdK (cellR (fun _=>False) w) s a.kids) (h2:RdK (cellR (fun _=>False) w) t b.kids):CallS Tryz.prog 80 [.agg #[.int .i64 a.op,.int .i64 a.lt,s],.agg #[.int .i64 b.op,.int .i64 b.lt,t]] w (fun r o=>r = .int .i64 (cmpX a b)∧o=[]):=by
 obtain ⟨ss,hl,hx,hk⟩:=h.inv
 have hr:=hx.rd
 obtain ⟨ts,hl2,hx2,hk2⟩:=h2.inv
 have hr2:=hx2.rd
 refine spec_of Tryz.func80 rfl (leb rfl) ?_
 refine .sr fun _ hK1=>?_
 refine AK.box_ (E:=24) (cs:=[.int .i64 a.op,.int .i64 a.lt,s]) rfl rfl rfl trivial rfl (fun bx2=>?_)
 refine AK.box_ (E:=24) (cs:=[.int .i64 b.op,.int .i64 b.lt,t]) rfl rfl rfl trivial rfl (fun bx3=>?_)
 refine .as rfl (.nt hK1 ?_)
 refine .seq fun _ hK2=>?_
 refine .sr fun _ hK3=>?_
 refine .v (.fieldAddr fd24_0 rfl) (.v (.loadBox on3 rfl bsp rfl) (.v (.fieldAddr fd24_0 rfl) (.v (.loadBox on3 rfl bsp rfl) (.v (.neq rfl rfl) (.nt hK3 ?_)))))
 refine AK.condNe rfl (fun hc0=>?_) (fun hc0=>?_)
 ·refine .sr fun _ hK4=>?_
  refine .v (.fieldAddr fd24_0 rfl) (.v (.loadBox on3 rfl bsp rfl) (.v (.fieldAddr fd24_0 rfl) (.v (.loadBox on3 rfl bsp rfl) ?_)))
  refine AK.call co112 rfl (fun w hw=>s_cmpi w a.op b.op) trivial rfl ?_
  rintro r o ⟨rfl,rfl⟩
  refine .as rfl (.nt hK4 (.ret (.then_ret ?_)))
  refine AK.ret1 rfl rfl (fun w hw=>⟨_,_,?_,rfl,Ret.of (hw.pick [] (by decide) rfl rfl)⟩)
  refine ⟨congrArg (Value.int .i64) ?_,rfl⟩
  rw [cmpX_eq,if_pos hc0];exact cmpI_Z _ _
 ·refine .skip ?_
  refine AK.then_ (hK2 _ ?_)
  refine .seq fun _ hK5=>?_
  refine .sr fun _ hK6=>?_
  refine .v (.fieldAddr fd24_1 rfl) (.v (.loadBox on3 rfl bsp rfl) (.v (.fieldAddr fd24_1 rfl) (.v (.loadBox on3 rfl bsp rfl) (.v (.neq rfl rfl) (.nt hK6 ?_)))))
  refine AK.condNe rfl (fun hc1=>?_) (fun hc1=>?_)
  ·refine .sr fun _ hK7=>?_
   refine .v (.fieldAddr fd24_1 rfl) (.v (.loadBox on3 rfl bsp rfl) (.v (.fieldAddr fd24_1 rfl) (.v (.loadBox on3 rfl bsp rfl) ?_)))
   refine AK.call co112 rfl (fun w hw=>s_cmpi w a.lt b.lt) trivial rfl ?_
   rintro r o ⟨rfl,rfl⟩
   refine .as rfl (.nt hK7 (.ret (.then_ret ?_)))
   refine AK.ret1 rfl rfl (fun w hw=>⟨_,_,?_,rfl,Ret.of (hw.pick [] (by decide) rfl rfl)⟩)
   refine ⟨congrArg (Value.int .i64) ?_,rfl⟩
   rw [cmpX_eq,if_neg (not_not_intro hc0),if_pos hc1];exact cmpI_Z _ _
  ·refine .skip ?_
   refine AK.then_ (hK5 _ ?_)
   refine .sr fun _ hK8=>?_
   refine .v (.fieldAddr fd24_2 rfl) (.v (.loadBox on22 rfl bsp rfl) (.v (.fieldAddr fd24_2 rfl) (.v (.loadBox on22 rfl bsp rfl) ?_)))
   refine AK.call co132 rfl (fun w hw=>s_cmpl w a.kids b.kids s t ss ts hl hl2 (fun i hi=>(hk i hi).sl) (fun i hi=>(hk2 i hi).sl) (hr.mono fun b _ hlt=>⟨id,hw.frame.block b hlt id⟩) (hr2.mono fun b _ hlt=>⟨id,hw.frame.block b hlt id⟩) 80 co80 (fun w' hfr i hi hi2=>ih i hi _ w' _ _ (((hk i hi).at hw).fr hfr) (((hk2 i hi2).at hw).fr hfr))) trivial rfl ?_
   rintro r o ⟨rfl,rfl⟩
   refine .as rfl (.nt hK8 (.ret ?_))
   refine AK.ret1 rfl rfl (fun w hw=>⟨_,_,?_,rfl,Ret.of (hw.pick [] (by decide) rfl rfl)⟩)
   refine ⟨congrArg (Value.int .i64) ?_,rfl⟩
   rw [cmpX_eq,if_neg (not_not_intro hc0),if_neg (not_not_intro hc1)]
theorem s_cmpx (a:Ex):CmpS a:=Ex.ind (P:=CmpS) (fun a ih b w s t h h2=>s_cmpx_step a ih b w s t h h2) a
theorem s_eqx (w:World) (a b:Ex) (s t:Value) (h:RdK (cellR (fun _=>False) w) s a.kids) (h2:RdK (cellR (fun _=>False) w) t b.kids):CallS Tryz.prog 205 [.agg #[.int .i64 a.op,.int .i64 a.lt,s],.agg #[.int .i64 b.op,.int .i64 b.lt,t]] w (fun r o=>r = .bool (eqX a b)∧o=[]):=by
 have hs:=h.sl
 have ht:=h2.sl
 refine spec_of Tryz.func205 rfl (leb rfl) ?_
 refine .sr fun _ hK1=>?_
 refine AK.box_ (E:=24) (cs:=[.int .i64 a.op,.int .i64 a.lt,s]) rfl rfl rfl trivial rfl (fun bx2=>?_)
 refine AK.box_ (E:=24) (cs:=[.int .i64 b.op,.int .i64 b.lt,t]) rfl rfl rfl trivial rfl (fun bx3=>?_)
 refine .as rfl (.nt hK1 ?_)
 refine .sr fun _ hK2=>?_
 refine .v (.loadBoxG ag24 rfl bsp rfl rfl) (.v (.loadBoxG ag24 rfl bsp rfl rfl) ?_)
 refine AK.call co80 rfl (fun w hw=>s_cmpx a b w s t (h.at hw) (h2.at hw)) trivial rfl ?_
 rintro r o ⟨rfl,rfl⟩
 refine .v (.eql rfl rfl) (.as rfl (.nt hK2 (.ret ?_)))
 refine AK.ret1 rfl rfl (fun w hw=>⟨_,_,?_,rfl,Ret.of (hw.pick [] (by decide) rfl rfl)⟩)
 exact ⟨rfl,rfl⟩
theorem s_insort1 (w:World) (s f:Value) (a b:Int) (ha:0≤a∧a≤4611686018427387904) (hb:b≤a+1):CallS Tryz.prog 184 [s,.int .i64 a,.int .i64 b,f] w (fun r o=>o=[]):=by
 refine spec_of Tryz.func184 rfl (leb rfl) ?_
 refine .sr fun _ hK1=>?_
 refine .mv rfl ?_
 refine .v (.add rfl rfl (by omega)) ?_
 refine .as rfl (.nt hK1 (.block ?_))
 refine AK.loopK (X:=Unit) [(0,_),(1,_),(2,_),(3,_)] (fun x=>[(8,.int .i64 (a+1))]) (fun x=>[]) (fun x=>True) (fun x=>0) (()) slr ?_ ?_ ?_ ?_
 ·trivial
 ·exact slr
 ·exact fun w hw=>hw
 ·intro x hg0 _ hK2
  refine .seq fun _ hK3=>?_
  refine .sr fun _ hK4=>?_
  refine .mv rfl (.mv rfl (.v (.lss rfl rfl) (.nt hK4 ?_)))
  refine AK.cond_f rfl (decide_eq_false (by omega)) ?_
  refine .exit (.then_exit (.then_exit (.block_exit ?_)))
  refine AK.endG [] rfl (.nil) (fun w hw=>⟨_,_,?_,rfl,Ret.of (hw.pick [] (by decide) rfl rfl)⟩)
  rfl
theorem s_pdq1 (w:World) (s f:Value) (n lm:Int) (hb:0≤n∧n≤1):CallS Tryz.prog 168 [s,.int .i64 0,.int .i64 n,.int .i64 lm,f] w (fun r o=>o=[]):=by
 refine spec_of Tryz.func168 rfl (leb rfl) ?_
 refine .sr fun _ hK1=>?_
 refine .as rfl (.nt hK1 ?_)
 refine .sr fun _ hK2=>?_
 refine .as rfl (.nt hK2 (.block ?_))
 refine AK.loopK (X:=Unit) [(0,_),(4,_)] (fun x=>[(1,.int .i64 0),(2,.int .i64 n),(3,.int .i64 lm),(10,.bool true),(11,.bool true)]) (fun x=>[]) (fun x=>True) (fun x=>0) (()) slr ?_ ?_ ?_ ?_
 ·trivial
 ·exact slr
 ·exact fun w hw=>hw
 ·intro x hg0 _ hK3
  refine .block ?_
  refine .sr fun _ hK4=>?_
  refine .mv rfl (.mv rfl ?_)
  refine .v (.sub rfl rfl (by omega)) ?_
  refine .as rfl (.nt hK4 ?_)
  refine .seq fun _ hK5=>?_
  refine .sr fun _ hK6=>?_
  refine .mv rfl (.v (.leq rfl rfl) (.nt hK6 ?_))
  refine AK.cond_t rfl (decide_eq_true (by omega)) ?_
  refine .sr fun _ hK7=>?_
  refine .mv rfl (.mv rfl (.mv rfl (.mv rfl ?_)))
  refine AK.call co184 rfl (fun w hw=>s_insort1 w s f 0 n (by omega) (by omega)) trivial rfl ?_
  rintro r o rfl
  refine .nt hK7 (.ret (.then_ret (.block_ret (.then_ret (.block_ret ?_)))))
  refine AK.retG [] rfl (.nil) (fun w hw=>⟨_,_,?_,rfl,Ret.of (hw.pick [] (by decide) rfl rfl)⟩)
  rfl
theorem s_sort1 (w:World) (s f:Value) (n:Nat) (cs:List Value) (hn:n≤1) (hr:Rd (fun b=>¬ (fun _=>False) b) w s 3 n cs):CallS Tryz.prog 126 [s,f] w (fun r o=>o=[]):=by
 refine spec_of Tryz.func126 rfl (leb rfl) ?_
 refine .sr fun _ hK1=>?_
 refine .mv rfl (.v (.lenR sl22 rfl rdp) (.as rfl (.nt hK1 ?_)))
 refine AK.region ?_
 refine .mv rfl (.mv rfl (.mv rfl ?_))
 refine .v (.convI (by kernel_rfl) un130 rfl (wrap_u64 (by omega))) ?_
 refine AK.call co110 rfl (fun w hw=>callS_pureT (Tryz.bits_Len _ w (by omega) (by omega)) (φ:=fun r o=>r = .int .i64 (Lib.bitLen ((n:Int)).toNat)∧o=[]) ⟨rfl,rfl⟩) trivial rfl ?_
 rintro r o ⟨rfl,rfl⟩
 refine .mv rfl ?_
 refine AK.call co168 rfl (fun w hw=>s_pdq1 w s f n _ (by omega)) trivial rfl ?_
 rintro r o rfl
 refine .nil ?_
 refine AK.endG [] rfl (.nil) (fun w hw=>⟨_,_,?_,rfl,Ret.of (hw.pick [] (by decide) rfl rfl)⟩)
 rfl
theorem enters_co {P:Program} {g:FuncId} (h:CallOk P g) (args:Array Value) (w:World):(callFunc g args).run P w = .ok (.enter g args) w:=by
 obtain ⟨fn,h1,h2,h3⟩:=h.fn
 have h2':¬ fn.name = "runtime.NumGoroutine":=by simpa using h2
 have h3':¬ fn.body=none:=by intro e;simp [e] at h3
 simp [callFunc,h1,h2',h3']
theorem sortK_x:SortK Tryz.prog 126 80 [] 3:=fun enc hk h1 cf hO blk off cap d w hcmp hH hb hs=>
 Tryz.slices_SortFunc_f126 3 (fun w=>run_isAgg_agg ag24 w) (fun w=>run_sizeOf_of ag24.2 w) enc hk h1 cf hO 80 #[] blk off cap d w (enters_co co80) hcmp hH hb hs
theorem s_sortx (w:World) (F:Nat→Prop) (s:Value) (ks:List Ex) (ss:List Value) (hl:ss.length=ks.length) (hn:ks.length≤1073741824) (hA:(row s 24 3 ks.length (xcs ks ss)).holds w F) (hk:∀ i,i<ks.length→RdK (cellR F w) (ss.getD i undef) (ks.getD i default).kids) :
  CallM Tryz.prog 126 [s,.func (.func 80) #[] #[]] w F (fun r A o=>∃ ss',A=row s 24 3 ks.length (xcs (sortX ks) ss')∧o=[]∧PSub (sortX ks) ss' ks ss):=by
 by_cases h0:ks.length=0
 ·have h:=(s_sort1 w s (.func (.func 80) #[] #[]) ks.length (xcs ks ss) (by omega) ((row_rd hA).mono fun b _ _=>⟨id,rfl⟩)).toM hA
  refine Calls.mono h ?_
  rintro e w' ⟨v,A,own',⟨rfl,rfl⟩,h2,h3⟩
  refine ⟨v,_,[],⟨ss,by rw [sortX_short h0],rfl,by rw [sortX_short h0];exact PSub.rfl hl⟩,h2,h3⟩
 ·have h:=sort_trees sortK_x (fun a b w s t=>s_cmpx a b w s t) w F s ks ss hl (by omega) hA hk
  refine Calls.mono h ?_
  rintro e w' ⟨v,A,own',⟨ss',_,h4,h5,h6⟩,h2,h3⟩
  exact ⟨v,A,own',⟨ss',h4,h5,h6⟩,h2,h3⟩
set_option maxHeartbeats 2000000 in
theorem s_compact (w:World) (F:Nat→Prop) (f:FuncId) (hco:CallOk Tryz.prog f) (s:Value) (ks:List Ex) (ss:List Value) (hl:ss.length=ks.length) (hsl:∀ i,i<ks.length→IsSl (ss.getD i undef)) (hA:(row s 24 3 ks.length (xcs ks ss)).holds w F) (hf:∀ w',FrameX F w w'→∀ i j,i<ks.length→j<ks.length→CallS Tryz.prog f [.agg #[.int .i64 (ks.getD i default).op,.int .i64 (ks.getD i default).lt,ss.getD i undef],.agg #[.int .i64 (ks.getD j default).op,.int .i64 (ks.getD j default).lt,ss.getD j undef]] w' (fun r o=>r = .bool (eqX (ks.getD i default) (ks.getD j default))∧o=[])):CallM Tryz.prog 127 [s,.func (.func f) #[] #[]] w F (fun r A o=>∃ ss',IsSl r∧A=row r 24 3 (compX ks).length (xcs (compX ks) ss')∧o=[]∧PSub (compX ks) ss' ks ss):=by
 have hsv:=row_sl hA
 have hm:=(row_rd hA).le
 refine specM_of Tryz.func127 rfl (leb rfl) hA ?_
 refine .sr fun _ hK1=>?_
 refine .as rfl (.nt hK1 ?_)
 refine .seq fun _ hK2=>?_
 refine .sr fun _ hK3=>?_
 refine .mv rfl (.v (.lenR sl22 rfl rdp) (.v (.lss rfl rfl) (.nt hK3 ?_)))
 refine AK.condD rfl (fun hc0=>?_) (fun hc0=>?_)
 ·refine .sr fun _ hK4=>?_
  refine .mv rfl (.as rfl (.nt hK4 (.ret (.then_ret ?_))))
  refine AK.ret1 rfl rfl (fun w hw=>⟨_,_,_,?_,rfl,Ret.of (hw.pick [0] (by decide) rfl rfl)⟩)
  rw [compX_short (by omega)]
  exact ⟨ss,hsv,rfl,rfl,PSub.rfl hl⟩
 ·refine .skip ?_
  refine AK.then_ (hK2 _ ?_)
  refine .seq fun _ hK5=>?_
  refine .sr fun _ hK6=>?_
  refine .as rfl (.nt hK6 (.block ?_))
  refine AK.loopK (X:=Nat) [(0,_),(1,_)] (fun k=>[(5,.int .i64 (k:Int))]) (fun k=>[row s 24 3 ks.length (xcs ks ss)]) (fun k=>1≤k∧k≤ks.length∧∀ i,0<i→i<k→eqX (ks.getD i default) (ks.getD (i - 1) default)=false) (fun k=>ks.length - k) (1) slr ?_ ?_ ?_ ?_
  ·exact ⟨Nat.le_refl _,by omega,fun i h1 h2=>by omega⟩
  ·exact slr
  ·exact fun w hw=>hw
  ·intro k hg0 _ hK7
   refine .seq fun _ hK8=>?_
   refine .sr fun _ hK9=>?_
   refine .mv rfl (.mv rfl (.v (.lenR sl22 rfl rdp) (.v (.lss rfl rfl) (.nt hK9 ?_))))
   refine AK.condD rfl (fun hc1=>?_) (fun hc1=>?_)
   ·have hkl:k<ks.length:=by omega
    refine .skip ?_
    refine AK.then_ (hK8 _ ?_)
    refine .seq fun _ hK10=>?_
    refine .block ?_
    refine .seq fun _ hK11=>?_
    refine AK.joinK (X:=Unit) [(0,_),(1,_),(5,_)] (fun z=>[(28,.bool (eqX (ks.getD k default) (ks.getD (k - 1) default)))]) (fun z=>[row s 24 3 ks.length (xcs ks ss)]) (fun z=>True) slr (fun _ hJ=>?_) (fun z hg=>?_)
    ·try (conv=>enter [2,2];simp only [nrm])
     refine AK.held 11 mixed ?_
     refine HeldK.first 0 (fuel:=10) (listed':=(lb 11 1)) _ rfl krf krf rfl (Yl.move rfl) trivial rfl ?_
     refine HeldK.first 1 (fuel:=9) (listed':=(lb 11 3)) _ rfl krf krf rfl (Yl.move rfl) trivial rfl ?_
     refine HeldK.first 2 (fuel:=8) (listed':=(lb 11 7)) _ rfl krf krf rfl (Yl.move rfl) trivial rfl ?_
     first | refine HeldK.first 3 (fuel:=7) (listed':=(lb 11 15)) _ rfl krf krf rfl (.iN sl22 rfl rfl) trivial rfl ?_ | refine HeldK.first 3 (fuel:=7) (listed':=(lb 11 15)) _ rfl krf krf rfl (.iK sl22 rfl rfl) trivial rfl ?_
     refine HeldK.first 4 (fuel:=6) (listed':=(lb 11 31)) _ rfl krf krf rfl (Yl.loadE ag24 rfl rdp (by assumption) rfl (by omega)) trivial rfl ?_
     refine HeldK.first 5 (fuel:=5) (listed':=(lb 11 63)) _ rfl krf krf rfl (Yl.move rfl) trivial rfl ?_
     refine HeldK.first 6 (fuel:=4) (listed':=(lb 11 127)) _ rfl krf krf rfl (Yl.move rfl) trivial rfl ?_
     refine HeldK.first 7 (fuel:=3) (listed':=(lb 11 255)) _ rfl krf krf rfl (Yl.subE (((k - 1:Nat):Int)) rfl rfl (by omega) (by omega)) trivial rfl ?_
     first | refine HeldK.first 8 (fuel:=2) (listed':=(lb 11 511)) _ rfl krf krf rfl (.iN sl22 rfl rfl) trivial rfl ?_ | refine HeldK.first 8 (fuel:=2) (listed':=(lb 11 511)) _ rfl krf krf rfl (.iK sl22 rfl rfl) trivial rfl ?_
     refine HeldK.first 9 (fuel:=1) (listed':=(lb 11 1023)) _ rfl krf krf rfl (Yl.loadE ag24 rfl rdp (by assumption) rfl (by omega)) trivial rfl ?_
     refine HeldK.one 10 (fuel:=0) (listed':=(lb 11 2047)) krf rfl krf ?_
     refine AK.callV (us:=[]) (cs:=[]) hco rfl rfl (fun w hw=>hf w hw.frame k (k - 1) (by omega) (by omega)) trivial rfl ?_
     rintro r o ⟨rfl,rfl⟩
     refine .nil ?_
     try (conv=>enter [2,2];simp only [nrm])
     refine HeldK.back Go.Sx.hle ?_
     refine HeldK.done krf ?_
     exact hJ _ _ (()) trivial (slr) (fun w hw=>by first | exact hw.pickLe [0] (by decide) pkl)
    ·skip
     refine AK.then_ (hK11 _ ?_)
     refine AK.cond rfl (fun hc2=>?_) (fun hc2=>?_)
     ·try simp only [bs] at hc2
      refine .sr fun _ hK12=>?_
      refine .mv rfl (.mv rfl ?_)
      refine .v (.sliceFr (CutS.row 0 rfl) sl22 rfl rfl (by omega)) ?_
      refine .as rfl (.nt hK12 ?_)
      refine .seq fun _ hK13=>?_
      refine .sr fun _ hK14=>?_
      refine .as rfl (.nt hK14 (.block ?_))
      refine AK.loopK (X:=Nat × Nat × List Ex × List Value) [(0,_),(1,_),(6,_)] (fun x=>[(5,.int .i64 (x.2.1:Int)),(7,.int .i64 ((x.1 - k:Nat):Int))]) (fun x=>[row s 24 3 ks.length (xcs x.2.2.1 x.2.2.2)]) (fun x=>CpI ks ss x.1 x.2.1 x.2.2.1 x.2.2.2∧k<x.1) (fun x=>ks.length - x.1) ((k+1,k,ks,ss)) slr ?_ ?_ ?_ ?_
      ·exact ⟨CpI.start hl (by omega) (by omega) hg0.2.2 hc2,by dsimp only;omega⟩
      ·exact .cons (rfl) (.cons (slI rfl (by dsimp only;omega)) (slr))
      ·exact fun w hw=>hw
      ·intro x hg1 _ hK15
       have hl1:=hg1.1.len
       have hl2:=hg1.1.slen
       have hlt:=hg1.1.lt
       have hle:=hg1.1.le
       refine .seq fun _ hK16=>?_
       refine .sr fun _ hK17=>?_
       refine .mv rfl (.mv rfl ?_)
       refine .v (.lenR sl22 rfl (RdS.xfr (a:=k) (RdS.own 0 rfl) (CutS.row 0 rfl) (by rw [hg1.1.slen]) (by omega))) ?_
       refine .v (.lss rfl rfl) (.nt hK17 ?_)
       refine AK.condD rfl (fun hc3=>?_) (fun hc3=>?_)
       ·refine .skip ?_
        refine AK.then_ (hK16 _ ?_)
        refine .seq fun _ hK18=>?_
        refine .block ?_
        refine .seq fun _ hK19=>?_
        refine AK.joinK (X:=Unit) [(0,_),(1,_),(5,_),(6,_),(7,_)] (fun z=>[(49,.bool (!eqX (ks.getD x.1 default) (ks.getD (x.1 - 1) default)))]) (fun z=>[row s 24 3 ks.length (xcs x.2.2.1 x.2.2.2)]) (fun z=>True) slr (fun _ hJ=>?_) (fun z hg=>?_)
        ·try (conv=>enter [2,2];simp only [nrm])
         refine AK.held 12 mixed ?_
         refine HeldK.first 0 (fuel:=11) (listed':=(lb 12 1)) _ rfl krf krf rfl (Yl.move rfl) trivial rfl ?_
         refine HeldK.first 1 (fuel:=10) (listed':=(lb 12 3)) _ rfl krf krf rfl (Yl.move rfl) trivial rfl ?_
         refine HeldK.first 2 (fuel:=9) (listed':=(lb 12 7)) _ rfl krf krf rfl (Yl.move rfl) trivial rfl ?_
         refine HeldK.first 3 (fuel:=8) (listed':=(lb 12 15)) _ rfl krf krf rfl (.iN sl22 rfl rfl (hr:=(RdS.xfr (a:=k) (RdS.own 0 rfl) (CutS.row 0 rfl) (by rw [hg1.1.slen]) (by omega)))) trivial rfl ?_
         refine HeldK.first 4 (fuel:=7) (listed':=(lb 12 31)) _ rfl krf krf rfl (Yl.valE (v':=.agg #[.int .i64 (ks.getD x.1 default).op,.int .i64 (ks.getD x.1 default).lt,ss.getD x.1 undef]) (Yl.loadE ag24 rfl (RdS.xfr (a:=k) (RdS.own 0 rfl) (CutS.row 0 rfl) (by rw [hg1.1.slen]) (by omega)) (by simp [hl2,hl1]) (by simp [hl1]) (by omega)) (by rw [(hg1.1.rd (by omega) (by omega)).1,(hg1.1.rd (by omega) (by omega)).2])) trivial rfl ?_
         refine HeldK.first 5 (fuel:=6) (listed':=(lb 12 63)) _ rfl krf krf rfl (Yl.move rfl) trivial rfl ?_
         refine HeldK.first 6 (fuel:=5) (listed':=(lb 12 127)) _ rfl krf krf rfl (Yl.move rfl) trivial rfl ?_
         refine HeldK.first 7 (fuel:=4) (listed':=(lb 12 255)) _ rfl krf krf rfl (Yl.subE (((x.1 - 1 - k:Nat):Int)) rfl rfl (by omega) (by omega)) trivial rfl ?_
         refine HeldK.first 8 (fuel:=3) (listed':=(lb 12 511)) _ rfl krf krf rfl (.iN sl22 rfl rfl (hr:=(RdS.xfr (a:=k) (RdS.own 0 rfl) (CutS.row 0 rfl) (by rw [hg1.1.slen]) (by omega)))) trivial rfl ?_
         refine HeldK.first 9 (fuel:=2) (listed':=(lb 12 1023)) _ rfl krf krf rfl (Yl.valE (v':=.agg #[.int .i64 (ks.getD (x.1 - 1) default).op,.int .i64 (ks.getD (x.1 - 1) default).lt,ss.getD (x.1 - 1) undef]) (Yl.loadE ag24 rfl (RdS.xfr (a:=k) (RdS.own 0 rfl) (CutS.row 0 rfl) (by rw [hg1.1.slen]) (by omega)) (by simp [hl2,hl1]) (by simp [hl1]) (by omega)) (by rw [(hg1.1.rd (by omega) (by omega)).1,(hg1.1.rd (by omega) (by omega)).2])) trivial rfl ?_
         refine HeldK.one 10 (fuel:=1) (listed':=(lb 12 2047)) krf rfl krf ?_
         refine AK.callV (us:=[]) (cs:=[]) hco rfl rfl (fun w hw=>hf w hw.frame x.1 (x.1 - 1) (by omega) (by omega)) trivial rfl ?_
         rintro r o ⟨rfl,rfl⟩
         refine .nil ?_
         try (conv=>enter [2,2];simp only [nrm])
         refine HeldK.back Go.Sx.hle ?_
         refine HeldK.first 11 (fuel:=0) (listed':=(lb 12 4095)) _ rfl krf krf rfl (Yl.not rfl) trivial rfl ?_
         refine HeldK.done krf ?_
         exact hJ _ _ (()) trivial (slr) (fun w hw=>by first | exact hw.pickLe [0] (by decide) pkl)
        ·skip
         refine AK.then_ (hK19 _ ?_)
         refine AK.condB rfl (fun hc4=>?_) (fun hc4=>?_)
         ·refine .sr fun _ hK20=>?_
          refine .mv rfl (.mv rfl (.mv rfl (.mv rfl ?_)))
          refine .v (.iN sl22 rfl rfl (hr:=(RdS.xfr (a:=k) (RdS.own 0 rfl) (CutS.row 0 rfl) (by rw [hg1.1.slen]) (by omega)))) ?_
          refine .v (.valE (v':=.agg #[.int .i64 (ks.getD x.1 default).op,.int .i64 (ks.getD x.1 default).lt,ss.getD x.1 undef]) (Yl.loadE ag24 rfl (RdS.xfr (a:=k) (RdS.own 0 rfl) (CutS.row 0 rfl) (by rw [hg1.1.slen]) (by omega)) (by simp [hl2,hl1]) (by simp [hl1]) (by omega)) (by rw [(hg1.1.rd (by omega) (by omega)).1,(hg1.1.rd (by omega) (by omega)).2])) ?_
          first | refine .v (.iN sl22 rfl rfl) ?_ | refine .v (.iK sl22 rfl rfl) ?_
          refine AK.storeG 0 rfl sz24 rfl rfl rfl rfl (one'_cons rfl (one'_cons rfl (one'_cons (IsSl.one (hsl x.1 (by omega))) one'_nil))) (by omega) (cs':=xcs (x.2.2.1.set x.2.1 (ks.getD x.1 default)) (x.2.2.2.set x.2.1 (ss.getD x.1 undef))) (xcs_set _ _ _ hl2 (by omega) _ _) trivial ?_
          refine .nt hK20 ?_
          refine AK.region ?_
          refine .mv rfl ?_
          refine .v (.add rfl rfl (by omega)) ?_
          refine .as rfl (.nil (.block_normal ?_))
          refine AK.then_ (hK18 _ ?_)
          refine AK.region ?_
          refine .mv rfl ?_
          refine .v (.add rfl rfl (by omega)) ?_
          refine .as rfl (.nil ?_)
          refine AK.then_ (hK15 _ _ ((x.1+1,x.2.1+1,x.2.2.1.set x.2.1 (ks.getD x.1 default),x.2.2.2.set x.2.1 (ss.getD x.1 undef))) ⟨hg1.1.keep (by omega) hc4,by dsimp only;omega⟩ (by dsimp only;omega) (.cons (rfl) (.cons (slI rfl (by dsimp only;omega)) (slr))) (fun w hw=>hw.pick [0] (by decide) rfl rfl))
         ·refine .skip (.block_normal ?_)
          refine AK.then_ (hK18 _ ?_)
          refine AK.region ?_
          refine .mv rfl ?_
          refine .v (.add rfl rfl (by omega)) ?_
          refine .as rfl (.nil ?_)
          refine AK.then_ (hK15 _ _ ((x.1+1,x.2.1,x.2.2.1,x.2.2.2)) ⟨hg1.1.drop (by omega) hc4,by dsimp only;omega⟩ (by dsimp only;omega) (.cons (rfl) (.cons (slI rfl (by dsimp only;omega)) (slr))) (fun w hw=>hw.pick [0] (by decide) rfl rfl))
       ·refine .exit (.then_exit (.then_exit (.block_exit ?_)))
        refine AK.then_ (hK13 _ ?_)
        refine .sr fun _ hK21=>?_
        refine .mv rfl (.mv rfl ?_)
        refine .v (.sliceFr (CutS.row 0 rfl) sl22 rfl rfl (by omega)) ?_
        refine AK.clearE 0 (ks:=x.2.2.1) (ss:=x.2.2.2) rfl sl22 el24 rfl (by omega) hl2 (by omega) trivial (fun cs hcs=>?_)
        refine .nt hK21 ?_
        refine .sr fun _ hK22=>?_
        refine .mv rfl (.mv rfl ?_)
        refine .v (.sliceTo 0 rfl sl22 rfl rfl (by omega)) ?_
        refine .as rfl (.nt hK22 (.ret (.block_ret (.then_ret (.then_ret (.block_ret (.then_ret ?_)))))))
        refine AK.reslice 0 x.2.1 rfl (by omega) ?_
        refine AK.ret1 rfl rfl (fun w hw=>⟨_,_,_,?_,rfl,Ret.of (hw.pick [0] (by decide) rfl rfl)⟩)
        have hx1:x.1=ks.length:=by omega
        have hcp:=hg1.1
        rw [hx1] at hcp
        obtain ⟨ps,e1,e2⟩:=hcp.psub
        have hcs':cs.take (x.2.1 * 3)=xcs (x.2.2.1.take x.2.1) (x.2.2.2.take x.2.1):=hcs
        rw [e1] at hcs'
        refine ⟨x.2.2.2.take x.2.1,slTo_sl _ hsv,?_,rfl,ps⟩
        rw [hcs',← e2]
        rfl
     ·try simp only [bs] at hc2
      refine .skip (.block_normal ?_)
      refine AK.then_ (hK10 _ ?_)
      refine AK.region ?_
      refine .mv rfl ?_
      refine .v (.add rfl rfl (by omega)) ?_
      refine .as rfl (.nil ?_)
      refine AK.then_ (hK7 _ _ (k+1) ⟨by omega,by omega,fun i h1 h2=>by rcases Nat.lt_or_ge i k with h3 | h3;exact hg0.2.2 i h1 h3;obtain rfl:i=k:=(by omega);exact hc2⟩ (by omega) (slr) (fun w hw=>hw.pick [0] (by decide) rfl rfl))
   ·refine .exit (.then_exit (.then_exit (.block_exit ?_)))
    refine AK.then_ (hK5 _ ?_)
    refine .sr fun _ hK23=>?_
    refine .mv rfl (.as rfl (.nt hK23 (.ret ?_)))
    refine AK.ret1 rfl rfl (fun w hw=>⟨_,_,_,?_,rfl,Ret.of (hw.pick [0] (by decide) rfl rfl)⟩)
    have hk1:k=ks.length:=by omega
    rw [hk1] at hg0
    rw [compX_none hg0.2.2]
    exact ⟨ss,hsv,rfl,rfl,PSub.rfl hl⟩
theorem s_ordered (w:World) (F:Nat→Prop) (s:Value) (ks:List Ex) (ss:List Value) (hl:ss.length=ks.length) (hn:ks.length≤1073741824) (ks':List Ex) (ho:ordE ks=some ks') (hA:(row s 24 3 ks.length (xcs ks ss)).holds w F) (hk:∀ i,i<ks.length→RdK (cellR F w) (ss.getD i undef) (ks.getD i default).kids):CallM Tryz.prog 195 [s] w F (fun r A o=>∃ ss',IsSl r∧A=row r 24 3 ks'.length (xcs ks' ss')∧o=[]∧PSub ks' ss' ks ss):=by
 have hsv:=row_sl hA
 have hso:compX (sortX ks)=ks':=Option.some.inj ho
 subst hso
 refine specM_of Tryz.func195 rfl (leb rfl) hA ?_
 refine .sr fun _ hK1=>?_
 refine .as rfl (.nt hK1 ?_)
 refine .sr fun _ hK2=>?_
 refine .mv rfl ?_
 refine AK.callN 0 rfl co126 rfl (fun w Fs hw hh hfr hal=>s_sortx w (Fs 0) s ks ss hl hn (hh.at_ 0 _ rfl) (fun i hi=>(hk i hi).atN hfr hal 0)) trivial rfl ?_
 rintro r A o ⟨ss1,rfl,rfl,ps1⟩
 refine .nt hK2 ?_
 refine .sr fun _ hK3=>?_
 refine .mv rfl ?_
 refine AK.callN 0 rfl co127 rfl (fun w Fs hw hh hfr hal=>s_compact w (Fs 0) 205 co205 s (sortX ks) ss1 ps1.len (ps1.sls fun i hi=>(hk i hi).sl) (by rw [sortX_len];exact hh.at_ 0 _ rfl) (fun w' hfr2 i j hi hj=>by obtain ⟨a,a1,a2,a3⟩:=ps1.at_ i hi;obtain ⟨b,b1,b2,b3⟩:=ps1.at_ j hj;rw [a2,a3,b2,b3];exact s_eqx w' _ _ _ _ (((hk a a1).atN hfr hal 0).fr hfr2).wk (((hk b b1).atN hfr hal 0).fr hfr2).wk)) trivial rfl ?_
 rintro r A o ⟨ss2,sv2,rfl,rfl,ps2⟩
 refine .as rfl (.nt hK3 (.ret ?_))
 refine AK.ret1 rfl rfl (fun w hw=>⟨_,_,_,?_,rfl,Ret.of (hw.pick [0] (by decide) rfl rfl)⟩)
 exact ⟨ss2,sv2,rfl,rfl,ps2.trans ps1⟩
end Go.Proofs.YtbibnpdnmmgacaaGreatDoor
namespace Go.Proofs.YtbibnpdnmmgacaaGreatDoor
open Go.Sx Go.RowKit
set_option maxHeartbeats 800000 in
theorem s_joinc (w:World) (F:Nat→Prop) (B:Bs) (l:List Itm) (hB:BsOk B w F) (hA:(forest B l).holds w F) (s:Value) (ks:List Ex) (hm:Itm.deep s ks∈l) (j:Ex) (hj:joinC ks=some j):CallM Tryz.prog 173 [s] w F (fun r A o=>∃ sr l',r = .agg #[.int .i64 j.op,.int .i64 j.lt,sr]∧IsSl sr∧A=forest B l'∧(∀ x∈l,x∈l')∧Itm.deep sr j.kids∈l'∧o=[]):=by
 refine specM_of Tryz.func173 rfl (leb rfl) hA ?_
 refine AK.open2 0 rfl hm fun l1 ss tss h2=>?_
 refine .sr fun _ hK1=>?_
 refine AK.alloc el24 rfl rfl trivial rfl (fun bx2=>?_)
 refine .nt hK1 ?_
 refine .seq fun _ hK2=>?_
 refine .sr fun _ hK3=>?_
 refine .mv rfl ?_
 refine AK.call co105 rfl (fun w hw=>s_contains w 171 co171 isEmptyE s ks ss h2.o.len h2.o.sls ((RdS.tree hB 0 rfl h2.o.rw w hw).mono fun b _ _=>⟨id,rfl⟩) (fun w' hfr i hi=>s_isempty w' _ _)) trivial rfl ?_
 rintro r o ⟨rfl,rfl⟩
 refine .nt hK3 ?_
 refine AK.cond rfl (fun hc0=>?_) (fun hc0=>?_)
 ·try simp only [bs] at hc0
  unfold joinC at hj
  rw [hc0] at hj
  simp only [if_true] at hj
  cases hj
  refine .sr fun _ hK4=>?_
  refine AK.call co196 rfl (fun w hw=>s_empty w) trivial rfl ?_
  rintro r o ⟨rfl,rfl⟩
  refine AK.storeBox 1 (us:=[.int .i64 emptyE.op,.int .i64 emptyE.lt,nilV]) (cs':=[.int .i64 emptyE.op,.int .i64 emptyE.lt,nilV]) rfl sz24 rfl rfl rfl rfl oneP (leb rfl) rfl trivial ?_
  refine .nt hK4 (.ret (.then_ret ?_))
  refine AK.add' 0 (.deep nilV []) rfl (fun R=>RdK.nil R) (fun l2 hs2 hm2=>?_)
  refine AK.retG [.cell 2 24] rfl (.cons (.cell ag24 rfl bsp rfl rfl) (.nil)) (fun w hw=>⟨_,_,_,?_,rfl,Ret.of (hw.pick [0] (by decide) rfl rfl)⟩)
  exact ⟨nilV,l2,rfl,nilSl,rfl,fun x hx=>hs2 _ (h2.o.sub x hx),hm2,rfl⟩
 ·try simp only [bs] at hc0
  unfold joinC at hj
  rw [hc0] at hj
  simp only [Bool.false_eq_true,if_false] at hj
  obtain ⟨p,hp,hj⟩:=bind_some hj
  obtain ⟨rfl,hlim⟩:=lim_some hp
  cases hj
  refine .skip ?_
  refine AK.then_ (hK2 _ ?_)
  refine .sr fun _ hK5=>?_
  refine .mv rfl ?_
  refine AK.call co193 rfl (fun w hw=>s_flatten w 5 s ks ss tss h2.o.len h2.tl (fun i hi=>(h2.each i hi).len) ((RdS.tree hB 0 rfl h2.o.rw w hw).mono fun b _ _=>⟨id,rfl⟩) (fun i hi=>((RdS.tree hB 0 rfl (h2.each i hi).rw w hw).mono fun b _ _=>⟨id,rfl⟩)) h2.o.sls (fun i hi j hj=>(h2.each i hi).sls j hj) hlim) trivial rfl ?_
  rintro pv o ⟨spv,rfl⟩
  refine AK.callN 2 rfl co129 rfl (fun w Fs hw hh hfr hal=>s_delete w (Fs 2) 197 co197 isUnitE pv (flatE 5 ks) (flatS 5 ks ss tss) (h2.flat 5).1 (fun i hi=>((h2.flat 5).2 i hi).2) (hh.at_ 2 _ rfl) (fun w' hfr2 i hi=>s_isunit w' _ _)) trivial rfl ?_
  rintro v2 A o ⟨ss2,sv2,rfl,rfl,ps⟩
  refine .as rfl (.nt hK5 ?_)
  refine .sr fun _ hK6=>?_
  refine .mv rfl ?_
  refine AK.call co175 rfl (fun w hw=>s_unit w) trivial rfl ?_
  rintro r o ⟨rfl,rfl⟩
  refine AK.call co194 rfl (fun w hw=>s_collect w 5 v2 _ ss2 ps.len ((RdS.own 2 rfl w hw).mono fun b _ _=>⟨id,rfl⟩) unitE nilV (ps.sls fun i hi=>((h2.flat 5).2 i hi).2) nilSl) trivial rfl ?_
  rintro r o ⟨sr,rfl,ssr,rfl,hcase⟩
  refine AK.storeBox 1 (us:=[.int .i64 (collectE 5 ((flatE 5 ks).filter fun e=>!isUnitE e) unitE).op,.int .i64 (collectE 5 ((flatE 5 ks).filter fun e=>!isUnitE e) unitE).lt,sr]) (cs':=[.int .i64 (collectE 5 ((flatE 5 ks).filter fun e=>!isUnitE e) unitE).op,.int .i64 (collectE 5 ((flatE 5 ks).filter fun e=>!isUnitE e) unitE).lt,sr]) rfl sz24 rfl rfl rfl rfl oneP (leb rfl) rfl trivial ?_
  refine .nt hK6 (.ret ?_)
  refine AK.close' 0 2 _ ss2 (by decide) rfl rfl rfl rfl ps.len (ps.deep fun k hk=>((h2.flat 5).2 k hk).1) (fun l2 hs2 hm2 hr2=>?_)
  refine AK.add' 0 (.deep nilV []) rfl (fun R=>RdK.nil R) (fun l3 hs3 hm3=>?_)
  refine AK.retG [.cell 2 24] rfl (.cons (.cell ag24 rfl bsp rfl rfl) (.nil)) (fun w hw=>⟨_,_,_,?_,rfl,Ret.of (hw.pick [0] (by decide) rfl rfl)⟩)
  exact ⟨sr,l3,rfl,ssr,rfl,fun x hx=>hs3 _ (hs2 _ (h2.o.sub x hx)),collect_deep (fun k hk=>hs3 _ (hs2 _ (ps.deep (fun k hk=>((h2.flat 5).2 k hk).1) k hk))) (hs3 _ hm2) hm3 hcase,rfl⟩
set_option maxHeartbeats 800000 in
theorem s_joinu (w:World) (F:Nat→Prop) (B:Bs) (l:List Itm) (hB:BsOk B w F) (hA:(forest B l).holds w F) (s:Value) (ks:List Ex) (hm:Itm.deep s ks∈l) (j:Ex) (hj:joinU ks=some j):CallM Tryz.prog 172 [s] w F (fun r A o=>∃ sr l',r = .agg #[.int .i64 j.op,.int .i64 j.lt,sr]∧IsSl sr∧A=forest B l'∧(∀ x∈l,x∈l')∧Itm.deep sr j.kids∈l'∧o=[]):=by
 refine specM_of Tryz.func172 rfl (leb rfl) hA ?_
 refine AK.open2 0 rfl hm fun l1 ss tss h2=>?_
 refine .sr fun _ hK1=>?_
 refine AK.alloc el24 rfl rfl trivial rfl (fun bx2=>?_)
 refine .nt hK1 ?_
 refine .seq fun _ hK2=>?_
 refine .sr fun _ hK3=>?_
 refine .mv rfl ?_
 refine AK.call co105 rfl (fun w hw=>s_contains w 142 co142 isUnivE s ks ss h2.o.len h2.o.sls ((RdS.tree hB 0 rfl h2.o.rw w hw).mono fun b _ _=>⟨id,rfl⟩) (fun w' hfr i hi=>s_isuniv w' _ _ ((hw.kidR hB 0 rfl (h2.o.kid i hi)).fr hfr))) trivial rfl ?_
 rintro r o ⟨rfl,rfl⟩
 refine .nt hK3 ?_
 refine AK.cond rfl (fun hc0=>?_) (fun hc0=>?_)
 ·try simp only [bs] at hc0
  unfold joinU at hj
  rw [hc0] at hj
  simp only [if_true] at hj
  cases hj
  refine .sr fun _ hK4=>?_
  refine AK.call co192 rfl (fun w hw=>s_univ w) trivial rfl ?_
  rintro r o ⟨us,rfl,rfl⟩
  refine AK.shape 2 rfl (fun sus=>?_)
  refine AK.storeBox 1 (us:=[.int .i64 univE.op,.int .i64 univE.lt,us]) (cs':=[.int .i64 univE.op,.int .i64 univE.lt,us]) rfl sz24 rfl rfl rfl rfl oneP (leb rfl) rfl trivial ?_
  refine .nt hK4 (.ret (.then_ret ?_))
  refine AK.add' 0 (.deep nilV []) rfl (fun R=>RdK.nil R) (fun l2 hs2 hm2=>?_)
  refine AK.close' 0 2 [emptyE] [nilV] (by decide) rfl rfl rfl rfl rfl (one_deep hm2) (fun l3 hs3 hm3 hr3=>?_)
  refine AK.retG [.cell 2 24] rfl (.cons (.cell ag24 rfl bsp rfl rfl) (.nil)) (fun w hw=>⟨_,_,_,?_,rfl,Ret.of (hw.pick [0] (by decide) rfl rfl)⟩)
  exact ⟨us,l3,rfl,sus,rfl,fun x hx=>hs3 _ (hs2 _ (h2.o.sub x hx)),hm3,rfl⟩
 ·try simp only [bs] at hc0
  unfold joinU at hj
  rw [hc0] at hj
  simp only [Bool.false_eq_true,if_false] at hj
  obtain ⟨p,hp,hj⟩:=bind_some hj
  obtain ⟨rfl,hlim⟩:=lim_some hp
  obtain ⟨q,hq,hj⟩:=bind_some hj
  cases hj
  refine .skip ?_
  refine AK.then_ (hK2 _ ?_)
  refine .sr fun _ hK5=>?_
  refine .mv rfl ?_
  refine AK.call co193 rfl (fun w hw=>s_flatten w 4 s ks ss tss h2.o.len h2.tl (fun i hi=>(h2.each i hi).len) ((RdS.tree hB 0 rfl h2.o.rw w hw).mono fun b _ _=>⟨id,rfl⟩) (fun i hi=>((RdS.tree hB 0 rfl (h2.each i hi).rw w hw).mono fun b _ _=>⟨id,rfl⟩)) h2.o.sls (fun i hi j hj=>(h2.each i hi).sls j hj) hlim) trivial rfl ?_
  rintro pv o ⟨spv,rfl⟩
  refine AK.callN 2 rfl co129 rfl (fun w Fs hw hh hfr hal=>s_delete w (Fs 2) 171 co171 isEmptyE pv (flatE 4 ks) (flatS 4 ks ss tss) (h2.flat 4).1 (fun i hi=>((h2.flat 4).2 i hi).2) (hh.at_ 2 _ rfl) (fun w' hfr2 i hi=>s_isempty w' _ _)) trivial rfl ?_
  rintro v2 A o ⟨ss2,sv2,rfl,rfl,ps⟩
  refine .as rfl (.nt hK5 ?_)
  refine .sr fun _ hK6=>?_
  refine .mv rfl ?_
  refine AK.callN 2 rfl co195 rfl (fun w Fs hw hh hfr hal=>s_ordered w (Fs 2) v2 _ ss2 ps.len (by have:=ps.le;omega) q hq (hh.at_ 2 _ rfl) (fun i hi=>hh.kidR hB 0 2 (by decide) rfl (ps.deep (fun k hk=>((h2.flat 4).2 k hk).1) i hi) hfr hal)) trivial rfl ?_
  rintro v3 A o ⟨ss3,sv3,rfl,rfl,ps3⟩
  refine AK.call co196 rfl (fun w hw=>s_empty w) trivial rfl ?_
  rintro r o ⟨rfl,rfl⟩
  refine AK.call co194 rfl (fun w hw=>s_collect w 4 v3 _ ss3 ps3.len ((RdS.own 2 rfl w hw).mono fun b _ _=>⟨id,rfl⟩) emptyE nilV ((ps3.trans ps).sls fun i hi=>((h2.flat 4).2 i hi).2) nilSl) trivial rfl ?_
  rintro r o ⟨sr,rfl,ssr,rfl,hcase⟩
  refine AK.storeBox 1 (us:=[.int .i64 (collectE 4 q emptyE).op,.int .i64 (collectE 4 q emptyE).lt,sr]) (cs':=[.int .i64 (collectE 4 q emptyE).op,.int .i64 (collectE 4 q emptyE).lt,sr]) rfl sz24 rfl rfl rfl rfl oneP (leb rfl) rfl trivial ?_
  refine .nt hK6 (.ret ?_)
  refine AK.close' 0 2 _ ss3 (by decide) rfl rfl rfl rfl ps3.len ((ps3.trans ps).deep fun k hk=>((h2.flat 4).2 k hk).1) (fun l2 hs2 hm2 hr2=>?_)
  refine AK.add' 0 (.deep nilV []) rfl (fun R=>RdK.nil R) (fun l3 hs3 hm3=>?_)
  refine AK.retG [.cell 2 24] rfl (.cons (.cell ag24 rfl bsp rfl rfl) (.nil)) (fun w hw=>⟨_,_,_,?_,rfl,Ret.of (hw.pick [0] (by decide) rfl rfl)⟩)
  exact ⟨sr,l3,rfl,ssr,rfl,fun x hx=>hs3 _ (hs2 _ (h2.o.sub x hx)),collect_deep (fun k hk=>hs3 _ (hs2 _ ((ps3.trans ps).deep (fun k hk=>((h2.flat 4).2 k hk).1) k hk))) (hs3 _ hm2) hm3 hcase,rfl⟩
set_option maxHeartbeats 800000 in
theorem s_joina (w:World) (F:Nat→Prop) (B:Bs) (l:List Itm) (hB:BsOk B w F) (hA:(forest B l).holds w F) (s:Value) (ks:List Ex) (hm:Itm.deep s ks∈l) (j:Ex) (hj:joinA ks=some j):CallM Tryz.prog 174 [s] w F (fun r A o=>∃ sr l',r = .agg #[.int .i64 j.op,.int .i64 j.lt,sr]∧IsSl sr∧A=forest B l'∧(∀ x∈l,x∈l')∧Itm.deep sr j.kids∈l'∧o=[]):=by
 refine specM_of Tryz.func174 rfl (leb rfl) hA ?_
 refine AK.open2 0 rfl hm fun l1 ss tss h2=>?_
 refine .sr fun _ hK1=>?_
 refine AK.alloc el24 rfl rfl trivial rfl (fun bx2=>?_)
 refine .nt hK1 ?_
 refine .seq fun _ hK2=>?_
 refine .sr fun _ hK3=>?_
 refine .mv rfl ?_
 refine AK.call co105 rfl (fun w hw=>s_contains w 171 co171 isEmptyE s ks ss h2.o.len h2.o.sls ((RdS.tree hB 0 rfl h2.o.rw w hw).mono fun b _ _=>⟨id,rfl⟩) (fun w' hfr i hi=>s_isempty w' _ _)) trivial rfl ?_
 rintro r o ⟨rfl,rfl⟩
 refine .nt hK3 ?_
 refine AK.cond rfl (fun hc0=>?_) (fun hc0=>?_)
 ·try simp only [bs] at hc0
  unfold joinA at hj
  rw [hc0] at hj
  simp only [if_true] at hj
  cases hj
  refine .sr fun _ hK4=>?_
  refine AK.call co196 rfl (fun w hw=>s_empty w) trivial rfl ?_
  rintro r o ⟨rfl,rfl⟩
  refine AK.storeBox 1 (us:=[.int .i64 emptyE.op,.int .i64 emptyE.lt,nilV]) (cs':=[.int .i64 emptyE.op,.int .i64 emptyE.lt,nilV]) rfl sz24 rfl rfl rfl rfl oneP (leb rfl) rfl trivial ?_
  refine .nt hK4 (.ret (.then_ret ?_))
  refine AK.add' 0 (.deep nilV []) rfl (fun R=>RdK.nil R) (fun l2 hs2 hm2=>?_)
  refine AK.retG [.cell 2 24] rfl (.cons (.cell ag24 rfl bsp rfl rfl) (.nil)) (fun w hw=>⟨_,_,_,?_,rfl,Ret.of (hw.pick [0] (by decide) rfl rfl)⟩)
  exact ⟨nilV,l2,rfl,nilSl,rfl,fun x hx=>hs2 _ (h2.o.sub x hx),hm2,rfl⟩
 ·try simp only [bs] at hc0
  unfold joinA at hj
  rw [hc0] at hj
  simp only [Bool.false_eq_true,if_false] at hj
  obtain ⟨p,hp,hj⟩:=bind_some hj
  obtain ⟨rfl,hlim⟩:=lim_some hp
  obtain ⟨q,hq,hj⟩:=bind_some hj
  cases hj
  refine .skip ?_
  refine AK.then_ (hK2 _ ?_)
  refine .sr fun _ hK5=>?_
  refine .mv rfl ?_
  refine AK.call co193 rfl (fun w hw=>s_flatten w 6 s ks ss tss h2.o.len h2.tl (fun i hi=>(h2.each i hi).len) ((RdS.tree hB 0 rfl h2.o.rw w hw).mono fun b _ _=>⟨id,rfl⟩) (fun i hi=>((RdS.tree hB 0 rfl (h2.each i hi).rw w hw).mono fun b _ _=>⟨id,rfl⟩)) h2.o.sls (fun i hi j hj=>(h2.each i hi).sls j hj) hlim) trivial rfl ?_
  rintro pv o ⟨spv,rfl⟩
  refine AK.callN 2 rfl co129 rfl (fun w Fs hw hh hfr hal=>s_delete w (Fs 2) 142 co142 isUnivE pv (flatE 6 ks) (flatS 6 ks ss tss) (h2.flat 6).1 (fun i hi=>((h2.flat 6).2 i hi).2) (hh.at_ 2 _ rfl) (fun w' hfr2 i hi=>s_isuniv w' _ _ ((hh.kidR hB 0 2 (by decide) rfl ((h2.flat 6).2 i hi).1 hfr hal).fr hfr2).wk)) trivial rfl ?_
  rintro v2 A o ⟨ss2,sv2,rfl,rfl,ps⟩
  refine .as rfl (.nt hK5 ?_)
  refine .sr fun _ hK6=>?_
  refine .mv rfl ?_
  refine AK.callN 2 rfl co195 rfl (fun w Fs hw hh hfr hal=>s_ordered w (Fs 2) v2 _ ss2 ps.len (by have:=ps.le;omega) q hq (hh.at_ 2 _ rfl) (fun i hi=>hh.kidR hB 0 2 (by decide) rfl (ps.deep (fun k hk=>((h2.flat 6).2 k hk).1) i hi) hfr hal)) trivial rfl ?_
  rintro v3 A o ⟨ss3,sv3,rfl,rfl,ps3⟩
  refine AK.call co192 rfl (fun w hw=>s_univ w) trivial rfl ?_
  rintro r o ⟨us,rfl,rfl⟩
  refine AK.shape 3 rfl (fun sus=>?_)
  refine AK.call co194 rfl (fun w hw=>s_collect w 6 v3 _ ss3 ps3.len ((RdS.own 2 rfl w hw).mono fun b _ _=>⟨id,rfl⟩) univE us ((ps3.trans ps).sls fun i hi=>((h2.flat 6).2 i hi).2) sus) trivial rfl ?_
  rintro r o ⟨sr,rfl,ssr,rfl,hcase⟩
  refine AK.storeBox 1 (us:=[.int .i64 (collectE 6 q univE).op,.int .i64 (collectE 6 q univE).lt,sr]) (cs':=[.int .i64 (collectE 6 q univE).op,.int .i64 (collectE 6 q univE).lt,sr]) rfl sz24 rfl rfl rfl rfl oneP (leb rfl) rfl trivial ?_
  refine .nt hK6 (.ret ?_)
  refine AK.close' 0 2 _ ss3 (by decide) rfl rfl rfl rfl ps3.len ((ps3.trans ps).deep fun k hk=>((h2.flat 6).2 k hk).1) (fun l2 hs2 hm2 hr2=>?_)
  refine AK.add' 0 (.deep nilV []) rfl (fun R=>RdK.nil R) (fun l3 hs3 hm3=>?_)
  refine AK.close' 0 3 [emptyE] [nilV] (by decide) rfl rfl rfl rfl rfl (one_deep hm3) (fun l4 hs4 hm4 hr4=>?_)
  refine AK.retG [.cell 2 24] rfl (.cons (.cell ag24 rfl bsp rfl rfl) (.nil)) (fun w hw=>⟨_,_,_,?_,rfl,Ret.of (hw.pick [0] (by decide) rfl rfl)⟩)
  exact ⟨sr,l4,rfl,ssr,rfl,fun x hx=>hs4 _ (hs3 _ (hs2 _ (h2.o.sub x hx))),collect_deep (fun k hk=>hs4 _ (hs3 _ (hs2 _ ((ps3.trans ps).deep (fun k hk=>((h2.flat 6).2 k hk).1) k hk)))) (hs4 _ (hs3 _ hm2)) hm4 hcase,rfl⟩
end Go.Proofs.YtbibnpdnmmgacaaGreatDoor
namespace Go.Proofs.YtbibnpdnmmgacaaGreatDoor
open Go.Sx Go.RowKit
set_option maxHeartbeats 2000000 in
theorem s_join (w:World) (F:Nat→Prop) (B:Bs) (l:List Itm) (hB:BsOk B w F) (hA:(forest B l).holds w F) (op:Int) (s:Value) (ks:List Ex) (hm:Itm.deep s ks∈l) (j:Ex) (hj:joinE op ks=some j):CallM Tryz.prog 150 [.int .i64 op,s] w F (fun r A o=>∃ sr l',r = .agg #[.int .i64 j.op,.int .i64 j.lt,sr]∧IsSl sr∧A=forest B l'∧(∀ x∈l,x∈l')∧Itm.deep sr j.kids∈l'∧o=[]):=by
 refine specM_of Tryz.func150 rfl (leb rfl) hA ?_
 refine AK.open2 0 rfl hm fun l1 ss tss h2=>?_
 have hmx:=h2.o.mx'
 refine .sr fun _ hK1=>?_
 refine AK.alloc el24 rfl rfl trivial rfl (fun bx4=>?_)
 refine .nt hK1 ?_
 refine .seq fun _ hK2=>?_
 refine .sr fun _ hK3=>?_
 refine .mv rfl (.nt hK3 (.block ?_))
 refine .sr fun _ hK4=>?_
 refine .v (.eql rfl rfl) (.as rfl (.nt hK4 ?_))
 refine AK.condD rfl (fun hc0=>?_) (fun hc0=>?_)
 ·refine .sr fun _ hK5=>?_
  refine .mv rfl ?_
  refine AK.callN 0 rfl co172 rfl (fun w Fs hw hh hfr hal=>s_joinu w (Fs 0) B l1 (hB.later hfr hal 0) (hh.at_ 0 _ rfl) s ks (h2.o.sub _ hm) j (by rw [joinE,if_pos hc0] at hj;exact hj)) trivial rfl ?_
  rintro r A o ⟨sr,l2,rfl,ssr,rfl,hs2,hm2,rfl⟩
  refine AK.storeBox 1 (us:=[.int .i64 j.op,.int .i64 j.lt,sr]) (cs':=[.int .i64 j.op,.int .i64 j.lt,sr]) rfl sz24 rfl rfl rfl rfl oneP (leb rfl) rfl trivial ?_
  refine .nt hK5 (.ret (.block_ret (.then_ret ?_)))
  refine AK.retG [.cell 4 24] rfl (.cons (.cell ag24 rfl bsp rfl rfl) (.nil)) (fun w hw=>⟨_,_,_,?_,rfl,Ret.of (hw.pick [0] (by decide) rfl rfl)⟩)
  exact ⟨sr,l2,rfl,ssr,rfl,fun x hx=>hs2 _ (h2.o.sub x hx),hm2,rfl⟩
 ·refine .sr fun _ hK6=>?_
  refine .v (.eql rfl rfl) (.as rfl (.nt hK6 ?_))
  refine AK.condD rfl (fun hc1=>?_) (fun hc1=>?_)
  ·refine .sr fun _ hK7=>?_
   refine .mv rfl ?_
   refine AK.callN 0 rfl co173 rfl (fun w Fs hw hh hfr hal=>s_joinc w (Fs 0) B l1 (hB.later hfr hal 0) (hh.at_ 0 _ rfl) s ks (h2.o.sub _ hm) j (by rw [joinE,if_neg hc0,if_pos hc1] at hj;exact hj)) trivial rfl ?_
   rintro r A o ⟨sr,l2,rfl,ssr,rfl,hs2,hm2,rfl⟩
   refine AK.storeBox 1 (us:=[.int .i64 j.op,.int .i64 j.lt,sr]) (cs':=[.int .i64 j.op,.int .i64 j.lt,sr]) rfl sz24 rfl rfl rfl rfl oneP (leb rfl) rfl trivial ?_
   refine .nt hK7 (.ret (.block_ret (.then_ret ?_)))
   refine AK.retG [.cell 4 24] rfl (.cons (.cell ag24 rfl bsp rfl rfl) (.nil)) (fun w hw=>⟨_,_,_,?_,rfl,Ret.of (hw.pick [0] (by decide) rfl rfl)⟩)
   exact ⟨sr,l2,rfl,ssr,rfl,fun x hx=>hs2 _ (h2.o.sub x hx),hm2,rfl⟩
  ·refine .sr fun _ hK8=>?_
   refine .v (.eql rfl rfl) (.as rfl (.nt hK8 ?_))
   refine AK.condD rfl (fun hc2=>?_) (fun hc2=>?_)
   ·refine .sr fun _ hK9=>?_
    refine .mv rfl ?_
    refine AK.callN 0 rfl co174 rfl (fun w Fs hw hh hfr hal=>s_joina w (Fs 0) B l1 (hB.later hfr hal 0) (hh.at_ 0 _ rfl) s ks (h2.o.sub _ hm) j (by rw [joinE,if_neg hc0,if_neg hc1,if_pos hc2] at hj;exact hj)) trivial rfl ?_
    rintro r A o ⟨sr,l2,rfl,ssr,rfl,hs2,hm2,rfl⟩
    refine AK.storeBox 1 (us:=[.int .i64 j.op,.int .i64 j.lt,sr]) (cs':=[.int .i64 j.op,.int .i64 j.lt,sr]) rfl sz24 rfl rfl rfl rfl oneP (leb rfl) rfl trivial ?_
    refine .nt hK9 (.ret (.block_ret (.then_ret ?_)))
    refine AK.retG [.cell 4 24] rfl (.cons (.cell ag24 rfl bsp rfl rfl) (.nil)) (fun w hw=>⟨_,_,_,?_,rfl,Ret.of (hw.pick [0] (by decide) rfl rfl)⟩)
    exact ⟨sr,l2,rfl,ssr,rfl,fun x hx=>hs2 _ (h2.o.sub x hx),hm2,rfl⟩
   ·refine .skip (.block_normal ?_)
    refine AK.then_ (hK2 _ ?_)
    refine .seq fun _ hK10=>?_
    refine .sr fun _ hK11=>?_
    refine .mv rfl ?_
    refine .v (.lenR sl22 rfl (by first | exact rdp | exact RdS.tree hB 0 rfl h2.o.rw | exact RdS.tree hB 0 rfl h20.rw)) ?_
    refine .v (.neq rfl rfl) (.nt hK11 ?_)
    refine AK.condNe rfl (fun hc3=>?_) (fun hc3=>?_)
    ·rw [joinE,if_neg hc0,if_neg hc1,if_neg hc2,if_neg (by omega)] at hj
     cases hj
     refine .sr fun _ hK12=>?_
     refine .v (.build (parts:=[]) (cs:=#[.int .i64 0,.int .i64 0,.slice none 0 0]) rfl (by kernel_rfl)) ?_
     refine AK.storeBox 1 (us:=[.int .i64 e0.op,.int .i64 e0.lt,nilV]) (cs':=[.int .i64 e0.op,.int .i64 e0.lt,nilV]) rfl sz24 rfl rfl rfl rfl oneP (leb rfl) rfl trivial ?_
     refine .nt hK12 (.ret (.then_ret ?_))
     refine AK.add' 0 (.deep nilV []) rfl (fun R=>RdK.nil R) (fun l2 hs2 hm2=>?_)
     refine AK.retG [.cell 4 24] rfl (.cons (.cell ag24 rfl bsp rfl rfl) (.nil)) (fun w hw=>⟨_,_,_,?_,rfl,Ret.of (hw.pick [0] (by decide) rfl rfl)⟩)
     exact ⟨nilV,l2,rfl,nilSl,rfl,fun x hx=>hs2 _ (h2.o.sub x hx),hm2,rfl⟩
    ·have hk1:ks.length=1:=by omega
     rw [joinE,if_neg hc0,if_neg hc1,if_neg hc2,if_pos hk1] at hj
     cases hj
     have h20:=h2.each 0 (by omega)
     have hmx0:=h20.mx'
     have sk:=h2.o.sls 0 (by omega)
     refine .skip ?_
     refine AK.then_ (hK10 _ ?_)
     refine .sr fun _ hK13=>?_
     refine .mv rfl ?_
     refine .v (.idxN (k:=0) sl22 rfl rfl (by first | exact rdp | exact RdS.tree hB 0 rfl h2.o.rw | exact RdS.tree hB 0 rfl h20.rw) (by decide) (by omega)) ?_
     refine .v (.loadE ag24 rfl (by first | exact rdp | exact RdS.tree hB 0 rfl h2.o.rw | exact RdS.tree hB 0 rfl h20.rw) (h2.o.len) rfl (by omega)) ?_
     refine AK.alloc el24 rfl rfl trivial rfl (fun bx5=>?_)
     refine AK.storeBox 2 (us:=[.int .i64 (ks.getD 0 default).op,.int .i64 (ks.getD 0 default).lt,ss.getD 0 undef]) (cs':=[.int .i64 (ks.getD 0 default).op,.int .i64 (ks.getD 0 default).lt,ss.getD 0 undef]) rfl sz24 rfl rfl rfl rfl oneP (leb rfl) rfl trivial ?_
     refine .nt hK13 ?_
     refine .seq fun _ hK14=>?_
     refine .sr fun _ hK15=>?_
     refine .mv rfl (.nt hK15 (.block ?_))
     refine .sr fun _ hK16=>?_
     refine .v (.eql rfl rfl) (.as rfl (.nt hK16 ?_))
     refine AK.condD rfl (fun hc4=>?_) (fun hc4=>?_)
     ·refine .seq fun _ hK17=>?_
      refine .sr fun _ hK18=>?_
      refine .v (.fieldAddr fd24_0 rfl) (.v (.loadBox on3 rfl bsp rfl) (.v (.eql rfl rfl) (.mv rfl ?_)))
      refine AK.splitB (g:=32) rfl (fun hg_13_3=>?_) (fun hg_13_3=>?_)
      ·have hg_13_3':=hg_13_3
       try simp only [bs] at hg_13_3'
       refine AK.val _ (Yl.fieldAddr fd24_2 rfl) ⟨_,rfl,gB hg_13_3⟩ rfl ?_
       refine AK.val _ (Yl.loadBox on22 rfl bsp rfl) ⟨_,rfl,gB hg_13_3⟩ rfl ?_
       refine AK.val _ (Yl.lenR sl22 rfl (by first | exact rdp | exact RdS.tree hB 0 rfl h2.o.rw | exact RdS.tree hB 0 rfl h20.rw)) ⟨_,rfl,gB hg_13_3⟩ rfl ?_
       refine AK.val _ (Yl.eql rfl rfl) ⟨_,rfl,gB hg_13_3⟩ rfl ?_
       refine .v (.pickT rfl (hg_13_3) rfl) (.nt hK18 ?_)
       refine AK.condD rfl (fun hc5=>?_) (fun hc5=>?_)
       ·have hkk:(ks.getD 0 default).op=8∧(ks.getD 0 default).kids.length=1:=⟨hg_13_3',by omega⟩
        have sk0:=h20.sls 0 (by omega)
        refine .sr fun _ hK19=>?_
        refine .v (.fieldAddr fd24_2 rfl) (.v (.loadBox on22 rfl bsp rfl) ?_)
        refine .v (.idxN (k:=0) sl22 rfl rfl (by first | exact rdp | exact RdS.tree hB 0 rfl h2.o.rw | exact RdS.tree hB 0 rfl h20.rw) (by decide) (by omega)) ?_
        refine .v (.loadE ag24 rfl (by first | exact rdp | exact RdS.tree hB 0 rfl h2.o.rw | exact RdS.tree hB 0 rfl h20.rw) (h20.len) rfl (by omega)) ?_
        refine AK.storeBox 1 (us:=[.int .i64 ((ks.getD 0 default).kids.getD 0 default).op,.int .i64 ((ks.getD 0 default).kids.getD 0 default).lt,(tss.getD 0 []).getD 0 undef]) (cs':=[.int .i64 ((ks.getD 0 default).kids.getD 0 default).op,.int .i64 ((ks.getD 0 default).kids.getD 0 default).lt,(tss.getD 0 []).getD 0 undef]) rfl sz24 rfl rfl rfl rfl oneP (leb rfl) rfl trivial ?_
        refine .nt hK19 (.ret (.then_ret (.block_ret (.then_ret ?_))))
        refine AK.retG [.cell 4 24] rfl (.cons (.cell ag24 rfl bsp rfl rfl) (.nil)) (fun w hw=>⟨_,_,_,?_,rfl,Ret.of (hw.pick [0] (by decide) rfl rfl)⟩)
        rw [show join1 op (ks.getD 0 default)=(ks.getD 0 default).kids.getD 0 default from by unfold join1;rw [if_pos hc4,if_pos hkk]]
        exact ⟨(tss.getD 0 []).getD 0 undef,l1,rfl,sk0,rfl,h2.o.sub,h20.kid 0 (by omega),rfl⟩
       ·refine .skip ?_
        refine AK.then_ (hK17 _ ?_)
        refine .sr fun _ hK20=>?_
        refine .v (.loadBoxG ag24 rfl bsp rfl rfl) ?_
        refine AK.lit (xs:=[.tmp 42]) sl22 el24 rfl rfl rfl (by simp [Value.cells]) (by decide) (by decide) trivial rfl (fun lv=>?_)
        refine AK.shape 3 rfl (fun slv=>?_)
        refine .v (.build (parts:=[(0,.const (.int .i64 8)),(2,.tmp 43)]) (cs:=#[.int .i64 8,.int .i64 0,lv]) rfl (by obtain ⟨_,_,_,rfl⟩:=slv;kernel_rfl)) ?_
        refine AK.storeBox 1 (us:=[.int .i64 8,.int .i64 0,lv]) (cs':=[.int .i64 8,.int .i64 0,lv]) rfl sz24 rfl rfl rfl rfl oneP (leb rfl) rfl trivial ?_
        refine .nt hK20 (.ret (.block_ret (.then_ret ?_)))
        refine AK.close' 0 3 [(ks.getD 0 default)] [ss.getD 0 undef] (by decide) rfl rfl rfl rfl rfl (one_deep (h2.o.kid 0 (by omega))) (fun l2 hs2 hm2 hr2=>?_)
        refine AK.retG [.cell 4 24] rfl (.cons (.cell ag24 rfl bsp rfl rfl) (.nil)) (fun w hw=>⟨_,_,_,?_,rfl,Ret.of (hw.pick [0] (by decide) rfl rfl)⟩)
        rw [show join1 op (ks.getD 0 default) = .mk 8 0 [(ks.getD 0 default)] from by unfold join1;rw [if_pos hc4,if_neg (by rintro ⟨a,b⟩;first | exact hg_13_3' a | omega)]]
        exact ⟨lv,l2,rfl,slv,rfl,fun x hx=>hs2 _ (h2.o.sub x hx),hm2,rfl⟩
      ·have hg_13_3':=hg_13_3
       try simp only [bs] at hg_13_3'
       refine AK.pass rfl rfl (hg_13_3) rfl ?_
       refine AK.pass rfl rfl (hg_13_3) rfl ?_
       refine AK.pass rfl rfl (hg_13_3) rfl ?_
       refine AK.pass rfl rfl (hg_13_3) rfl ?_
       refine .v (.pickF rfl (hg_13_3) rfl) (.nt hK18 ?_)
       refine AK.cond_f rfl (rfl) ?_
       refine .skip ?_
       refine AK.then_ (hK17 _ ?_)
       refine .sr fun _ hK21=>?_
       refine .v (.loadBoxG ag24 rfl bsp rfl rfl) ?_
       refine AK.lit (xs:=[.tmp 42]) sl22 el24 rfl rfl rfl (by simp [Value.cells]) (by decide) (by decide) trivial rfl (fun lv=>?_)
       refine AK.shape 3 rfl (fun slv=>?_)
       refine .v (.build (parts:=[(0,.const (.int .i64 8)),(2,.tmp 43)]) (cs:=#[.int .i64 8,.int .i64 0,lv]) rfl (by obtain ⟨_,_,_,rfl⟩:=slv;kernel_rfl)) ?_
       refine AK.storeBox 1 (us:=[.int .i64 8,.int .i64 0,lv]) (cs':=[.int .i64 8,.int .i64 0,lv]) rfl sz24 rfl rfl rfl rfl oneP (leb rfl) rfl trivial ?_
       refine .nt hK21 (.ret (.block_ret (.then_ret ?_)))
       refine AK.close' 0 3 [(ks.getD 0 default)] [ss.getD 0 undef] (by decide) rfl rfl rfl rfl rfl (one_deep (h2.o.kid 0 (by omega))) (fun l2 hs2 hm2 hr2=>?_)
       refine AK.retG [.cell 4 24] rfl (.cons (.cell ag24 rfl bsp rfl rfl) (.nil)) (fun w hw=>⟨_,_,_,?_,rfl,Ret.of (hw.pick [0] (by decide) rfl rfl)⟩)
       rw [show join1 op (ks.getD 0 default) = .mk 8 0 [(ks.getD 0 default)] from by unfold join1;rw [if_pos hc4,if_neg (by rintro ⟨a,b⟩;first | exact hg_13_3' a | omega)]]
       exact ⟨lv,l2,rfl,slv,rfl,fun x hx=>hs2 _ (h2.o.sub x hx),hm2,rfl⟩
     ·refine .sr fun _ hK22=>?_
      refine .v (.eql rfl rfl) (.as rfl (.nt hK22 ?_))
      refine AK.condD rfl (fun hc6=>?_) (fun hc6=>?_)
      ·refine .seq fun _ hK23=>?_
       refine .block ?_
       refine .sr fun _ hK24=>?_
       refine .v (.fieldAddr fd24_0 rfl) (.v (.loadBox on3 rfl bsp rfl) (.v (.eql rfl rfl) (.mv rfl ?_)))
       refine AK.splitB (g:=51) rfl (fun hg_17_3=>?_) (fun hg_17_3=>?_)
       ·have hg_17_3':=hg_17_3
        try simp only [bs] at hg_17_3'
        refine AK.pass rfl rfl (hg_17_3) rfl ?_
        refine AK.pass rfl rfl (hg_17_3) rfl ?_
        refine AK.pass rfl rfl (hg_17_3) rfl ?_
        refine .v (.pickT rfl (hg_17_3) rfl) (.as rfl (.nt hK24 ?_))
        refine AK.cond_t rfl (rfl) ?_
        refine .sr fun _ hK25=>?_
        refine AK.call co175 rfl (fun w hw=>s_unit w) trivial rfl ?_
        rintro r o ⟨rfl,rfl⟩
        refine AK.storeBox 1 (us:=[.int .i64 unitE.op,.int .i64 unitE.lt,nilV]) (cs':=[.int .i64 unitE.op,.int .i64 unitE.lt,nilV]) rfl sz24 rfl rfl rfl rfl oneP (leb rfl) rfl trivial ?_
        refine .nt hK25 (.ret (.block_ret (.then_ret (.block_ret (.then_ret ?_)))))
        refine AK.add' 0 (.deep nilV []) rfl (fun R=>RdK.nil R) (fun l2 hs2 hm2=>?_)
        refine AK.retG [.cell 4 24] rfl (.cons (.cell ag24 rfl bsp rfl rfl) (.nil)) (fun w hw=>⟨_,_,_,?_,rfl,Ret.of (hw.pick [0] (by decide) rfl rfl)⟩)
        rw [show join1 op (ks.getD 0 default)=unitE from by unfold join1;rw [if_neg hc4,if_pos hc6,if_pos (by first | exact .inl hg_17_3' | exact .inr hc7)]]
        exact ⟨nilV,l2,rfl,nilSl,rfl,fun x hx=>hs2 _ (h2.o.sub x hx),hm2,rfl⟩
       ·have hg_17_3':=hg_17_3
        try simp only [bs] at hg_17_3'
        refine AK.val _ (Yl.fieldAddr fd24_0 rfl) ⟨_,rfl,gB hg_17_3⟩ rfl ?_
        refine AK.val _ (Yl.loadBox on3 rfl bsp rfl) ⟨_,rfl,gB hg_17_3⟩ rfl ?_
        refine AK.val _ (Yl.eql rfl rfl) ⟨_,rfl,gB hg_17_3⟩ rfl ?_
        refine .v (.pickF rfl (hg_17_3) rfl) (.as rfl (.nt hK24 ?_))
        refine AK.condD rfl (fun hc7=>?_) (fun hc7=>?_)
        ·refine .sr fun _ hK26=>?_
         refine AK.call co175 rfl (fun w hw=>s_unit w) trivial rfl ?_
         rintro r o ⟨rfl,rfl⟩
         refine AK.storeBox 1 (us:=[.int .i64 unitE.op,.int .i64 unitE.lt,nilV]) (cs':=[.int .i64 unitE.op,.int .i64 unitE.lt,nilV]) rfl sz24 rfl rfl rfl rfl oneP (leb rfl) rfl trivial ?_
         refine .nt hK26 (.ret (.block_ret (.then_ret (.block_ret (.then_ret ?_)))))
         refine AK.add' 0 (.deep nilV []) rfl (fun R=>RdK.nil R) (fun l2 hs2 hm2=>?_)
         refine AK.retG [.cell 4 24] rfl (.cons (.cell ag24 rfl bsp rfl rfl) (.nil)) (fun w hw=>⟨_,_,_,?_,rfl,Ret.of (hw.pick [0] (by decide) rfl rfl)⟩)
         rw [show join1 op (ks.getD 0 default)=unitE from by unfold join1;rw [if_neg hc4,if_pos hc6,if_pos (by first | exact .inl hg_17_3' | exact .inr hc7)]]
         exact ⟨nilV,l2,rfl,nilSl,rfl,fun x hx=>hs2 _ (h2.o.sub x hx),hm2,rfl⟩
        ·refine .sr fun _ hK27=>?_
         refine .v (.fieldAddr fd24_0 rfl) (.v (.loadBox on3 rfl bsp rfl) (.v (.eql rfl rfl) (.mv rfl ?_)))
         refine AK.splitB (g:=61) rfl (fun hg_19_3=>?_) (fun hg_19_3=>?_)
         ·have hg_19_3':=hg_19_3
          try simp only [bs] at hg_19_3'
          refine AK.pass rfl rfl (hg_19_3) rfl ?_
          refine AK.pass rfl rfl (hg_19_3) rfl ?_
          refine .v (.pickT rfl (hg_19_3) rfl) (.as rfl (.nt hK27 ?_))
          refine AK.cond_t rfl (rfl) ?_
          refine .sr fun _ hK28=>?_
          refine .v (.loadBoxG ag24 rfl bsp rfl rfl) ?_
          refine AK.storeBox 1 (us:=[.int .i64 (ks.getD 0 default).op,.int .i64 (ks.getD 0 default).lt,ss.getD 0 undef]) (cs':=[.int .i64 (ks.getD 0 default).op,.int .i64 (ks.getD 0 default).lt,ss.getD 0 undef]) rfl sz24 rfl rfl rfl rfl oneP (leb rfl) rfl trivial ?_
          refine .nt hK28 (.ret (.block_ret (.then_ret (.block_ret (.then_ret ?_)))))
          refine AK.retG [.cell 4 24] rfl (.cons (.cell ag24 rfl bsp rfl rfl) (.nil)) (fun w hw=>⟨_,_,_,?_,rfl,Ret.of (hw.pick [0] (by decide) rfl rfl)⟩)
          rw [show join1 op (ks.getD 0 default)=(ks.getD 0 default) from by unfold join1;rw [if_neg hc4,if_pos hc6,if_neg (by rintro (h | h);exact hg_17_3' h;exact hc7 h),if_pos (by first | exact .inl hg_19_3' | exact .inr hc8)]]
          exact ⟨ss.getD 0 undef,l1,rfl,sk,rfl,h2.o.sub,h2.o.kid 0 (by omega),rfl⟩
         ·have hg_19_3':=hg_19_3
          try simp only [bs] at hg_19_3'
          refine AK.val _ (Yl.loadBoxG ag24 rfl bsp rfl rfl) ⟨_,rfl,gB hg_19_3⟩ rfl ?_
          refine AK.call co142 rfl (fun w hw=>s_isuniv w (ks.getD 0 default) _ (hw.kidR hB 0 rfl (h2.o.kid 0 (by omega)))) ⟨_,rfl,gB hg_19_3⟩ rfl ?_
          rintro r o ⟨rfl,rfl⟩
          refine .v (.pickF rfl (hg_19_3) rfl) (.as rfl (.nt hK27 ?_))
          refine AK.cond rfl (fun hc8=>?_) (fun hc8=>?_)
          ·try simp only [bs] at hc8
           refine .sr fun _ hK29=>?_
           refine .v (.loadBoxG ag24 rfl bsp rfl rfl) ?_
           refine AK.storeBox 1 (us:=[.int .i64 (ks.getD 0 default).op,.int .i64 (ks.getD 0 default).lt,ss.getD 0 undef]) (cs':=[.int .i64 (ks.getD 0 default).op,.int .i64 (ks.getD 0 default).lt,ss.getD 0 undef]) rfl sz24 rfl rfl rfl rfl oneP (leb rfl) rfl trivial ?_
           refine .nt hK29 (.ret (.block_ret (.then_ret (.block_ret (.then_ret ?_)))))
           refine AK.retG [.cell 4 24] rfl (.cons (.cell ag24 rfl bsp rfl rfl) (.nil)) (fun w hw=>⟨_,_,_,?_,rfl,Ret.of (hw.pick [0] (by decide) rfl rfl)⟩)
           rw [show join1 op (ks.getD 0 default)=(ks.getD 0 default) from by unfold join1;rw [if_neg hc4,if_pos hc6,if_neg (by rintro (h | h);exact hg_17_3' h;exact hc7 h),if_pos (by first | exact .inl hg_19_3' | exact .inr hc8)]]
           exact ⟨ss.getD 0 undef,l1,rfl,sk,rfl,h2.o.sub,h2.o.kid 0 (by omega),rfl⟩
          ·try simp only [bs] at hc8
           refine .skip (.block_normal ?_)
           refine AK.then_ (hK23 _ ?_)
           refine .sr fun _ hK30=>?_
           refine .v (.loadBoxG ag24 rfl bsp rfl rfl) ?_
           refine AK.lit (xs:=[.tmp 66]) sl22 el24 rfl rfl rfl (by simp [Value.cells]) (by decide) (by decide) trivial rfl (fun lv=>?_)
           refine AK.shape 3 rfl (fun slv=>?_)
           refine .v (.build (parts:=[(0,.const (.int .i64 7)),(2,.tmp 67)]) (cs:=#[.int .i64 7,.int .i64 0,lv]) rfl (by obtain ⟨_,_,_,rfl⟩:=slv;kernel_rfl)) ?_
           refine AK.storeBox 1 (us:=[.int .i64 7,.int .i64 0,lv]) (cs':=[.int .i64 7,.int .i64 0,lv]) rfl sz24 rfl rfl rfl rfl oneP (leb rfl) rfl trivial ?_
           refine .nt hK30 (.ret (.block_ret (.then_ret ?_)))
           refine AK.close' 0 3 [(ks.getD 0 default)] [ss.getD 0 undef] (by decide) rfl rfl rfl rfl rfl (one_deep (h2.o.kid 0 (by omega))) (fun l2 hs2 hm2 hr2=>?_)
           refine AK.retG [.cell 4 24] rfl (.cons (.cell ag24 rfl bsp rfl rfl) (.nil)) (fun w hw=>⟨_,_,_,?_,rfl,Ret.of (hw.pick [0] (by decide) rfl rfl)⟩)
           rw [show join1 op (ks.getD 0 default) = .mk 7 0 [(ks.getD 0 default)] from by unfold join1;rw [if_neg hc4,if_pos hc6,if_neg (by rintro (h | h);exact hg_17_3' h;exact hc7 h),if_neg (by rintro (h | h);exact hg_19_3' h;rw [hc8] at h;cases h)]]
           exact ⟨lv,l2,rfl,slv,rfl,fun x hx=>hs2 _ (h2.o.sub x hx),hm2,rfl⟩
      ·refine .skip (.block_normal ?_)
       refine AK.then_ (hK14 _ ?_)
       refine .sr fun _ hK31=>?_
       refine .v (.build (parts:=[]) (cs:=#[.int .i64 0,.int .i64 0,.slice none 0 0]) rfl (by kernel_rfl)) ?_
       refine AK.storeBox 1 (us:=[.int .i64 e0.op,.int .i64 e0.lt,nilV]) (cs':=[.int .i64 e0.op,.int .i64 e0.lt,nilV]) rfl sz24 rfl rfl rfl rfl oneP (leb rfl) rfl trivial ?_
       refine .nt hK31 (.ret ?_)
       refine AK.add' 0 (.deep nilV []) rfl (fun R=>RdK.nil R) (fun l2 hs2 hm2=>?_)
       refine AK.retG [.cell 4 24] rfl (.cons (.cell ag24 rfl bsp rfl rfl) (.nil)) (fun w hw=>⟨_,_,_,?_,rfl,Ret.of (hw.pick [0] (by decide) rfl rfl)⟩)
       rw [show join1 op (ks.getD 0 default)=e0 from by unfold join1;rw [if_neg hc4,if_neg hc6]]
       exact ⟨nilV,l2,rfl,nilSl,rfl,fun x hx=>hs2 _ (h2.o.sub x hx),hm2,rfl⟩
end Go.Proofs.YtbibnpdnmmgacaaGreatDoor
namespace Go.Proofs.YtbibnpdnmmgacaaGreatDoor
open Go.Sx Go.RowKit
def SimS (e:Ex):Prop:=∀ (w:World) (F:Nat→Prop) (B:Bs) (l:List Itm) (hB:BsOk B w F) (hA:(forest B l).holds w F) (s:Value) (hm:Itm.deep s e.kids∈l) (j:Ex) (hj:simpE e=some j),CallM Tryz.prog 100 [.agg #[.int .i64 e.op,.int .i64 e.lt,s]] w F (fun r A o=>∃ sr l',r = .agg #[.int .i64 j.op,.int .i64 j.lt,sr]∧IsSl sr∧A=forest B l'∧(∀ x∈l,x∈l')∧Itm.deep sr j.kids∈l'∧o=[])
set_option maxHeartbeats 2000000 in
theorem s_simp_step (e:Ex) (ih:∀ i,i<e.kids.length→SimS (e.kids.getD i default)) (w:World) (F:Nat→Prop) (B:Bs) (l:List Itm) (hB:BsOk B w F) (hA:(forest B l).holds w F) (s:Value) (hm:Itm.deep s e.kids∈l) (j:Ex) (hj:simpE e=some j):CallM Tryz.prog 100 [.agg #[.int .i64 e.op,.int .i64 e.lt,s]] w F (fun r A o=>∃ sr l',r = .agg #[.int .i64 j.op,.int .i64 j.lt,sr]∧IsSl sr∧A=forest B l'∧(∀ x∈l,x∈l')∧Itm.deep sr j.kids∈l'∧o=[]):=by
 refine specM_of Tryz.func100 rfl (leb rfl) hA ?_
 refine AK.open' 0 rfl hm fun l1 ss h2=>?_
 have hmx:=h2.mx'
 rw [simpE_eq] at hj
 refine .sr fun _ hK1=>?_
 refine AK.box_ (E:=24) (cs:=[.int .i64 e.op,.int .i64 e.lt,s]) rfl rfl rfl trivial rfl (fun bx1=>?_)
 refine AK.alloc el24 rfl rfl trivial rfl (fun bx2=>?_)
 refine .nt hK1 ?_
 refine .seq fun _ hK2=>?_
 refine .sr fun _ hK3=>?_
 refine .v (.fieldAddr fd24_2 rfl) (.v (.loadBox on22 rfl bsp rfl) ?_)
 refine .v (.lenR sl22 rfl (by first | exact rdp | exact RdS.tree hB 0 rfl h2.rw | exact RdS.tree hB 0 rfl (hg0.2.1 _ h2.rw))) ?_
 refine .v (.eql rfl rfl) (.nt hK3 ?_)
 refine AK.condD rfl (fun hc0=>?_) (fun hc0=>?_)
 ·rw [if_pos (by omega)] at hj
  cases hj
  refine .sr fun _ hK4=>?_
  refine .v (.fieldAddr fd24_0 rfl) (.v (.loadBox on3 rfl bsp rfl) (.v (.fieldAddr fd24_1 rfl) (.v (.loadBox on3 rfl bsp rfl) ?_)))
  refine .v (.build (parts:=[(0,.tmp 11),(1,.tmp 13)]) (cs:=#[.int .i64 e.op,.int .i64 e.lt,.slice none 0 0]) rfl (by kernel_rfl)) ?_
  refine AK.storeBox 2 (us:=[.int .i64 (Ex.mk e.op e.lt []).op,.int .i64 (Ex.mk e.op e.lt []).lt,nilV]) (cs':=[.int .i64 (Ex.mk e.op e.lt []).op,.int .i64 (Ex.mk e.op e.lt []).lt,nilV]) rfl sz24 rfl rfl rfl rfl oneP (leb rfl) rfl trivial ?_
  refine .nt hK4 (.ret (.then_ret ?_))
  refine AK.add' 0 (.deep nilV []) rfl (fun R=>RdK.nil R) (fun l2 hs2 hm2=>?_)
  refine AK.retG [.cell 2 24] rfl (.cons (.cell ag24 rfl bsp rfl rfl) (.nil)) (fun w hw=>⟨_,_,_,?_,rfl,Ret.of (hw.pick [0] (by decide) rfl rfl)⟩)
  exact ⟨nilV,l2,rfl,nilSl,rfl,fun x hx=>hs2 _ (h2.sub x hx),hm2,rfl⟩
 ·rw [if_neg (by omega)] at hj
  split at hj
  rotate_left
  ·cases hj
  rename_i hlim
  obtain ⟨L,hL,hj⟩:=bind_some hj
  obtain ⟨hLn,hLk⟩:=simpL_at hL
  refine .skip ?_
  refine AK.then_ (hK2 _ ?_)
  refine .sr fun _ hK5=>?_
  refine .v (.fieldAddr fd24_2 rfl) (.v (.loadBox on22 rfl bsp rfl) ?_)
  refine .v (.lenR sl22 rfl (by first | exact rdp | exact RdS.tree hB 0 rfl h2.rw | exact RdS.tree hB 0 rfl (hg0.2.1 _ h2.rw))) ?_
  refine AK.makeE sl22 el24 rfl rfl (by omega) (by omega) trivial rfl (fun mv0=>?_)
  refine .as rfl (.nt hK5 ?_)
  refine .seq fun _ hK6=>?_
  refine .sr fun _ hK7=>?_
  refine .v (.fieldAddr fd24_2 rfl) (.v (.loadBox on22 rfl bsp rfl) ?_)
  refine .v (.lenR sl22 rfl (by first | exact rdp | exact RdS.tree hB 0 rfl h2.rw | exact RdS.tree hB 0 rfl (hg0.2.1 _ h2.rw))) ?_
  refine .mv rfl (.nt hK7 (.block ?_))
  refine AK.loopK (X:=List Value × List Itm) [(1,_),(2,_),(3,_),(20,_),(21,_)] (fun x=>[(22,.int .i64 (x.1.length:Int))]) (fun x=>[forest B x.2,box bx1 24 3 [.int .i64 e.op,.int .i64 e.lt,s],box bx2 24 3 [.int .i64 0,.int .i64 0,.slice none 0 0],row mv0 24 3 e.kids.length (xcs (fillE e.kids.length L x.1.length) (fillVT e.kids.length x.1))]) (fun x=>x.1.length≤e.kids.length∧(∀ y∈l1,y∈x.2)∧Got x.2 L x.1) (fun x=>e.kids.length - x.1.length) (([],l1)) slr ?_ ?_ ?_ ?_
  ·exact ⟨Nat.zero_le _,fun y hy=>hy,Got.nil _ _⟩
  ·exact slr
  ·exact fun w hw=>by obtain ⟨e1,e2⟩:=fill_zero e.kids.length L;simp only [List.length_nil];rw [e1,e2];exact hw
  ·intro x hg0 _ hK8
   refine .sr fun _ hK9=>?_
   refine .v (.lss rfl rfl) (.nt hK9 ?_)
   refine .seq fun _ hK10=>?_
   refine AK.condD rfl (fun hc1=>?_) (fun hc1=>?_)
   ·have hkl:x.1.length<e.kids.length:=by omega
    have sk:=h2.sls x.1.length hkl
    refine .skip ?_
    refine AK.then_ (hK10 _ ?_)
    refine .seq fun _ hK11=>?_
    refine .block ?_
    refine .sr fun _ hK12=>?_
    refine .mv rfl ?_
    first | refine .v (.iN sl22 rfl rfl (hr:=(by first | exact rdp | exact RdS.tree hB 0 rfl h2.rw | exact RdS.tree hB 0 rfl (hg0.2.1 _ h2.rw)))) ?_ | refine .v (.iK sl22 rfl rfl (hr:=(by first | exact rdp | exact RdS.tree hB 0 rfl h2.rw | exact RdS.tree hB 0 rfl (hg0.2.1 _ h2.rw)))) ?_
    refine .v (.loadE ag24 rfl (by first | exact rdp | exact RdS.tree hB 0 rfl h2.rw | exact RdS.tree hB 0 rfl (hg0.2.1 _ h2.rw)) h2.len rfl (by omega)) ?_
    refine AK.alloc el24 rfl rfl trivial rfl (fun bx5=>?_)
    refine .as rfl ?_
    refine AK.storeBox 4 (us:=[.int .i64 (e.kids.getD x.1.length default).op,.int .i64 (e.kids.getD x.1.length default).lt,ss.getD x.1.length undef]) (cs':=[.int .i64 (e.kids.getD x.1.length default).op,.int .i64 (e.kids.getD x.1.length default).lt,ss.getD x.1.length undef]) rfl sz24 rfl rfl rfl rfl oneP (leb rfl) rfl trivial ?_
    refine .nt hK12 ?_
    refine AK.region ?_
    refine .mv rfl (.mv rfl (.v (.loadBoxG ag24 rfl bsp rfl rfl) ?_))
    refine AK.callN 0 rfl co100 rfl (fun w Fs hw hh hfr hal=>ih x.1.length hkl w (Fs 0) B x.2 (hB.later hfr hal 0) (hh.at_ 0 _ rfl) _ (hg0.2.1 _ (h2.kid _ hkl)) (L.getD x.1.length default) (hLk _ hkl)) trivial rfl ?_
    rintro r A o ⟨sr,l2,rfl,ssr,rfl,hs2,hm2,rfl⟩
    first | refine .v (.iN sl22 rfl rfl (hr:=(by first | exact rdp | exact RdS.tree hB 0 rfl h2.rw | exact RdS.tree hB 0 rfl (hg0.2.1 _ h2.rw)))) ?_ | refine .v (.iK sl22 rfl rfl (hr:=(by first | exact rdp | exact RdS.tree hB 0 rfl h2.rw | exact RdS.tree hB 0 rfl (hg0.2.1 _ h2.rw)))) ?_
    refine AK.storeG 3 rfl sz24 rfl rfl rfl rfl (one'_cons rfl (one'_cons rfl (one'_cons (IsSl.one ssr) one'_nil))) (by omega) (cs':=xcs (fillE e.kids.length L (x.1.length+1)) (fillVT e.kids.length (x.1++[sr]))) (xcs_fill hLn hkl sr) trivial ?_
    refine .nil (.block_normal ?_)
    refine AK.then_ (hK11 _ ?_)
    refine AK.region ?_
    refine .v (.add rfl rfl (by omega)) ?_
    refine .mv rfl (.nil ?_)
    refine AK.then_ (hK8 _ _ ((x.1++[sr],l2)) ⟨by simp;omega,fun y hy=>hs2 _ (hg0.2.1 y hy),(hg0.2.2.later hs2).snoc hm2 ssr⟩ (by simp;omega) (.cons (slI rfl (by simp)) (slr)) (fun w hw=>by have h:=hw.pick [0,1,2,3] (by decide) rfl rfl;simpa using h))
   ·have hkl:x.1.length=e.kids.length:=by omega
    refine .exit (.then_exit (.then_exit (.block_exit ?_)))
    refine AK.then_ (hK6 _ ?_)
    refine .sr fun _ hK13=>?_
    refine .v (.fieldAddr fd24_0 rfl) (.v (.loadBox on3 rfl bsp rfl) (.mv rfl ?_))
    refine AK.close' 0 3 L x.1 (by decide) rfl rfl hLn.symm (by rw [hkl];obtain ⟨e1,e2⟩:=fill_full hLn hkl;rw [e1,e2]) (by omega) (fun k hk=>hg0.2.2.d k (by omega)) (fun l2 hs2 hm2 hr2=>?_)
    refine AK.callN 0 rfl co150 rfl (fun w Fs hw hh hfr hal=>s_join w (Fs 0) B l2 (hB.later hfr hal 0) (hh.at_ 0 _ rfl) e.op _ L hm2 j hj) trivial rfl ?_
    rintro r A o ⟨sr,l3,rfl,ssr,rfl,hs3,hm3,rfl⟩
    refine AK.storeBox 2 (us:=[.int .i64 j.op,.int .i64 j.lt,sr]) (cs':=[.int .i64 j.op,.int .i64 j.lt,sr]) rfl sz24 rfl rfl rfl rfl oneP (leb rfl) rfl trivial ?_
    refine .nt hK13 (.ret ?_)
    refine AK.retG [.cell 2 24] rfl (.cons (.cell ag24 rfl bsp rfl rfl) (.nil)) (fun w hw=>⟨_,_,_,?_,rfl,Ret.of (hw.pick [0] (by decide) rfl rfl)⟩)
    exact ⟨sr,l3,rfl,ssr,rfl,fun y hy=>hs3 _ (hs2 _ (hg0.2.1 _ (h2.sub y hy))),hm3,rfl⟩
theorem s_simp (e:Ex):SimS e:=Ex.ind (P:=SimS) (fun e ih w F B l hB hA s hm j hj=>s_simp_step e ih w F B l hB hA s hm j hj) e
set_option maxHeartbeats 800000 in
theorem s_norm (e:Ex) (w:World) (F:Nat→Prop) (B:Bs) (l:List Itm) (hB:BsOk B w F) (hA:(forest B l).holds w F) (s:Value) (hm:Itm.deep s e.kids∈l) (j:Ex) (hj:normE e=some j):CallM Tryz.prog 45 [.agg #[.int .i64 e.op,.int .i64 e.lt,s]] w F (fun r A o=>∃ sr l',r = .agg #[.int .i64 j.op,.int .i64 j.lt,sr]∧IsSl sr∧A=forest B l'∧(∀ x∈l,x∈l')∧Itm.deep sr j.kids∈l'∧o=[]):=by
 refine specM_of Tryz.func45 rfl (leb rfl) hA ?_
 refine .sr fun _ hK1=>?_
 refine AK.box_ (E:=24) (cs:=[.int .i64 e.op,.int .i64 e.lt,s]) rfl rfl rfl trivial rfl (fun bx1=>?_)
 refine AK.alloc el24 rfl rfl trivial rfl (fun bx2=>?_)
 refine .nt hK1 ?_
 refine .seq fun _ hK2=>?_
 refine .sr fun _ hK3=>?_
 refine .v (.loadBoxG ag24 rfl bsp rfl rfl) ?_
 refine AK.call co37 rfl (fun w hw=>s_val6 w e s (hw.kidR hB 0 rfl hm)) trivial rfl ?_
 rintro r o ⟨rfl,rfl⟩
 refine .v (.not rfl) (.nt hK3 ?_)
 refine AK.condB rfl (fun hc0=>?_) (fun hc0=>?_)
 ·unfold normE at hj
  rw [if_neg (by simpa using hc0)] at hj
  cases hj
  refine .sr fun _ hK4=>?_
  refine .v (.build (parts:=[]) (cs:=#[.int .i64 0,.int .i64 0,.slice none 0 0]) rfl (by kernel_rfl)) ?_
  refine AK.storeBox 2 (us:=[.int .i64 e0.op,.int .i64 e0.lt,nilV]) (cs':=[.int .i64 e0.op,.int .i64 e0.lt,nilV]) rfl sz24 rfl rfl rfl rfl oneP (leb rfl) rfl trivial ?_
  refine .nt hK4 (.ret (.then_ret ?_))
  refine AK.add' 0 (.deep nilV []) rfl (fun R=>RdK.nil R) (fun l2 hs2 hm2=>?_)
  refine AK.retG [.cell 2 24] rfl (.cons (.cell ag24 rfl bsp rfl rfl) (.nil)) (fun w hw=>⟨_,_,_,?_,rfl,Ret.of (hw.pick [0] (by decide) rfl rfl)⟩)
  exact ⟨nilV,l2,rfl,nilSl,rfl,hs2,hm2,rfl⟩
 ·unfold normE at hj
  rw [if_pos (by simpa using hc0)] at hj
  refine .skip ?_
  refine AK.then_ (hK2 _ ?_)
  refine .sr fun _ hK5=>?_
  refine .v (.loadBoxG ag24 rfl bsp rfl rfl) ?_
  refine AK.callN 0 rfl co100 rfl (fun w Fs hw hh hfr hal=>s_simp e w (Fs 0) B l (hB.later hfr hal 0) (hh.at_ 0 _ rfl) s hm j hj) trivial rfl ?_
  rintro r A o ⟨sr,l2,rfl,ssr,rfl,hs2,hm2,rfl⟩
  refine AK.storeBox 2 (us:=[.int .i64 j.op,.int .i64 j.lt,sr]) (cs':=[.int .i64 j.op,.int .i64 j.lt,sr]) rfl sz24 rfl rfl rfl rfl oneP (leb rfl) rfl trivial ?_
  refine .nt hK5 (.ret ?_)
  refine AK.retG [.cell 2 24] rfl (.cons (.cell ag24 rfl bsp rfl rfl) (.nil)) (fun w hw=>⟨_,_,_,?_,rfl,Ret.of (hw.pick [0] (by decide) rfl rfl)⟩)
  exact ⟨sr,l2,rfl,ssr,rfl,hs2,hm2,rfl⟩
end Go.Proofs.YtbibnpdnmmgacaaGreatDoor
namespace Go.Proofs.YtbibnpdnmmgacaaGreatDoor
open Go.Sx Go.RowKit
def DerS (a:Int) (nm:Bool) (e:Ex):Prop:=∀ (w:World) (F:Nat→Prop) (B:Bs) (l:List Itm) (hB:BsOk B w F) (hA:(forest B l).holds w F) (s:Value) (hm:Itm.deep s e.kids∈l) (d:Dv) (hd:dervE a nm e=some d),CallM Tryz.prog 103 [.agg #[.int .i64 a,.bool nm],.agg #[.int .i64 e.op,.int .i64 e.lt,s]] w F (fun r A o=>∃ sb sf l',r = .agg #[.int .i64 d.1.op,.int .i64 d.1.lt,sb,.int .i64 d.2.1.op,.int .i64 d.2.1.lt,sf,.bool d.2.2]∧IsSl sb∧IsSl sf∧A=forest B l'∧(∀ x∈l,x∈l')∧Itm.deep sb d.1.kids∈l'∧Itm.deep sf d.2.1.kids∈l'∧o=[])
set_option maxHeartbeats 4000000 in
theorem s_boolean (a:Int) (nm:Bool) (e:Ex) (ho:e.op=4∨e.op=6∨e.op=8) (ih:∀ i,i<e.kids.length→DerS a nm (e.kids.getD i default)) (w:World) (F:Nat→Prop) (B:Bs) (l:List Itm) (hB:BsOk B w F) (hA:(forest B l).holds w F) (s:Value) (hm:Itm.deep s e.kids∈l) (d:Dv) (hd:dervE a nm e=some d):CallM Tryz.prog 153 [.agg #[.int .i64 a,.bool nm],.agg #[.int .i64 e.op,.int .i64 e.lt,s]] w F (fun r A o=>∃ sb sf l',r = .agg #[.int .i64 d.1.op,.int .i64 d.1.lt,sb,.int .i64 d.2.1.op,.int .i64 d.2.1.lt,sf,.bool d.2.2]∧IsSl sb∧IsSl sf∧A=forest B l'∧(∀ x∈l,x∈l')∧Itm.deep sb d.1.kids∈l'∧Itm.deep sf d.2.1.kids∈l'∧o=[]):=by
 refine specM_of Tryz.func153 rfl (leb rfl) hA ?_
 refine AK.open' 0 rfl hm fun l1 ss h2=>?_
 have hmx:=h2.mx'
 obtain ⟨hlim,ds,hds,hbd⟩:=dervE_bool hd ho
 obtain ⟨hdn,hdk⟩:=dervL_at hds
 obtain ⟨h1b,h1s,h3⟩:=boolD_some hbd
 have hcl:=count_le ds
 have hLB:(ds.map (·.1)).length=e.kids.length:=by simp [hdn]
 have hLS:(ds.map (·.2.1)).length=e.kids.length:=by simp [hdn]
 refine .sr fun _ hK1=>?_
 refine AK.box_ (E:=144) (cs:=[.int .i64 a,.bool nm]) rfl rfl rfl trivial rfl (fun bx2=>?_)
 refine AK.box_ (E:=24) (cs:=[.int .i64 e.op,.int .i64 e.lt,s]) rfl rfl rfl trivial rfl (fun bx3=>?_)
 refine AK.alloc el142 rfl rfl trivial rfl (fun bx4=>?_)
 refine .nt hK1 ?_
 refine .seq fun _ hK2=>?_
 refine AK.joinK (X:=Value × Value) [(2,_),(3,_),(4,_)] (fun z=>[(5,z.1),(6,z.2)]) (fun z=>[forest B l1,box bx2 144 2 [.int .i64 a,.bool nm],box bx3 24 3 [.int .i64 e.op,.int .i64 e.lt,s],box bx4 142 7 [.int .i64 0,.int .i64 0,.slice none 0 0,.int .i64 0,.int .i64 0,.slice none 0 0,.bool false],row z.1 24 3 e.kids.length (xcs (List.replicate e.kids.length e0) (List.replicate e.kids.length nilV)),row z.2 24 3 e.kids.length (xcs (List.replicate e.kids.length e0) (List.replicate e.kids.length nilV))]) (fun z=>True) slr (fun _ hJ=>?_) (fun z hg=>?_)
 ·try (conv=>enter [2,2];simp only [nrm])
  refine AK.held 10 mixed ?_
  refine HeldK.first 0 (fuel:=9) (listed':=(lb 10 1)) _ rfl krf krf rfl (Yl.fieldAddr fd24_2 rfl) trivial rfl ?_
  refine HeldK.first 1 (fuel:=8) (listed':=(lb 10 3)) _ rfl krf krf rfl (Yl.loadBox on22 rfl bsp rfl) trivial rfl ?_
  refine HeldK.first 2 (fuel:=7) (listed':=(lb 10 7)) _ rfl krf krf rfl (Yl.lenR sl22 rfl (by first | exact rdp | exact RdS.tree hB 0 rfl h2.rw | exact RdS.tree hB 0 rfl (hg0.2.2.1 _ h2.rw) | exact RdS.tree hB 0 rfl (hg.2.2.1 _ (hs5 _ (hs4 _ (hg0.2.2.1 _ h2.rw)))))) trivial rfl ?_
  refine HeldK.first 4 (fuel:=6) (listed':=(lb 10 23)) _ rfl krf krf rfl (Yl.fieldAddr fd24_2 rfl) trivial rfl ?_
  refine HeldK.first 5 (fuel:=5) (listed':=(lb 10 55)) _ rfl krf krf rfl (Yl.loadBox on22 rfl bsp rfl) trivial rfl ?_
  refine HeldK.first 6 (fuel:=4) (listed':=(lb 10 119)) _ rfl krf krf rfl (Yl.lenR sl22 rfl (by first | exact rdp | exact RdS.tree hB 0 rfl h2.rw | exact RdS.tree hB 0 rfl (hg0.2.2.1 _ h2.rw) | exact RdS.tree hB 0 rfl (hg.2.2.1 _ (hs5 _ (hs4 _ (hg0.2.2.1 _ h2.rw)))))) trivial rfl ?_
  refine HeldK.two 3 7 (fuel:=3) (listed1:=(lb 10 127)) (listed2:=(lb 10 247)) krf rfl rfl krf krf ?_ ?_
  ·refine AK.makeE sl22 el24 rfl rfl (by omega) (by omega) trivial rfl (fun mv0=>?_)
   refine .nil ?_
   try (conv=>enter [2,2];simp only [nrm])
   refine HeldK.back Go.Sx.hle ?_
   refine HeldK.first 8 (fuel:=2) (listed':=(lb 10 383)) _ rfl krf krf rfl (Yl.assign rfl) trivial rfl ?_
   refine HeldK.one 7 (fuel:=1) (listed':=(lb 10 511)) krf rfl krf ?_
   refine AK.makeE sl22 el24 rfl rfl (by omega) (by omega) trivial rfl (fun mv1=>?_)
   refine .nil ?_
   try (conv=>enter [2,2];simp only [nrm])
   refine HeldK.back Go.Sx.hle ?_
   refine HeldK.first 9 (fuel:=0) (listed':=(lb 10 1023)) _ rfl krf krf rfl (Yl.assign rfl) trivial rfl ?_
   refine HeldK.done krf ?_
   exact hJ _ _ ((mv0,mv1)) trivial (slr) (fun w hw=>by first | exact hw.pickLe [0,1,2,3,4,5] (by decide) pkl | exact hw.pickLe [0,1,2,3,5,4] (by decide) pkl)
  ·refine AK.makeE sl22 el24 rfl rfl (by omega) (by omega) trivial rfl (fun mv1=>?_)
   refine .nil ?_
   try (conv=>enter [2,2];simp only [nrm])
   refine HeldK.back Go.Sx.hle ?_
   refine HeldK.one 3 (fuel:=2) (listed':=(lb 10 255)) krf rfl krf ?_
   refine AK.makeE sl22 el24 rfl rfl (by omega) (by omega) trivial rfl (fun mv0=>?_)
   refine .nil ?_
   try (conv=>enter [2,2];simp only [nrm])
   refine HeldK.back Go.Sx.hle ?_
   refine HeldK.first 8 (fuel:=1) (listed':=(lb 10 511)) _ rfl krf krf rfl (Yl.assign rfl) trivial rfl ?_
   refine HeldK.first 9 (fuel:=0) (listed':=(lb 10 1023)) _ rfl krf krf rfl (Yl.assign rfl) trivial rfl ?_
   refine HeldK.done krf ?_
   exact hJ _ _ ((mv0,mv1)) trivial (slr) (fun w hw=>by first | exact hw.pickLe [0,1,2,3,4,5] (by decide) pkl | exact hw.pickLe [0,1,2,3,5,4] (by decide) pkl)
 ·skip
  refine AK.then_ (hK2 _ ?_)
  refine .sr fun _ hK3=>?_
  refine .as rfl (.nt hK3 ?_)
  refine .seq fun _ hK4=>?_
  refine .sr fun _ hK5=>?_
  refine .v (.fieldAddr fd24_2 rfl) (.v (.loadBox on22 rfl bsp rfl) ?_)
  refine .v (.lenR sl22 rfl (by first | exact rdp | exact RdS.tree hB 0 rfl h2.rw | exact RdS.tree hB 0 rfl (hg0.2.2.1 _ h2.rw) | exact RdS.tree hB 0 rfl (hg.2.2.1 _ (hs5 _ (hs4 _ (hg0.2.2.1 _ h2.rw)))))) ?_
  refine .mv rfl (.nt hK5 (.block ?_))
  refine AK.loopK (X:=List Value × List Value × List Itm) [(2,_),(3,_),(4,_),(5,_),(6,_),(21,_),(22,_)] (fun x=>[(7,.int .i64 ((((ds.take x.1.length).filter (·.2.2)).length:Nat):Int)),(23,.int .i64 (x.1.length:Int))]) (fun x=>[forest B x.2.2,box bx2 144 2 [.int .i64 a,.bool nm],box bx3 24 3 [.int .i64 e.op,.int .i64 e.lt,s],box bx4 142 7 [.int .i64 0,.int .i64 0,.slice none 0 0,.int .i64 0,.int .i64 0,.slice none 0 0,.bool false],row z.1 24 3 e.kids.length (xcs (fillE e.kids.length (ds.map (·.1)) x.1.length) (fillVT e.kids.length x.1)),row z.2 24 3 e.kids.length (xcs (fillE e.kids.length (ds.map (·.2.1)) x.2.1.length) (fillVT e.kids.length x.2.1))]) (fun x=>x.1.length≤e.kids.length∧x.2.1.length=x.1.length∧(∀ y∈l1,y∈x.2.2)∧Got x.2.2 (ds.map (·.1)) x.1∧Got x.2.2 (ds.map (·.2.1)) x.2.1) (fun x=>e.kids.length - x.1.length) (([],[],l1)) slr ?_ ?_ ?_ ?_
  ·exact ⟨Nat.zero_le _,rfl,fun y hy=>hy,Got.nil _ _,Got.nil _ _⟩
  ·exact slr
  ·exact fun w hw=>by obtain ⟨e1,e2⟩:=fill_zero e.kids.length (ds.map (·.1));obtain ⟨e3,e4⟩:=fill_zero e.kids.length (ds.map (·.2.1));simp only [List.length_nil];rw [e1,e2,e3];exact hw
  ·intro x hg0 _ hK6
   refine .sr fun _ hK7=>?_
   refine .v (.lss rfl rfl) (.nt hK7 ?_)
   refine .seq fun _ hK8=>?_
   refine AK.condD rfl (fun hc0=>?_) (fun hc0=>?_)
   ·have hkl:x.1.length<e.kids.length:=by omega
    have sk:=h2.sls x.1.length hkl
    obtain ⟨eB1,eB2⟩:=map_getD1 ds x.1.length (by omega)
    have hck:=hcl x.1.length
    refine .skip ?_
    refine AK.then_ (hK8 _ ?_)
    refine .seq fun _ hK9=>?_
    refine .block ?_
    refine .sr fun _ hK10=>?_
    refine .mv rfl ?_
    first | refine .v (.iN sl22 rfl rfl (hr:=(by first | exact rdp | exact RdS.tree hB 0 rfl h2.rw | exact RdS.tree hB 0 rfl (hg0.2.2.1 _ h2.rw) | exact RdS.tree hB 0 rfl (hg.2.2.1 _ (hs5 _ (hs4 _ (hg0.2.2.1 _ h2.rw))))))) ?_ | refine .v (.iK sl22 rfl rfl (hr:=(by first | exact rdp | exact RdS.tree hB 0 rfl h2.rw | exact RdS.tree hB 0 rfl (hg0.2.2.1 _ h2.rw) | exact RdS.tree hB 0 rfl (hg.2.2.1 _ (hs5 _ (hs4 _ (hg0.2.2.1 _ h2.rw))))))) ?_
    refine .v (.loadE ag24 rfl (by first | exact rdp | exact RdS.tree hB 0 rfl h2.rw | exact RdS.tree hB 0 rfl (hg0.2.2.1 _ h2.rw) | exact RdS.tree hB 0 rfl (hg.2.2.1 _ (hs5 _ (hs4 _ (hg0.2.2.1 _ h2.rw))))) h2.len rfl (by omega)) ?_
    refine AK.alloc el24 rfl rfl trivial rfl (fun bx9=>?_)
    refine .as rfl ?_
    refine AK.storeBox 6 (us:=[.int .i64 (e.kids.getD x.1.length default).op,.int .i64 (e.kids.getD x.1.length default).lt,ss.getD x.1.length undef]) (cs':=[.int .i64 (e.kids.getD x.1.length default).op,.int .i64 (e.kids.getD x.1.length default).lt,ss.getD x.1.length undef]) rfl sz24 rfl rfl rfl rfl oneP (leb rfl) rfl trivial ?_
    refine .nt hK10 ?_
    refine .sr fun _ hK11=>?_
    refine .v (.loadBoxG ag144 rfl bsp rfl rfl) (.v (.loadBoxG ag24 rfl bsp rfl rfl) ?_)
    refine AK.callN 0 rfl co103 rfl (fun w Fs hw hh hfr hal=>ih x.1.length hkl w (Fs 0) B x.2.2 (hB.later hfr hal 0) (hh.at_ 0 _ rfl) _ (hg0.2.2.1 _ (h2.kid _ hkl)) (ds.getD x.1.length default) (hdk _ hkl)) trivial rfl ?_
    rintro r A o ⟨sb,sf,l2,rfl,ssb,ssf,rfl,hs2,hmb,hmf,rfl⟩
    refine AK.alloc el142 rfl rfl trivial rfl (fun bx10=>?_)
    refine AK.storeBox 7 (us:=[.int .i64 (ds.getD x.1.length default).1.op,.int .i64 (ds.getD x.1.length default).1.lt,sb,.int .i64 (ds.getD x.1.length default).2.1.op,.int .i64 (ds.getD x.1.length default).2.1.lt,sf,.bool (ds.getD x.1.length default).2.2]) (cs':=[.int .i64 (ds.getD x.1.length default).1.op,.int .i64 (ds.getD x.1.length default).1.lt,sb,.int .i64 (ds.getD x.1.length default).2.1.op,.int .i64 (ds.getD x.1.length default).2.1.lt,sf,.bool (ds.getD x.1.length default).2.2]) rfl sz142 rfl rfl rfl rfl oneP (leb rfl) rfl trivial ?_
    refine .nt hK11 ?_
    refine .seq fun _ hK12=>?_
    try (conv=>enter [2,2];simp only [nrm])
    refine AK.heldS [box bx10 142 7 [.int .i64 (ds.getD x.1.length default).1.op,.int .i64 (ds.getD x.1.length default).1.lt,sb,.int .i64 (ds.getD x.1.length default).2.1.op,.int .i64 (ds.getD x.1.length default).2.1.lt,sf,.bool (ds.getD x.1.length default).2.2],rowX z.1 24 3 e.kids.length,rowX z.2 24 3 e.kids.length] 12 (fun _ hw=>by have h:=HW.toX 2 rfl (HW.toX 1 rfl (hw.pick [7,4,5] (by decide) rfl rfl));exact h) mixed ?_
    refine HeldK.firstS (fun _ hw=>by have h:=HW.toX 2 rfl (HW.toX 1 rfl (hw.pick [7,4,5] (by decide) rfl rfl));exact h) 0 (fuel:=11) (listed':=(lb 12 1)) _ rfl krf krf rfl (Yl.move rfl) trivial rfl ?_
    refine HeldK.firstS (fun _ hw=>by have h:=HW.toX 2 rfl (HW.toX 1 rfl (hw.pick [7,4,5] (by decide) rfl rfl));exact h) 1 (fuel:=10) (listed':=(lb 12 3)) _ rfl krf krf rfl (Yl.move rfl) trivial rfl ?_
    refine HeldK.firstS (fun _ hw=>by have h:=HW.toX 2 rfl (HW.toX 1 rfl (hw.pick [7,4,5] (by decide) rfl rfl));exact h) 2 (fuel:=9) (listed':=(lb 12 7)) _ rfl krf krf rfl (Yl.move rfl) trivial rfl ?_
    refine HeldK.firstS (fun _ hw=>by have h:=HW.toX 2 rfl (HW.toX 1 rfl (hw.pick [7,4,5] (by decide) rfl rfl));exact h) 3 (fuel:=8) (listed':=(lb 12 15)) _ rfl krf krf rfl (Yl.move rfl) trivial rfl ?_
    refine HeldK.firstS (fun _ hw=>by have h:=HW.toX 2 rfl (HW.toX 1 rfl (hw.pick [7,4,5] (by decide) rfl rfl));exact h) 4 (fuel:=7) (listed':=(lb 12 31)) _ rfl krf krf rfl (Yl.fieldAddr fd142_0 rfl) trivial rfl ?_
    refine HeldK.firstS (fun _ hw=>by have h:=HW.toX 2 rfl (HW.toX 1 rfl (hw.pick [7,4,5] (by decide) rfl rfl));exact h) 5 (fuel:=6) (listed':=(lb 12 63)) _ rfl krf krf rfl (Yl.loadBoxG ag24 rfl bsp rfl rfl) trivial rfl ?_
    refine HeldK.firstS (fun _ hw=>by have h:=HW.toX 2 rfl (HW.toX 1 rfl (hw.pick [7,4,5] (by decide) rfl rfl));exact h) 6 (fuel:=5) (listed':=(lb 12 127)) _ rfl krf krf rfl (Yl.fieldAddr fd142_1 rfl) trivial rfl ?_
    refine HeldK.firstS (fun _ hw=>by have h:=HW.toX 2 rfl (HW.toX 1 rfl (hw.pick [7,4,5] (by decide) rfl rfl));exact h) 7 (fuel:=4) (listed':=(lb 12 255)) _ rfl krf krf rfl (Yl.loadBoxG ag24 rfl bsp rfl rfl) trivial rfl ?_
    refine HeldK.firstS (fun _ hw=>by have h:=HW.toX 2 rfl (HW.toX 1 rfl (hw.pick [7,4,5] (by decide) rfl rfl));exact h) 8 (fuel:=3) (listed':=(lb 12 511)) _ rfl krf krf rfl (Yl.idxX 1 rfl sl22 rfl rfl (by decide) (by omega)) trivial rfl ?_
    refine HeldK.one 9 (fuel:=2) (listed':=(lb 12 1023)) krf rfl krf ?_
    refine AK.storeG 4 rfl sz24 rfl rfl rfl rfl (one'_cons rfl (one'_cons rfl (one'_cons (IsSl.one ssb) one'_nil))) (by omega) (cs':=xcs (fillE e.kids.length (ds.map (·.1)) (x.1.length+1)) (fillVT e.kids.length (x.1++[sb]))) ((by have h:=xcs_fill hLB hkl sb;rw [eB1] at h;exact h)) trivial ?_
    refine .nil ?_
    try (conv=>enter [2,2];simp only [nrm])
    refine HeldK.backS (fun _ hw=>by have h:=HW.toX 2 rfl (HW.toX 1 rfl (hw.pick [7,4,5] (by decide) rfl rfl));exact h) ?_
    refine HeldK.firstS (fun _ hw=>by have h:=HW.toX 2 rfl (HW.toX 1 rfl (hw.pick [7,4,5] (by decide) rfl rfl));exact h) 10 (fuel:=1) (listed':=(lb 12 2047)) _ rfl krf krf rfl (Yl.idxX 2 rfl sl22 rfl rfl (by decide) (by omega)) trivial rfl ?_
    refine HeldK.one 11 (fuel:=0) (listed':=(lb 12 4095)) krf rfl krf ?_
    refine AK.storeG 5 rfl sz24 rfl rfl rfl rfl (one'_cons rfl (one'_cons rfl (one'_cons (IsSl.one ssf) one'_nil))) (by omega) (cs':=xcs (fillE e.kids.length (ds.map (·.2.1)) (x.2.1.length+1)) (fillVT e.kids.length (x.2.1++[sf]))) ((by have h:=xcs_fill (ts:=x.2.1) hLS (by omega) sf;rw [hg0.2.1,eB2] at h;rw [hg0.2.1];exact h)) trivial ?_
    refine .nil ?_
    try (conv=>enter [2,2];simp only [nrm])
    refine HeldK.backS (fun _ hw=>by have h:=HW.toX 2 rfl (HW.toX 1 rfl (hw.pick [7,4,5] (by decide) rfl rfl));exact h) ?_
    refine HeldK.done krf ?_
    refine AK.then_ (hK12 _ ?_)
    refine .sr fun _ hK13=>?_
    refine .v (.fieldAddr fd142_2 rfl) (.v (.loadBox on4 rfl bsp rfl) (.nt hK13 ?_))
    refine AK.cond rfl (fun hc1=>?_) (fun hc1=>?_)
    ·try simp only [bs] at hc1
     refine AK.region ?_
     refine .mv rfl ?_
     refine .v (.add rfl rfl (by omega)) ?_
     refine .as rfl (.nil (.block_normal ?_))
     refine AK.then_ (hK9 _ ?_)
     refine AK.region ?_
     refine .v (.add rfl rfl (by omega)) ?_
     refine .mv rfl (.nil ?_)
     refine AK.then_ (hK6 _ _ ((x.1++[sb],x.2.1++[sf],l2)) ⟨by simp;omega,by simp;omega,fun y hy=>hs2 _ (hg0.2.2.1 y hy),(hg0.2.2.2.1.later hs2).snoc (by rw [eB1];exact hmb) ssb,(hg0.2.2.2.2.later hs2).snoc (by rw [hg0.2.1,eB2];exact hmf) ssf⟩ (by simp;omega) (.cons (slI rfl (by rw [List.length_append,List.length_singleton,count_snoc ds x.1.length (by omega),if_pos hc1];simp)) (.cons (slI rfl (by simp)) (slr))) (fun w hw=>by have h:=hw.pick [0,1,2,3,4,5] (by decide) rfl rfl;simpa [hg0.2.1] using h))
    ·try simp only [bs] at hc1
     refine .skip (.block_normal ?_)
     refine AK.then_ (hK9 _ ?_)
     refine AK.region ?_
     refine .v (.add rfl rfl (by omega)) ?_
     refine .mv rfl (.nil ?_)
     refine AK.then_ (hK6 _ _ ((x.1++[sb],x.2.1++[sf],l2)) ⟨by simp;omega,by simp;omega,fun y hy=>hs2 _ (hg0.2.2.1 y hy),(hg0.2.2.2.1.later hs2).snoc (by rw [eB1];exact hmb) ssb,(hg0.2.2.2.2.later hs2).snoc (by rw [hg0.2.1,eB2];exact hmf) ssf⟩ (by simp;omega) (.cons (slI rfl (by rw [List.length_append,List.length_singleton,count_snoc ds x.1.length (by omega),if_neg (by rw [hc1];decide)];simp)) (.cons (slI rfl (by simp)) (slr))) (fun w hw=>by have h:=hw.pick [0,1,2,3,4,5] (by decide) rfl rfl;simpa [hg0.2.1] using h))
   ·have hkl:x.1.length=e.kids.length:=by omega
    refine AK.close' 0 4 (ds.map (·.1)) x.1 (by decide) rfl rfl hLB.symm (by rw [hkl];obtain ⟨e1,e2⟩:=fill_full hLB hkl;rw [e1,e2]) (by omega) (fun k hk=>hg0.2.2.2.1.d k (by omega)) (fun l4 hs4 hm4 hr4=>?_)
    refine AK.close' 0 5 (ds.map (·.2.1)) x.2.1 (by decide) rfl rfl hLS.symm (by rw [show x.2.1.length=e.kids.length by omega];obtain ⟨e1,e2⟩:=fill_full hLS (show x.2.1.length=e.kids.length by omega);rw [e1,e2]) (by omega) (fun k hk=>hs4 _ (hg0.2.2.2.2.d k (by omega))) (fun l5 hs5 hm5 hr5=>?_)
    refine AK.own' [forest B l5,box bx2 144 2 [.int .i64 a,.bool nm],box bx3 24 3 [.int .i64 e.op,.int .i64 e.lt,s],box bx4 142 7 [.int .i64 0,.int .i64 0,.slice none 0 0,.int .i64 0,.int .i64 0,.slice none 0 0,.bool false]] (fun w hw=>hw.pick [0,1,2,3] (by decide) rfl rfl) ?_
    have hdt:ds.take x.1.length=ds:=by rw [hkl,← hdn,List.take_length]
    rw [hdt]
    refine .exit (.then_exit (.then_exit (.block_exit ?_)))
    refine AK.then_ (hK4 _ ?_)
    refine .seq fun _ hK14=>?_
    refine AK.joinK (X:=Value × Value × List Itm × Nat) [(3,_),(4,_),(7,_)] (fun z=>[(11,.pointer (some ⟨z.2.2.2,0,none⟩))]) (fun z=>[forest B z.2.2.1,box bx2 144 2 [.int .i64 a,.bool nm],box bx3 24 3 [.int .i64 e.op,.int .i64 e.lt,s],box bx4 142 7 [.int .i64 0,.int .i64 0,.slice none 0 0,.int .i64 0,.int .i64 0,.slice none 0 0,.bool false],box z.2.2.2 142 7 [.int .i64 d.1.op,.int .i64 d.1.lt,z.1,.int .i64 d.2.1.op,.int .i64 d.2.1.lt,z.2.1,.bool false]]) (fun z=>IsSl z.1∧IsSl z.2.1∧(∀ y∈l5,y∈z.2.2.1)∧Itm.deep z.1 d.1.kids∈z.2.2.1∧Itm.deep z.2.1 d.2.1.kids∈z.2.2.1) slr (fun _ hJ=>?_) (fun z hg=>?_)
    ·try (conv=>enter [2,2];simp only [nrm])
     refine AK.heldS _ 10 (fun _ hw=>hw.pick [2] (by decide) rfl rfl) mixed ?_
     refine HeldK.firstS (fun _ hw=>hw.pick [2] (by decide) rfl rfl) 0 (fuel:=10) (listed':=(lb 11 1)) _ rfl krf krf rfl (Yl.fieldAddr fd24_0 rfl) trivial rfl ?_
     refine HeldK.firstS (fun _ hw=>hw.pick [2] (by decide) rfl rfl) 1 (fuel:=9) (listed':=(lb 11 3)) _ rfl krf krf rfl (Yl.loadBox on3 rfl bsp rfl) trivial rfl ?_
     refine HeldK.firstS (fun _ hw=>hw.pick [2] (by decide) rfl rfl) 2 (fuel:=8) (listed':=(lb 11 7)) _ rfl krf krf rfl (Yl.move rfl) trivial rfl ?_
     refine HeldK.firstS (fun _ hw=>hw.pick [2] (by decide) rfl rfl) 4 (fuel:=7) (listed':=(lb 11 23)) _ rfl krf krf rfl (Yl.fieldAddr fd24_0 rfl) trivial rfl ?_
     refine HeldK.firstS (fun _ hw=>hw.pick [2] (by decide) rfl rfl) 5 (fuel:=6) (listed':=(lb 11 55)) _ rfl krf krf rfl (Yl.loadBox on3 rfl bsp rfl) trivial rfl ?_
     refine HeldK.firstS (fun _ hw=>hw.pick [2] (by decide) rfl rfl) 6 (fuel:=5) (listed':=(lb 11 119)) _ rfl krf krf rfl (Yl.move rfl) trivial rfl ?_
     refine HeldK.two 3 9 (fuel:=4) (listed1:=(lb 11 127)) (listed2:=(lb 11 631)) krf rfl rfl krf krf ?_ ?_
     ·refine AK.callN 0 rfl co150 rfl (fun w Fs hw hh hfr hal=>s_join w (Fs 0) B l5 (hB.later hfr hal 0) (hh.at_ 0 _ rfl) e.op _ _ (hs5 _ hm4) d.1 h1b) trivial rfl ?_
      rintro r A o ⟨sb2,l6,rfl,ssb2,rfl,hs6,hm6,rfl⟩
      refine .nil ?_
      try (conv=>enter [2,2];simp only [nrm])
      refine HeldK.backS (fun _ hw=>hw.pick [2] (by decide) rfl rfl) ?_
      refine HeldK.two 7 9 (fuel:=3) (listed1:=(lb 11 255)) (listed2:=(lb 11 639)) krf rfl rfl krf krf ?_ ?_
      ·refine AK.callN 0 rfl co150 rfl (fun w Fs hw hh hfr hal=>s_join w (Fs 0) B l6 (hB.later hfr hal 0) (hh.at_ 0 _ rfl) e.op _ _ (hs6 _ hm5) d.2.1 h1s) trivial rfl ?_
       rintro r A o ⟨sf2,l7,rfl,ssf2,rfl,hs7,hm7,rfl⟩
       refine .nil ?_
       try (conv=>enter [2,2];simp only [nrm])
       refine HeldK.backS (fun _ hw=>hw.pick [2] (by decide) rfl rfl) ?_
       refine HeldK.firstS (fun _ hw=>hw.pick [2] (by decide) rfl rfl) 8 (fuel:=2) (listed':=(lb 11 511)) _ rfl krf krf rfl (Yl.build (parts:=[(0,.tmp 49),(1,.tmp 53)]) (cs:=#[.int .i64 d.1.op,.int .i64 d.1.lt,sb2,.int .i64 d.2.1.op,.int .i64 d.2.1.lt,sf2,.bool false]) rfl (by obtain ⟨_,_,_,rfl⟩:=ssb2;obtain ⟨_,_,_,rfl⟩:=ssf2;kernel_rfl)) trivial rfl ?_
       refine HeldK.one 9 (fuel:=1) (listed':=(lb 11 1023)) krf rfl krf ?_
       refine AK.alloc el142 rfl rfl trivial rfl (fun bx11=>?_)
       refine .nil ?_
       try (conv=>enter [2,2];simp only [nrm])
       refine HeldK.backS (fun _ hw=>hw.pick [2] (by decide) rfl rfl) ?_
       refine HeldK.one 10 (fuel:=0) (listed':=(lb 11 2047)) krf rfl krf ?_
       refine AK.storeBox 4 (us:=[.int .i64 d.1.op,.int .i64 d.1.lt,sb2,.int .i64 d.2.1.op,.int .i64 d.2.1.lt,sf2,.bool false]) (cs':=[.int .i64 d.1.op,.int .i64 d.1.lt,sb2,.int .i64 d.2.1.op,.int .i64 d.2.1.lt,sf2,.bool false]) rfl sz142 rfl rfl rfl rfl oneP (leb rfl) rfl trivial ?_
       refine .nil ?_
       try (conv=>enter [2,2];simp only [nrm])
       refine HeldK.backN 11 krf rfl krf ?_
       refine .nil ?_
       refine AK.fromQn ?_
       exact hJ _ _ ((sb2,sf2,l7,bx11)) ⟨ssb2,ssf2,fun y hy=>hs7 _ (hs6 _ hy),hs7 _ hm6,hm7⟩ (slr) (fun w hw=>by first | exact hw.pickLe [0,1,2,3,4] (by decide) pkl)
      ·refine AK.alloc el142 rfl rfl trivial rfl (fun bx11=>?_)
       refine .nil ?_
       try (conv=>enter [2,2];simp only [nrm])
       refine HeldK.backS (fun _ hw=>hw.pick [2] (by decide) rfl rfl) ?_
       refine HeldK.one 7 (fuel:=2) (listed':=(lb 11 767)) krf rfl krf ?_
       refine AK.callN 0 rfl co150 rfl (fun w Fs hw hh hfr hal=>s_join w (Fs 0) B l6 (hB.later hfr hal 0) (hh.at_ 0 _ rfl) e.op _ _ (hs6 _ hm5) d.2.1 h1s) trivial rfl ?_
       rintro r A o ⟨sf2,l7,rfl,ssf2,rfl,hs7,hm7,rfl⟩
       refine .nil ?_
       try (conv=>enter [2,2];simp only [nrm])
       refine HeldK.backS (fun _ hw=>hw.pick [2] (by decide) rfl rfl) ?_
       refine HeldK.firstS (fun _ hw=>hw.pick [2] (by decide) rfl rfl) 8 (fuel:=1) (listed':=(lb 11 1023)) _ rfl krf krf rfl (Yl.build (parts:=[(0,.tmp 49),(1,.tmp 53)]) (cs:=#[.int .i64 d.1.op,.int .i64 d.1.lt,sb2,.int .i64 d.2.1.op,.int .i64 d.2.1.lt,sf2,.bool false]) rfl (by obtain ⟨_,_,_,rfl⟩:=ssb2;obtain ⟨_,_,_,rfl⟩:=ssf2;kernel_rfl)) trivial rfl ?_
       refine HeldK.one 10 (fuel:=0) (listed':=(lb 11 2047)) krf rfl krf ?_
       refine AK.storeBox 4 (us:=[.int .i64 d.1.op,.int .i64 d.1.lt,sb2,.int .i64 d.2.1.op,.int .i64 d.2.1.lt,sf2,.bool false]) (cs':=[.int .i64 d.1.op,.int .i64 d.1.lt,sb2,.int .i64 d.2.1.op,.int .i64 d.2.1.lt,sf2,.bool false]) rfl sz142 rfl rfl rfl rfl oneP (leb rfl) rfl trivial ?_
       refine .nil ?_
       try (conv=>enter [2,2];simp only [nrm])
       refine HeldK.backN 11 krf rfl krf ?_
       refine .nil ?_
       refine AK.fromQn ?_
       exact hJ _ _ ((sb2,sf2,l7,bx11)) ⟨ssb2,ssf2,fun y hy=>hs7 _ (hs6 _ hy),hs7 _ hm6,hm7⟩ (slr) (fun w hw=>by first | exact hw.pickLe [0,1,2,3,4] (by decide) pkl)
     ·refine AK.alloc el142 rfl rfl trivial rfl (fun bx11=>?_)
      refine .nil ?_
      try (conv=>enter [2,2];simp only [nrm])
      refine HeldK.backS (fun _ hw=>hw.pick [2] (by decide) rfl rfl) ?_
      refine HeldK.one 3 (fuel:=3) (listed':=(lb 11 639)) krf rfl krf ?_
      refine AK.callN 0 rfl co150 rfl (fun w Fs hw hh hfr hal=>s_join w (Fs 0) B l5 (hB.later hfr hal 0) (hh.at_ 0 _ rfl) e.op _ _ (hs5 _ hm4) d.1 h1b) trivial rfl ?_
      rintro r A o ⟨sb2,l6,rfl,ssb2,rfl,hs6,hm6,rfl⟩
      refine .nil ?_
      try (conv=>enter [2,2];simp only [nrm])
      refine HeldK.backS (fun _ hw=>hw.pick [2] (by decide) rfl rfl) ?_
      refine HeldK.one 7 (fuel:=2) (listed':=(lb 11 767)) krf rfl krf ?_
      refine AK.callN 0 rfl co150 rfl (fun w Fs hw hh hfr hal=>s_join w (Fs 0) B l6 (hB.later hfr hal 0) (hh.at_ 0 _ rfl) e.op _ _ (hs6 _ hm5) d.2.1 h1s) trivial rfl ?_
      rintro r A o ⟨sf2,l7,rfl,ssf2,rfl,hs7,hm7,rfl⟩
      refine .nil ?_
      try (conv=>enter [2,2];simp only [nrm])
      refine HeldK.backS (fun _ hw=>hw.pick [2] (by decide) rfl rfl) ?_
      refine HeldK.firstS (fun _ hw=>hw.pick [2] (by decide) rfl rfl) 8 (fuel:=1) (listed':=(lb 11 1023)) _ rfl krf krf rfl (Yl.build (parts:=[(0,.tmp 49),(1,.tmp 53)]) (cs:=#[.int .i64 d.1.op,.int .i64 d.1.lt,sb2,.int .i64 d.2.1.op,.int .i64 d.2.1.lt,sf2,.bool false]) rfl (by obtain ⟨_,_,_,rfl⟩:=ssb2;obtain ⟨_,_,_,rfl⟩:=ssf2;kernel_rfl)) trivial rfl ?_
      refine HeldK.one 10 (fuel:=0) (listed':=(lb 11 2047)) krf rfl krf ?_
      refine AK.storeBox 4 (us:=[.int .i64 d.1.op,.int .i64 d.1.lt,sb2,.int .i64 d.2.1.op,.int .i64 d.2.1.lt,sf2,.bool false]) (cs':=[.int .i64 d.1.op,.int .i64 d.1.lt,sb2,.int .i64 d.2.1.op,.int .i64 d.2.1.lt,sf2,.bool false]) rfl sz142 rfl rfl rfl rfl oneP (leb rfl) rfl trivial ?_
      refine .nil ?_
      try (conv=>enter [2,2];simp only [nrm])
      refine HeldK.backN 11 krf rfl krf ?_
      refine .nil ?_
      refine AK.fromQn ?_
      exact hJ _ _ ((sb2,sf2,l7,bx11)) ⟨ssb2,ssf2,fun y hy=>hs7 _ (hs6 _ hy),hs7 _ hm6,hm7⟩ (slr) (fun w hw=>by first | exact hw.pickLe [0,1,2,3,4] (by decide) pkl)
    ·have sz1:=hg.1
     have sz2:=hg.2.1
     refine AK.then_ (hK14 _ ?_)
     refine .seq fun _ hK15=>?_
     refine .sr fun _ hK16=>?_
     refine .v (.fieldAddr fd24_0 rfl) (.v (.loadBox on3 rfl bsp rfl) (.nt hK16 (.block ?_)))
     refine .sr fun _ hK17=>?_
     refine .v (.eql rfl rfl) (.as rfl (.nt hK17 ?_))
     refine AK.condD rfl (fun hc2=>?_) (fun hc2=>?_)
     ·refine AK.region ?_
      refine .mv rfl (.v (.gtr rfl rfl) (.v (.fieldAddr fd142_2 rfl) ?_))
      refine AK.storeBox 4 (us:=[.bool (decide ((0:Int)<((ds.filter (·.2.2)).length:Nat)))]) (cs':=[.int .i64 d.1.op,.int .i64 d.1.lt,z.1,.int .i64 d.2.1.op,.int .i64 d.2.1.lt,z.2.1,.bool (decide ((0:Int)<((ds.filter (·.2.2)).length:Nat)))]) rfl sz4 rfl rfl rfl rfl oneP (leb rfl) rfl trivial ?_
      refine .nil (.block_normal ?_)
      refine AK.then_ (hK15 _ ?_)
      refine .sr fun _ hK18=>?_
      refine .v (.loadBoxG ag142 rfl bsp rfl rfl) ?_
      refine AK.storeBox 3 (us:=[.int .i64 d.1.op,.int .i64 d.1.lt,z.1,.int .i64 d.2.1.op,.int .i64 d.2.1.lt,z.2.1,.bool (decide ((0:Int)<((ds.filter (·.2.2)).length:Nat)))]) (cs':=[.int .i64 d.1.op,.int .i64 d.1.lt,z.1,.int .i64 d.2.1.op,.int .i64 d.2.1.lt,z.2.1,.bool (decide ((0:Int)<((ds.filter (·.2.2)).length:Nat)))]) rfl sz142 rfl rfl rfl rfl oneP (leb rfl) rfl trivial ?_
      refine .nt hK18 (.ret ?_)
      refine AK.retG [.cell 4 142] rfl (.cons (.cell ag142 rfl bsp rfl rfl) (.nil)) (fun w hw=>⟨_,_,_,?_,rfl,Ret.of (hw.pick [0] (by decide) rfl rfl)⟩)
      rw [show ((decide ((0:Int)<((ds.filter (·.2.2)).length:Nat))):Bool)=d.2.2 from by rw [h3];unfold nlD;rw [if_pos hc2];exact decide_eq_decide.2 (by omega)]
      exact ⟨z.1,z.2.1,z.2.2.1,rfl,hg.1,hg.2.1,rfl,fun y hy=>hg.2.2.1 _ (hs5 _ (hs4 _ (hg0.2.2.1 _ (h2.sub y hy)))),hg.2.2.2.1,hg.2.2.2.2,rfl⟩
     ·refine .sr fun _ hK19=>?_
      refine .v (.eql rfl rfl) (.as rfl (.nt hK19 ?_))
      refine AK.condD rfl (fun hc3=>?_) (fun hc3=>?_)
      ·refine AK.region ?_
       refine .mv rfl (.v (.fieldAddr fd24_2 rfl) (.v (.loadBox on22 rfl bsp rfl) ?_))
       refine .v (.lenR sl22 rfl (by first | exact rdp | exact RdS.tree hB 0 rfl h2.rw | exact RdS.tree hB 0 rfl (hg0.2.2.1 _ h2.rw) | exact RdS.tree hB 0 rfl (hg.2.2.1 _ (hs5 _ (hs4 _ (hg0.2.2.1 _ h2.rw)))))) ?_
       refine .v (.eql rfl rfl) (.v (.fieldAddr fd142_2 rfl) ?_)
       refine AK.storeBox 4 (us:=[.bool (decide ((((ds.filter (·.2.2)).length:Nat):Int)=(e.kids.length:Int)))]) (cs':=[.int .i64 d.1.op,.int .i64 d.1.lt,z.1,.int .i64 d.2.1.op,.int .i64 d.2.1.lt,z.2.1,.bool (decide ((((ds.filter (·.2.2)).length:Nat):Int)=(e.kids.length:Int)))]) rfl sz4 rfl rfl rfl rfl oneP (leb rfl) rfl trivial ?_
       refine .nil (.block_normal ?_)
       refine AK.then_ (hK15 _ ?_)
       refine .sr fun _ hK20=>?_
       refine .v (.loadBoxG ag142 rfl bsp rfl rfl) ?_
       refine AK.storeBox 3 (us:=[.int .i64 d.1.op,.int .i64 d.1.lt,z.1,.int .i64 d.2.1.op,.int .i64 d.2.1.lt,z.2.1,.bool (decide ((((ds.filter (·.2.2)).length:Nat):Int)=(e.kids.length:Int)))]) (cs':=[.int .i64 d.1.op,.int .i64 d.1.lt,z.1,.int .i64 d.2.1.op,.int .i64 d.2.1.lt,z.2.1,.bool (decide ((((ds.filter (·.2.2)).length:Nat):Int)=(e.kids.length:Int)))]) rfl sz142 rfl rfl rfl rfl oneP (leb rfl) rfl trivial ?_
       refine .nt hK20 (.ret ?_)
       refine AK.retG [.cell 4 142] rfl (.cons (.cell ag142 rfl bsp rfl rfl) (.nil)) (fun w hw=>⟨_,_,_,?_,rfl,Ret.of (hw.pick [0] (by decide) rfl rfl)⟩)
       rw [show ((decide ((((ds.filter (·.2.2)).length:Nat):Int)=(e.kids.length:Int))):Bool)=d.2.2 from by rw [h3];unfold nlD;rw [if_neg hc2,if_pos hc3];exact decide_eq_decide.2 (by omega)]
       exact ⟨z.1,z.2.1,z.2.2.1,rfl,hg.1,hg.2.1,rfl,fun y hy=>hg.2.2.1 _ (hs5 _ (hs4 _ (hg0.2.2.1 _ (h2.sub y hy)))),hg.2.2.2.1,hg.2.2.2.2,rfl⟩
      ·refine .sr fun _ hK21=>?_
       refine .v (.eql rfl rfl) (.as rfl (.nt hK21 ?_))
       refine AK.condD rfl (fun hc4=>?_) (fun hc4=>?_)
       ·refine AK.region ?_
        refine .mv rfl (.v (.eql rfl rfl) (.v (.fieldAddr fd142_2 rfl) ?_))
        refine AK.storeBox 4 (us:=[.bool (decide ((((ds.filter (·.2.2)).length:Nat):Int)=0))]) (cs':=[.int .i64 d.1.op,.int .i64 d.1.lt,z.1,.int .i64 d.2.1.op,.int .i64 d.2.1.lt,z.2.1,.bool (decide ((((ds.filter (·.2.2)).length:Nat):Int)=0))]) rfl sz4 rfl rfl rfl rfl oneP (leb rfl) rfl trivial ?_
        refine .nil (.block_normal ?_)
        refine AK.then_ (hK15 _ ?_)
        refine .sr fun _ hK22=>?_
        refine .v (.loadBoxG ag142 rfl bsp rfl rfl) ?_
        refine AK.storeBox 3 (us:=[.int .i64 d.1.op,.int .i64 d.1.lt,z.1,.int .i64 d.2.1.op,.int .i64 d.2.1.lt,z.2.1,.bool (decide ((((ds.filter (·.2.2)).length:Nat):Int)=0))]) (cs':=[.int .i64 d.1.op,.int .i64 d.1.lt,z.1,.int .i64 d.2.1.op,.int .i64 d.2.1.lt,z.2.1,.bool (decide ((((ds.filter (·.2.2)).length:Nat):Int)=0))]) rfl sz142 rfl rfl rfl rfl oneP (leb rfl) rfl trivial ?_
        refine .nt hK22 (.ret ?_)
        refine AK.retG [.cell 4 142] rfl (.cons (.cell ag142 rfl bsp rfl rfl) (.nil)) (fun w hw=>⟨_,_,_,?_,rfl,Ret.of (hw.pick [0] (by decide) rfl rfl)⟩)
        rw [show ((decide ((((ds.filter (·.2.2)).length:Nat):Int)=0)):Bool)=d.2.2 from by rw [h3];unfold nlD;rw [if_neg hc2,if_neg hc3,if_pos hc4];exact decide_eq_decide.2 (by omega)]
        exact ⟨z.1,z.2.1,z.2.2.1,rfl,hg.1,hg.2.1,rfl,fun y hy=>hg.2.2.1 _ (hs5 _ (hs4 _ (hg0.2.2.1 _ (h2.sub y hy)))),hg.2.2.2.1,hg.2.2.2.2,rfl⟩
       ·refine .skip (.block_normal ?_)
        refine AK.then_ (hK15 _ ?_)
        refine .sr fun _ hK23=>?_
        refine .v (.loadBoxG ag142 rfl bsp rfl rfl) ?_
        refine AK.storeBox 3 (us:=[.int .i64 d.1.op,.int .i64 d.1.lt,z.1,.int .i64 d.2.1.op,.int .i64 d.2.1.lt,z.2.1,.bool false]) (cs':=[.int .i64 d.1.op,.int .i64 d.1.lt,z.1,.int .i64 d.2.1.op,.int .i64 d.2.1.lt,z.2.1,.bool false]) rfl sz142 rfl rfl rfl rfl oneP (leb rfl) rfl trivial ?_
        refine .nt hK23 (.ret ?_)
        refine AK.retG [.cell 4 142] rfl (.cons (.cell ag142 rfl bsp rfl rfl) (.nil)) (fun w hw=>⟨_,_,_,?_,rfl,Ret.of (hw.pick [0] (by decide) rfl rfl)⟩)
        rw [show (false:Bool)=d.2.2 from by rw [h3];unfold nlD;rw [if_neg hc2,if_neg hc3,if_neg hc4]]
        exact ⟨z.1,z.2.1,z.2.2.1,rfl,hg.1,hg.2.1,rfl,fun y hy=>hg.2.2.1 _ (hs5 _ (hs4 _ (hg0.2.2.1 _ (h2.sub y hy)))),hg.2.2.2.1,hg.2.2.2.2,rfl⟩
end Go.Proofs.YtbibnpdnmmgacaaGreatDoor
