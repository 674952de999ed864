import Derived.Test.YtbibnpdnmmgacaaGreatDoorJZj
import Derived.Test.YtbibnpdnmmgacaaGreatDoorJZe
import Derived.Test.YtbibnpdnmmgacaaGreatDoorJZc
set_option linter.unusedVariables false
set_option linter.unusedSimpArgs false
set_option maxRecDepth 100000
namespace Go.Proofs.YtbibnpdnmmgacaaGreatDoor
open Go.Sx Go.RowKit
set_option maxHeartbeats 2000000 in
theorem s_successors (w:World) (v:Value) (n:Nfa) (h:RdN (fun _=>False) w v n) (hv:VN n):CallS Tryz.prog 60 [v] w (fun r o=>∃ ws:List Value,ws.length=n.L.toNat∧IsSl r∧o=[row r 64 1 n.L.toNat ws,bigA (matG uv 42 ws (mtK n n.es.length))]):=by
 have h0:=h
 obtain ⟨vE,rfl,hE⟩:=h
 have sE:=Rd.sl hE
 have hme:=Rd.le hE
 have hS:=hv.S
 have hL:=hv.L
 refine spec_of Tryz.func60 rfl (leb rfl) ?_
 refine .sr fun _ hK1=>?_
 refine AK.box_ (E:=45) (cs:=[.int .i64 n.L,.int .i64 n.S,uv n.st,uv n.fi,vE]) rfl rfl rfl trivial rfl (fun bx1=>?_)
 refine .as rfl (.nt hK1 ?_)
 refine .sr fun _ hK2=>?_
 refine .v (.fieldAddr fd45_0 rfl) ?_
 refine AK.val (.int .i64 ((n.L.toNat:Nat):Int)) (Yl.valE (Yl.loadBox on3 rfl bsp rfl) (congrArg (Value.int .i64) (by omega))) trivial rfl ?_
 refine AK.make1 (n:=n.L.toNat) sl102 el64 rfl rfl rfl (by omega) (by omega) trivial rfl (fun tv=>?_)
 refine AK.shape (v:=tv) 1 rfl (fun stv=>?_)
 refine .as rfl (.nt hK2 ?_)
 refine .seq fun _ hK3=>?_
 refine .sr fun _ hK4=>?_
 refine .mv rfl (.v (.lenR sl102 rfl rdp) (.mv rfl (.nt hK4 (.block ?_))))
 refine AK.loopK (X:=Nat × List Value) [(1,_),(3,_),(11,_)] (fun x=>[(12,.int .i64 (x.1:Int))]) (fun x=>[box bx1 45 5 [.int .i64 n.L,.int .i64 n.S,uv n.st,uv n.fi,vE],row tv 64 1 n.L.toNat (x.2++List.replicate (n.L.toNat - x.1) (.slice none 0 0)),bigA (matG uv 42 x.2 (List.replicate x.1 (List.replicate n.S.toNat (0:W64))))]) (fun x=>x.1≤n.L.toNat∧x.2.length=x.1) (fun x=>n.L.toNat - x.1) ((0,[])) slr ?_ ?_ ?_ ?_
 ·exact ⟨Nat.zero_le _,rfl⟩
 ·exact slr
 ·exact fun w hw=>by dsimp only;rw [Nat.sub_zero,List.nil_append];exact (hw.ghostG (f:=uv) 42).pick [0,1,2] (by decide) rfl rfl
 ·intro x hg0 _ hK5
  refine .sr fun _ hK6=>?_
  refine .v (.lss rfl rfl) (.nt hK6 ?_)
  refine .seq fun _ hK7=>?_
  refine AK.condD rfl (fun hc0=>?_) (fun hc0=>?_)
  ·refine .skip ?_
   refine AK.then_ (hK7 _ ?_)
   refine .seq fun _ hK8=>?_
   refine .block ?_
   refine .sr fun _ hK9=>?_
   refine .mv rfl (.as rfl (.nt hK9 ?_))
   refine AK.region ?_
   refine .mv rfl (.mv rfl (.v (.fieldAddr fd45_1 rfl) ?_))
   refine .v (.valE (v':=.int .i64 ((n.S.toNat:Nat):Int)) (Yl.loadBox on3 rfl bsp rfl) (congrArg (Value.int .i64) (by omega))) ?_
   refine AK.make1 (n:=n.S.toNat) sl64 el42 rfl rfl rfl (by omega) (by omega) trivial rfl (fun rv=>?_)
   refine AK.shape (v:=rv) 3 rfl (fun srv=>?_)
   first | refine .v (.iN sl102 rfl rfl) ?_ | refine .v (.iK sl102 rfl rfl) ?_
   refine AK.store1e 1 rfl sz64 rfl rfl srv.cells srv.one (by omega) (cs':=((x.2++[rv])++List.replicate (n.L.toNat - (x.1+1)) (.slice none 0 0))) (fillW hg0.2 (by omega)) trivial ?_
   refine .nil (.block_normal ?_)
   refine AK.then_ (hK8 _ ?_)
   refine AK.region ?_
   refine .v (.add rfl rfl (by omega)) ?_
   refine .mv rfl (.nil ?_)
   refine AK.then_ (hK5 _ _ ((x.1+1,x.2++[rv])) ⟨by dsimp only;omega,by dsimp only;rw [List.length_append,hg0.2];rfl⟩ (by dsimp only;omega) (slr) (fun w hw=>by
     dsimp only
     rw [List.replicate_succ',matG_snoc (by rw [List.length_replicate,hg0.2]),List.length_replicate,List.map_replicate]
     exact HW.absorb (own:=[_,_,_]) 2 rfl hw))
  ·have hxL:x.1=n.L.toNat:=(by omega)
   obtain ⟨ws,hws⟩:∃ ws,ws=x.2:=⟨_,rfl⟩
   have hwl:ws.length=n.L.toNat:=(by rw [hws,hg0.2,hxL])
   refine AK.own' [box bx1 45 5 [.int .i64 n.L,.int .i64 n.S,uv n.st,uv n.fi,vE],row tv 64 1 n.L.toNat ws,bigA (matG uv 42 ws (List.replicate n.L.toNat (List.replicate n.S.toNat (0:W64))))] (fun w hw=>by rw [hws];rw [hxL,Nat.sub_self,List.replicate_zero,List.append_nil] at hw;exact hw) ?_
   refine .exit (.then_exit (.then_exit (.block_exit ?_)))
   refine AK.then_ (hK3 _ ?_)
   refine .seq fun _ hK10=>?_
   refine .sr fun _ hK11=>?_
   refine .v (.fieldAddr fd45_4 rfl) (.v (.loadBox on43 rfl bsp rfl) (.v (.lenR sl43 rfl rdp) (.mv rfl (.nt hK11 (.block ?_)))))
   refine AK.loopK (X:=Nat) [(3,_),(23,_),(24,_)] (fun k=>[(25,.int .i64 (k:Int))]) (fun k=>[box bx1 45 5 [.int .i64 n.L,.int .i64 n.S,uv n.st,uv n.fi,vE],row tv 64 1 n.L.toNat ws,bigA (matG uv 42 ws (mtK n k))]) (fun k=>k≤n.es.length) (fun k=>n.es.length - k) (0) slr ?_ ?_ ?_ ?_
   ·exact Nat.zero_le _
   ·exact slr
   ·exact fun w hw=>by rw [mtK_zero];exact hw
   ·intro k hg1 _ hK12
    refine .sr fun _ hK13=>?_
    refine .v (.lss rfl rfl) (.nt hK13 ?_)
    refine .seq fun _ hK14=>?_
    refine AK.condD rfl (fun hc1=>?_) (fun hc1=>?_)
    ·have hed:=hv.edge (k:=k) (by omega)
     obtain ⟨a,ha⟩:∃ a:Nat,(n.es.getD k (0,0,0)).2.1=(a:Int):=⟨(n.es.getD k (0,0,0)).2.1.toNat,by omega⟩
     obtain ⟨p,hp⟩:∃ p:Nat,(n.es.getD k (0,0,0)).1=(p:Int):=⟨(n.es.getD k (0,0,0)).1.toNat,by omega⟩
     have hap:a<n.L.toNat:=(by omega)
     have hpp:p<n.S.toNat:=(by omega)
     have hrl:=mtK_rlen (n:=n) (k:=k) hap
     refine .skip ?_
     refine AK.then_ (hK14 _ ?_)
     refine .seq fun _ hK15=>?_
     refine .block ?_
     refine .sr fun _ hK16=>?_
     first | refine .v (.iN sl43 rfl rfl) ?_ | refine .v (.iK sl43 rfl rfl) ?_
     refine .v (.loadEd ag98 rfl rdp (by omega)) ?_
     refine AK.alloc el98 rfl rfl trivial rfl (fun bx6=>?_)
     refine AK.storeBox 3 (us:=ecs (n.es.getD k (0,0,0))) (cs':=ecs (n.es.getD k (0,0,0))) rfl sz98 rfl rfl rfl rfl (ecs_one _) (leb rfl) rfl trivial ?_
     refine .nt hK16 ?_
     refine AK.stillTail 14 mixed krf (fun _ hws=>?_)
     refine .v hws (.move rfl) (.v hws (.fieldAddr fd98_1 rfl) (.v hws (.loadBox on3 rfl bsp rfl) ?_))
     refine .v hws (.valE (Yl.idxN (k:=a) sl102 rfl (by rw [← ha];rfl) rdp (by decide) hap) rfl) ?_
     refine SK.val hws (ws.getD a undef) (Yl.loadV on64 rfl rdp (by omega)) trivial rfl ?_
     refine .v hws (.fieldAddr fd98_0 rfl) (.v hws (.loadBox on3 rfl bsp rfl) ?_)
     refine .v hws (.idxN (k:=p) sl64 rfl (by rw [← hp];rfl) (RdS.big 2 a rfl (matG_get (by rw [mtK_len];exact hwl) (by rw [mtK_len];exact hap))) (by decide) (by rw [hrl];exact hpp)) ?_
     refine .v hws (.loadU (j:=p) on42 rfl (RdS.big 2 a rfl (matG_get (by rw [mtK_len];exact hwl) (by rw [mtK_len];exact hap))) (by rw [hrl];exact hpp)) ?_
     refine .v hws (.fieldAddr fd98_2 rfl) (.v hws (.loadBox on3 rfl bsp rfl) ?_)
     refine .v hws (.shlU (a:=1) rfl rfl (by omega)) ?_
     refine .v hws (.orU rfl rfl) ?_
     refine .v hws (.idxN (k:=p) sl64 rfl (by rw [← hp];rfl) (RdS.big 2 a rfl (matG_get (by rw [mtK_len];exact hwl) (by rw [mtK_len];exact hap))) (by decide) (by rw [hrl];exact hpp)) ?_
     refine SK.nil (SK.fin hws ?_)
     refine AK.storeIn 2 a (j:=p) (u:=uv (((mtK n k).getD a []).getD p 0 ||| bit (n.es.getD k (0,0,0)).2.2)) (cs':=(((mtK n k).getD a []).set p (((mtK n k).getD a []).getD p 0 ||| bit (n.es.getD k (0,0,0)).2.2)).map uv) rfl (matG_get (by rw [mtK_len];exact hwl) (by rw [mtK_len];exact hap)) sz42 rfl rfl rfl rfl (by rw [hrl];exact hpp) (by rw [List.map_set]) trivial ?_
     refine AK.own' [box bx1 45 5 [.int .i64 n.L,.int .i64 n.S,uv n.st,uv n.fi,vE],row tv 64 1 n.L.toNat ws,bigA (matG uv 42 ws ((mtK n k).set a (((mtK n k).getD a []).set p (((mtK n k).getD a []).getD p 0 ||| bit (n.es.getD k (0,0,0)).2.2)))),box bx6 98 3 (ecs (n.es.getD k (0,0,0)))] (fun w hw=>by rw [← matG_set (by rw [mtK_len];exact hwl) (by rw [mtK_len];exact hap),List.length_set];exact hw) ?_
     refine .nil (.block_normal ?_)
     refine AK.then_ (hK15 _ ?_)
     refine AK.region ?_
     refine .v (.add rfl rfl (by omega)) ?_
     refine .mv rfl (.nil ?_)
     refine AK.then_ (hK12 _ _ (k+1) (by omega) (by omega) (slr) (fun w hw=>by rw [mtK_next ha hp];exact hw.pick [0,1,2] (by decide) rfl rfl))
    ·refine .exit (.then_exit (.then_exit (.block_exit ?_)))
     refine AK.then_ (hK10 _ ?_)
     refine .sr fun _ hK17=>?_
     refine .mv rfl (.as rfl (.nt hK17 (.ret ?_)))
     refine AK.ret1 rfl rfl (fun w hw=>⟨_,_,?_,rfl,Ret.of (hw.pick [1,2] (by decide) rfl rfl)⟩)
     have e:k=n.es.length:=(by omega)
     subst e
     exact ⟨ws,hwl,stv,rfl⟩
end Go.Proofs.YtbibnpdnmmgacaaGreatDoor
namespace Go.Proofs.YtbibnpdnmmgacaaGreatDoor
open Go.Sx Go.RowKit
set_option maxHeartbeats 400000 in
theorem s_ofI (w:World) (F:Nat→Prop) (b mb:Nat) (vL:Value) (xs:List Int) (x:Int) (hl:xs.length≤100000) (sL:IsSl vL) (hA:(bigA [box b 213 2 [vL,.map (some mb)],row vL 3 1 xs.length (xs.map (Value.int .i64)),mapA mb (mkv (Value.int .i64) (Value.int .i64) (numM xs))]).holds w F):CallM Tryz.prog 167 [.pointer (some ⟨b,0,none⟩),Value.int .i64 x] w F (fun r A o=>∃ va,IsSl va∧r = .int .i64 ((posN xs x:Nat):Int)∧A=bigA [box b 213 2 [va,.map (some mb)],row va 3 1 (insN xs x).length ((insN xs x).map (Value.int .i64)),mapA mb (mkv (Value.int .i64) (Value.int .i64) (numM (insN xs x)))]∧o=[]):=by
 refine specM_of' Tryz.func167 rfl (leb rfl) hA ?_
 refine .sr fun _ hK1=>?_
 refine .as rfl (.nt hK1 ?_)
 refine .sr fun _ hK2=>?_
 refine .mv rfl (.v (.nilCheck rfl) (.v (.fieldAddr fd213_1 rfl) (.v (.loadBox on211 rfl bsp rfl) (.mv rfl (.v (.lookup2I mp211 (keyInt un3) el3 rfl rfl msp) (.mv rfl (.v (.extract rfl rfl) ?_)))))))
 refine .v (.extract rfl rfl) (.as rfl (.as rfl (.nt hK2 ?_)))
 refine .seq fun _ hK3=>?_
 refine .sr fun _ hK4=>?_
 refine .mv rfl (.v (.not rfl) (.nt hK4 ?_))
 refine AK.condB rfl (fun hc0=>?_) (fun hc0=>?_)
 ·have hx:x ∉ xs:=by
   rw [mget_numM] at hc0;intro h;rw [if_pos h] at hc0;cases hc0
  refine .seq fun _ hK5=>?_
  refine .sr fun _ hK6=>?_
  refine .mv rfl (.v (.nilCheck rfl) (.v (.fieldAddr fd213_1 rfl) (.v (.loadBox on211 rfl bsp rfl) (.v (.eqlMap mp211 rfl) (.nt hK6 ?_)))))
  refine AK.cond_f rfl (rfl) ?_
  refine .skip ?_
  refine AK.then_ (hK5 _ ?_)
  refine .sr fun _ hK7=>?_
  refine .mv rfl (.v (.nilCheck rfl) (.v (.fieldAddr fd213_0 rfl) (.v (.loadBox on67 rfl bsp rfl) (.v (.lenR sl67 rfl rdp) (.as rfl (.nt hK7 ?_))))))
  refine .sr fun _ hK8=>?_
  refine .mv rfl (.v (.nilCheck rfl) (.v (.fieldAddr fd213_1 rfl) (.v (.loadBox on211 rfl bsp rfl) (.mv rfl (.mv rfl ?_)))))
  refine AK.mapSet 2 rfl mp211 (keyInt un3) rfl rfl rfl trivial ?_
  refine .nt hK8 ?_
  refine AK.region ?_
  refine .mv rfl (.mv rfl (.v (.nilCheck rfl) (.v (.fieldAddr fd213_0 rfl) (.v (.loadBox on67 rfl bsp rfl) (.mv rfl ?_)))))
  refine AK.append1 1 rfl sl67 el3 rfl (by decide) rfl (by intro k hk;cases hk;rfl) rfl (by intro u hu;simp [Value.cells] at hu;subst hu;rfl) (by omega) (by omega) (by decide) rfl rfl (fun va _ hsa=>?_)
  refine .v (.nilCheck rfl) (.v (.fieldAddr fd213_0 rfl) ?_)
  refine AK.storeBox 0 (us:=[va]) (cs':=[va,.map (some mb)]) rfl sz67 rfl rfl (by rw [IsSl.cells (by assumption)]) rfl oneP (leb rfl) rfl trivial ?_
  refine .nt hK3 ?_
  refine .sr fun _ hK9=>?_
  refine .mv rfl (.as rfl (.nt hK9 (.ret ?_)))
  refine AK.grown [box b 213 2 [va,.map (some mb)],row va 3 1 (xs.length+1) ((xs.map (Value.int .i64))++(Value.int .i64 x).cells.toList),mapA mb (mkv (Value.int .i64) (Value.int .i64) (mset (numM xs) x (xs.length:Int)))] [0,1,2] (by decide) pkl ?_
  refine AK.ret1 rfl rfl (fun w hw=>⟨_,_,_,?_,rfl,Ret.ofBig0 hw⟩)
  refine ⟨va,hsa,?_,?_,rfl⟩
  ·rw [posN_not hx]
   try rfl
  ·rw [show insN xs x=xs++[x] from if_neg hx,← mset_numM hx];simp [Value.cells]
 ·have hx:x∈xs:=by
   rw [mget_numM] at hc0;by_cases h:x∈xs
   ·exact h
   ·rw [if_neg h] at hc0;cases hc0
  refine .skip ?_
  refine AK.then_ (hK3 _ ?_)
  refine .sr fun _ hK10=>?_
  refine .mv rfl (.as rfl (.nt hK10 (.ret ?_)))
  refine AK.grown [box b 213 2 [vL,.map (some mb)],row vL 3 1 xs.length (xs.map (Value.int .i64)),mapA mb (mkv (Value.int .i64) (Value.int .i64) (numM xs))] [0,1,2] (by decide) pkl ?_
  refine AK.ret1 rfl rfl (fun w hw=>⟨_,_,_,?_,rfl,Ret.ofBig0 hw⟩)
  refine ⟨vL,sL,?_,?_,rfl⟩
  ·rw [mget_numM,if_pos hx]
   try rfl
  ·rw [show insN xs x=xs from if_pos hx]
set_option maxHeartbeats 400000 in
theorem s_of0I (w:World) (F:Nat→Prop) (b:Nat) (x:Int) (hA:(bigA [box b 213 2 [.slice none 0 0,.map none]]).holds w F):CallM Tryz.prog 167 [.pointer (some ⟨b,0,none⟩),Value.int .i64 x] w F (fun r A o=>∃ va mb,IsSl va∧r = .int .i64 0∧A=bigA [box b 213 2 [va,.map (some mb)],row va 3 1 [x].length ([x].map (Value.int .i64)),mapA mb (mkv (Value.int .i64) (Value.int .i64) (numM [x]))]∧o=[]):=by
 refine specM_of' Tryz.func167 rfl (leb rfl) hA ?_
 refine AK.ghost 3 1 ?_
 refine .sr fun _ hK1=>?_
 refine .as rfl (.nt hK1 ?_)
 refine .sr fun _ hK2=>?_
 refine .mv rfl (.v (.nilCheck rfl) (.v (.fieldAddr fd213_1 rfl) (.v (.loadBox on211 rfl bsp rfl) (.mv rfl (.v (.lookup2I (m:=([]:List (Int × Int))) mp211 (keyInt un3) el3 rfl rfl MapS.nil) (.mv rfl (.v (.extract rfl rfl) ?_)))))))
 refine .v (.extract rfl rfl) (.as rfl (.as rfl (.nt hK2 ?_)))
 refine .seq fun _ hK3=>?_
 refine .sr fun _ hK4=>?_
 refine .mv rfl (.v (.not rfl) (.nt hK4 ?_))
 refine AK.cond_t rfl (rfl) ?_
 refine .seq fun _ hK5=>?_
 refine .sr fun _ hK6=>?_
 refine .mv rfl (.v (.nilCheck rfl) (.v (.fieldAddr fd213_1 rfl) (.v (.loadBox on211 rfl bsp rfl) (.v (.eqlMap mp211 rfl) (.nt hK6 ?_)))))
 refine AK.cond_t rfl (rfl) ?_
 refine AK.region ?_
 refine .mv rfl ?_
 refine AK.makeMap trivial rfl (fun mb=>?_)
 refine .v (.nilCheck rfl) (.v (.fieldAddr fd213_1 rfl) ?_)
 refine AK.storeBox 0 (us:=[.map (some mb)]) (cs':=[.slice none 0 0,.map (some mb)]) rfl sz211 rfl rfl rfl rfl oneP (leb rfl) rfl trivial ?_
 refine .nt hK5 ?_
 refine .sr fun _ hK7=>?_
 refine .mv rfl (.v (.nilCheck rfl) (.v (.fieldAddr fd213_0 rfl) (.v (.loadBox on67 rfl bsp rfl) (.v (.lenR sl67 rfl rdp) (.as rfl (.nt hK7 ?_))))))
 refine .sr fun _ hK8=>?_
 refine .mv rfl (.v (.nilCheck rfl) (.v (.fieldAddr fd213_1 rfl) (.v (.loadBox on211 rfl bsp rfl) (.mv rfl (.mv rfl ?_)))))
 refine AK.mapSet 2 (m:=([]:List (Int × Int))) rfl mp211 (keyInt un3) rfl rfl rfl trivial ?_
 refine .nt hK8 ?_
 refine AK.region ?_
 refine .mv rfl (.mv rfl (.v (.nilCheck rfl) (.v (.fieldAddr fd213_0 rfl) (.v (.loadBox on67 rfl bsp rfl) (.mv rfl ?_)))))
 refine AK.append1 1 rfl sl67 el3 rfl (by decide) rfl (by intro k hk;cases hk;rfl) rfl (by intro u hu;simp [Value.cells] at hu;subst hu;rfl) (by omega) (by omega) (by decide) rfl rfl (fun va _ hsa=>?_)
 refine .v (.nilCheck rfl) (.v (.fieldAddr fd213_0 rfl) ?_)
 refine AK.storeBox 0 (us:=[va]) (cs':=[va,.map (some mb)]) rfl sz67 rfl rfl (by rw [IsSl.cells (by assumption)]) rfl oneP (leb rfl) rfl trivial ?_
 refine .nt hK3 ?_
 refine .sr fun _ hK9=>?_
 refine .mv rfl (.as rfl (.nt hK9 (.ret ?_)))
 refine AK.grown [box b 213 2 [va,.map (some mb)],row va 3 1 (0+1) ([]++(Value.int .i64 x).cells.toList),mapA mb (mkv (Value.int .i64) (Value.int .i64) (mset ([]:List (Int × Int)) x ((0:Nat):Int)))] [0,1,2] (by decide) pkl ?_
 refine AK.ret1 rfl rfl (fun w hw=>⟨_,_,_,?_,rfl,Ret.ofBig0 hw⟩)
 exact ⟨va,mb,hsa,rfl,rfl,rfl⟩
set_option maxHeartbeats 1000000 in
theorem s_exploreI (w:World) (L:Nat) (s:Int) (f:Int→Nat→Int) (g:Int→Bool) (U:List Int) (fN fG:Nat) (cN cG:List Value) (hL:1≤L∧L≤6) (hs:s∈U) (hU:U.length≤512) (hf:∀ q∈U,∀ x,x<L→f q x∈U) (hcN:CallOk Tryz.prog fN) (hcG:CallOk Tryz.prog fG) (hN:∀ w',FrameX (fun _=>False) w w'→∀ q∈U,∀ x,x<L→CallS Tryz.prog fN ([(Value.int .i64 q),.int .i64 (x:Int)]++cN) w' (fun r o=>r=(Value.int .i64 (f q x))∧o=[])) (hG:∀ w',FrameX (fun _=>False) w w'→∀ q∈U,CallS Tryz.prog fG ([(Value.int .i64 q)]++cG) w' (fun r o=>r = .bool (g q)∧o=[])):CallS Tryz.prog 123 [.int .i64 (L:Int),Value.int .i64 s,.func (.func fN) #[] cN.toArray,.func (.func fG) #[] cG.toArray] w (fun r o=>∃ (n:Nat) (vL vF vN:Value) (rs:List Value),n=(exI f L s 0 n).length∧rs.length=n∧IsSl vL∧IsSl vF∧IsSl vN∧r = .tuple #[.agg #[.int .i64 (L:Int),.int .i64 0,vF,vN],vL,.int .i64 0]∧o=dfaO 4 3 67 vF vN rs ⟨(L:Int),0,(exG f L s 0 g n),(exN f L s 0 n)⟩++[row vL 3 1 (exI f L s 0 n).length ((exI f L s 0 n).map (Value.int .i64))]):=by
 have hok:=exI_ok (z:=0) hs hf
 have hbd:=exI_bd (z:=0) hs hf
 refine spec_of Tryz.func123 rfl (leb rfl) ?_
 refine .sr fun _ hK1=>?_
 refine AK.alloc el32 rfl rfl trivial rfl (fun bx8=>?_)
 refine .as rfl (.as rfl (.nt hK1 ?_))
 refine .sr fun _ hK2=>?_
 refine AK.alloc el213 rfl rfl trivial rfl (fun bx11=>?_)
 refine .nt hK2 ?_
 refine .sr fun _ hK3=>?_
 refine .mv rfl ?_
 refine AK.own' [bigA [box bx11 213 2 [.slice none 0 0,.map none]],box bx8 32 4 [.int .i64 0,.int .i64 0,.slice none 0 0,.slice none 0 0]] (fun w hw=>HW.unflat (l:=[_]) (own:=[_]) (hw.pick [1,0] (by decide) rfl rfl)) ?_
 refine AK.callM 0 rfl co167 rfl (fun w F hw hA=>s_of0I w F bx11 s hA) trivial rfl ?_
 rintro r A o ⟨vl,mb,sl0,rfl,rfl,rfl⟩
 refine AK.flat0 rfl ?_
 refine .nt hK3 ?_
 refine .sr fun _ hK4=>?_
 refine .mv rfl ?_
 refine .v (.build (parts:=[(0,.tmp 19)]) (cs:=#[.int .i64 (L:Int),.int .i64 0,.slice none 0 0,.slice none 0 0]) rfl (by kernel_rfl)) ?_
 refine AK.alloc el32 rfl rfl trivial rfl (fun bx12=>?_)
 refine AK.storeBox 4 (us:=[.int .i64 (L:Int),.int .i64 0,.slice none 0 0,.slice none 0 0]) (cs':=[.int .i64 (L:Int),.int .i64 0,.slice none 0 0,.slice none 0 0]) rfl sz32 rfl rfl rfl rfl oneP (leb rfl) rfl trivial ?_
 refine .nt hK4 ?_
 refine .seq fun _ hK5=>?_
 refine .sr fun _ hK6=>?_
 refine .as rfl (.nt hK6 (.block ?_))
 refine AK.loopK (X:=Nat × Value × Value × Value × List Value) [(0,_),(2,_),(3,_),(8,_),(11,_),(12,_)] (fun x=>[(13,.int .i64 (x.1:Int))]) (fun x=>[box bx11 213 2 [x.2.1,.map (some mb)],row x.2.1 3 1 (exI f L s 0 x.1).length ((exI f L s 0 x.1).map (Value.int .i64)),mapA mb (mkv (Value.int .i64) (Value.int .i64) (numM (exI f L s 0 x.1))),box bx8 32 4 [.int .i64 0,.int .i64 0,.slice none 0 0,.slice none 0 0],box bx12 32 4 [.int .i64 (L:Int),.int .i64 0,x.2.2.1,x.2.2.2.1],row x.2.2.1 4 1 x.1 ((exG f L s 0 g x.1).map Value.bool),row x.2.2.2.1 67 1 x.1 x.2.2.2.2,bigA (matG (Value.int .i64) 3 x.2.2.2.2 (exN f L s 0 x.1))]) (fun x=>x.1≤(exI f L s 0 x.1).length∧x.2.2.2.2.length=x.1∧IsSl x.2.1∧IsSl x.2.2.1∧IsSl x.2.2.2.1) (fun x=>U.length - x.1) ((0,vl,.slice none 0 0,.slice none 0 0,[])) slr ?_ ?_ ?_ ?_
 ·exact ⟨Nat.zero_le _,rfl,sl0,nilSl,nilSl⟩
 ·exact slr
 ·exact fun w hw=>by have h1:=((hw.ghostG (f:=Value.int .i64) 3).ghost 4 1).ghost 67 1;exact h1.pick [0,1,2,3,4,6,7,5] (by decide) rfl rfl
 ·intro x hg0 _ hK7
  have hb0:=hbd x.1
  have hsF:=hg0.2.2.2.1
  have hsN:=hg0.2.2.2.2
  refine .seq fun _ hK8=>?_
  refine .sr fun _ hK9=>?_
  refine .mv rfl (.v (.fieldAddr fd213_0 rfl) (.v (.loadBox on67 rfl bsp rfl) (.v (.lenR sl67 rfl rdp) (.v (.lss rfl rfl) (.nt hK9 ?_)))))
  refine AK.condD rfl (fun hc0=>?_) (fun hc0=>?_)
  ·have hlt:x.1<(exI f L s 0 x.1).length:=(by omega)
   have hqU:((exI f L s 0 x.1).getD x.1 0)∈U:=(hok x.1).2 _ (getD_mem hlt)
   have hrb:=fun k hk=>exR_bd (z:=0) hs hf (k:=k) hlt hk
   refine .skip ?_
   refine AK.then_ (hK8 _ ?_)
   refine .seq fun _ hK10=>?_
   refine .block ?_
   refine .sr fun _ hK11=>?_
   refine .v (.fieldAddr fd213_0 rfl) (.v (.loadBox on67 rfl bsp rfl) (.mv rfl ?_))
   first | refine .v (.iN sl67 rfl rfl) ?_ | refine .v (.iK sl67 rfl rfl) ?_
   refine .v (.loadI on3 rfl rdp (by omega)) ?_
   refine .as rfl (.nt hK11 ?_)
   refine .sr fun _ hK12=>?_
   refine .mv rfl ?_
   refine AK.make1 (n:=L) sl67 el3 rfl rfl rfl (by omega) (by omega) trivial rfl (fun mv=>?_)
   refine .as rfl (.nt hK12 ?_)
   refine .seq fun _ hK13=>?_
   refine .sr fun _ hK14=>?_
   refine .mv rfl (.v (.lenR sl67 rfl rdp) (.mv rfl (.nt hK14 (.block ?_))))
   refine AK.loopK (X:=Nat × Value) [(0,_),(2,_),(3,_),(8,_),(11,_),(12,_),(13,_),(14,_),(15,_),(36,_)] (fun y=>[(37,.int .i64 (y.1:Int))]) (fun y=>[box bx11 213 2 [y.2,.map (some mb)],row y.2 3 1 (exR f ((exI f L s 0 x.1).getD x.1 0) (exI f L s 0 x.1) y.1).length ((exR f ((exI f L s 0 x.1).getD x.1 0) (exI f L s 0 x.1) y.1).map (Value.int .i64)),mapA mb (mkv (Value.int .i64) (Value.int .i64) (numM (exR f ((exI f L s 0 x.1).getD x.1 0) (exI f L s 0 x.1) y.1))),box bx8 32 4 [.int .i64 0,.int .i64 0,.slice none 0 0,.slice none 0 0],box bx12 32 4 [.int .i64 (L:Int),.int .i64 0,x.2.2.1,x.2.2.2.1],row x.2.2.1 4 1 x.1 ((exG f L s 0 g x.1).map Value.bool),row x.2.2.2.1 67 1 x.1 x.2.2.2.2,bigA (matG (Value.int .i64) 3 x.2.2.2.2 (exN f L s 0 x.1)),row mv 3 1 L (((exW f ((exI f L s 0 x.1).getD x.1 0) (exI f L s 0 x.1) y.1)++List.replicate (L - y.1) 0).map (Value.int .i64))]) (fun y=>y.1≤L∧IsSl y.2) (fun y=>L - y.1) ((0,x.2.1)) slr ?_ ?_ ?_ ?_
   ·exact ⟨Nat.zero_le _,hg0.2.2.1⟩
   ·exact slr
   ·exact fun w hw=>by have e:(((exW f ((exI f L s 0 x.1).getD x.1 0) (exI f L s 0 x.1) 0)++List.replicate (L - 0) 0).map (Value.int .i64))=List.replicate L (Value.int .i64 0):=(by simp [exW]);rw [e];exact hw
   ·intro y hg1 _ hK15
    refine .sr fun _ hK16=>?_
    refine .v (.lss rfl rfl) (.nt hK16 ?_)
    refine .seq fun _ hK17=>?_
    refine AK.condD rfl (fun hc1=>?_) (fun hc1=>?_)
    ·refine .skip ?_
     refine AK.then_ (hK17 _ ?_)
     refine .seq fun _ hK18=>?_
     refine .block ?_
     refine .sr fun _ hK19=>?_
     refine .mv rfl (.as rfl (.nt hK19 ?_))
     refine AK.region ?_
     refine .mv rfl (.mv rfl (.mv rfl (.mv rfl (.mv rfl ?_))))
     refine AK.callV hcN rfl rfl (fun w hw=>hN w hw.frame _ hqU y.1 (by omega)) trivial rfl ?_
     rintro r o ⟨rfl,rfl⟩
     refine AK.own' (bigA [box bx11 213 2 [y.2,.map (some mb)],row y.2 3 1 (exR f ((exI f L s 0 x.1).getD x.1 0) (exI f L s 0 x.1) y.1).length ((exR f ((exI f L s 0 x.1).getD x.1 0) (exI f L s 0 x.1) y.1).map (Value.int .i64)),mapA mb (mkv (Value.int .i64) (Value.int .i64) (numM (exR f ((exI f L s 0 x.1).getD x.1 0) (exI f L s 0 x.1) y.1)))] :: [box bx8 32 4 [.int .i64 0,.int .i64 0,.slice none 0 0,.slice none 0 0],box bx12 32 4 [.int .i64 (L:Int),.int .i64 0,x.2.2.1,x.2.2.2.1],row x.2.2.1 4 1 x.1 ((exG f L s 0 g x.1).map Value.bool),row x.2.2.2.1 67 1 x.1 x.2.2.2.2,bigA (matG (Value.int .i64) 3 x.2.2.2.2 (exN f L s 0 x.1)),row mv 3 1 L (((exW f ((exI f L s 0 x.1).getD x.1 0) (exI f L s 0 x.1) y.1)++List.replicate (L - y.1) 0).map (Value.int .i64))]) (fun w hw=>HW.unflat (l:=[_,_,_]) (own:=[_,_,_,_,_,_]) (hw.pick [0,1,2,3,4,5,6,7,8] (by decide) rfl rfl)) ?_
     refine AK.callM 0 rfl co167 rfl (fun w F hw hA=>s_ofI w F bx11 mb y.2 (exR f ((exI f L s 0 x.1).getD x.1 0) (exI f L s 0 x.1) y.1) (f ((exI f L s 0 x.1).getD x.1 0) y.1) (by have:=hrb y.1 (by omega);omega) hg1.2 hA) trivial rfl ?_
     rintro r A o ⟨va,sa,rfl,rfl,rfl⟩
     refine AK.flat0 rfl ?_
     first | refine .v (.iN sl67 rfl rfl) ?_ | refine .v (.iK sl67 rfl rfl) ?_
     refine AK.store1e 8 rfl sz3 rfl rfl rfl rfl (by omega) (cs':=(((exW f ((exI f L s 0 x.1).getD x.1 0) (exI f L s 0 x.1) (y.1+1))++List.replicate (L - (y.1+1)) 0).map (Value.int .i64))) (by exact fill_set (Value.int .i64) (exW f ((exI f L s 0 x.1).getD x.1 0) (exI f L s 0 x.1) y.1) 0 _ L y.1 (exW_len _ _ _ _) (by omega)) trivial ?_
     refine .nil (.block_normal ?_)
     refine AK.then_ (hK18 _ ?_)
     refine AK.region ?_
     refine .v (.add rfl rfl (by omega)) ?_
     refine .mv rfl (.nil ?_)
     refine AK.then_ (hK15 _ _ ((y.1+1,va)) ⟨by dsimp only;omega,sa⟩ (by dsimp only;omega) (slr) (fun w hw=>hw))
    ·refine AK.shape 8 rfl (fun hsr=>?_)
     have hyL:y.1=L:=(by omega)
     refine .exit (.then_exit (.then_exit (.block_exit ?_)))
     refine AK.then_ (hK13 _ ?_)
     refine .seq fun _ hK20=>?_
     refine .sr fun _ hK21=>?_
     refine .v (.fieldAddr fd213_0 rfl) (.v (.loadBox on67 rfl bsp rfl) (.v (.lenR sl67 rfl rdp) (.v (.gtr rfl rfl) (.nt hK21 ?_))))
     refine AK.cond_f rfl (decide_eq_false (by have:=hrb y.1 (by omega);omega)) ?_
     refine .skip ?_
     refine AK.then_ (hK20 _ ?_)
     refine .sr fun _ hK22=>?_
     refine .v (.fieldAddr fd32_3 rfl) (.v (.loadBox on30 rfl bsp rfl) (.mv rfl ?_))
     refine AK.append1 6 rfl sl30 el67 rfl (by decide) rfl (by intro k hk;cases hk;rfl) (by rw [hsr.cells];rfl) (by rw [hsr.cells];exact one'_cons hsr.one one'_nil) (by omega) (by omega) (by decide) rfl rfl (fun vn2 _ hn2=>?_)
     refine .v (.fieldAddr fd32_3 rfl) ?_
     refine AK.storeBox 4 (us:=[vn2]) (cs':=[.int .i64 (L:Int),.int .i64 0,x.2.2.1,vn2]) rfl sz30 rfl rfl (by rw [IsSl.cells (by assumption)]) rfl oneP (leb rfl) rfl trivial ?_
     refine .nt hK22 ?_
     try (conv=>enter [2,2];simp only [nrm])
     refine AK.held 8 mixed ?_
     refine HeldK.first 0 (fuel:=8) (listed':=(lb 9 1)) _ rfl krf krf rfl (Yl.fieldAddr fd32_2 rfl) trivial rfl ?_
     refine HeldK.first 1 (fuel:=7) (listed':=(lb 9 3)) _ rfl krf krf rfl (Yl.loadBox on29 rfl bsp rfl) trivial rfl ?_
     refine HeldK.first 2 (fuel:=6) (listed':=(lb 9 7)) _ rfl krf krf rfl (Yl.move rfl) trivial rfl ?_
     refine HeldK.first 3 (fuel:=5) (listed':=(lb 9 15)) _ rfl krf krf rfl (Yl.move rfl) trivial rfl ?_
     refine HeldK.one 4 (fuel:=4) (listed':=(lb 9 31)) krf rfl krf ?_
     refine AK.callV hcG rfl rfl (fun w hw=>hG w hw.frame _ hqU) trivial rfl ?_
     rintro r o ⟨rfl,rfl⟩
     refine .nil ?_
     try (conv=>enter [2,2];simp only [nrm])
     refine HeldK.back Go.Sx.hle ?_
     refine HeldK.one 5 (fuel:=3) (listed':=(lb 9 63)) krf rfl krf ?_
     refine AK.lit (xs:=[.tmp 64]) sl29 el4 rfl rfl rfl (by simp [Value.cells]) (by decide) (by decide) trivial rfl (fun lg=>?_)
     refine .nil ?_
     try (conv=>enter [2,2];simp only [nrm])
     refine HeldK.back Go.Sx.hle ?_
     refine HeldK.one 6 (fuel:=2) (listed':=(lb 9 127)) krf rfl krf ?_
     refine AK.appendH 5 rfl sl29 el4 rfl (by decide) rfl rfl rfl rdp oneP (by omega) (by omega) trivial rfl (fun vf2 hf2=>?_)
     refine .nil ?_
     try (conv=>enter [2,2];simp only [nrm])
     refine HeldK.back Go.Sx.hle ?_
     refine HeldK.first 7 (fuel:=1) (listed':=(lb 9 255)) _ rfl krf krf rfl (Yl.fieldAddr fd32_2 rfl) trivial rfl ?_
     refine HeldK.one 8 (fuel:=0) (listed':=(lb 9 511)) krf rfl krf ?_
     refine AK.storeBox 4 (us:=[vf2]) (cs':=[.int .i64 (L:Int),.int .i64 0,vf2,vn2]) rfl sz29 rfl rfl (by rw [IsSl.cells (by assumption)]) rfl oneP (leb rfl) rfl trivial ?_
     refine .nil ?_
     try (conv=>enter [2,2];simp only [nrm])
     refine HeldK.backN 9 krf rfl krf ?_
     refine .nil ?_
     refine AK.fromQn ?_
     refine .block_normal ?_
     refine AK.then_ (hK10 _ ?_)
     refine AK.region ?_
     refine .mv rfl ?_
     refine .v (.add rfl rfl (by omega)) ?_
     refine .as rfl (.nil ?_)
     refine AK.then_ (hK7 _ _ ((x.1+1,y.2,vf2,vn2,x.2.2.2.2++[mv])) ⟨by dsimp only;rw [exI_next hlt];have:=exR_pre f ((exI f L s 0 x.1).getD x.1 0) (exI f L s 0 x.1) L;obtain ⟨ys,e⟩:=this;rw [e,List.length_append];omega,by simp [hg0.2.1],hg1.2,hf2,hn2⟩ (by dsimp only;omega) (slr) (fun w hw=>by
      dsimp only
      have e2:matG (Value.int .i64) 3 (x.2.2.2.2++[mv]) (exN f L s 0 (x.1+1))=matG (Value.int .i64) 3 x.2.2.2.2 (exN f L s 0 x.1)++[row mv 3 1 (exW f ((exI f L s 0 x.1).getD x.1 0) (exI f L s 0 x.1) L).length ((exW f ((exI f L s 0 x.1).getD x.1 0) (exI f L s 0 x.1) L).map (Value.int .i64))]:=matG_snoc (by rw [exN_len];exact hg0.2.1) mv _
      have e3:mv.cells.toList=[mv]:=(by rw [hsr.cells])
      have e4:L - y.1=0:=(by omega)
      rw [e3,e4] at hw
      rw [e2,exI_next hlt,exW_len]
      rw [hyL] at hw
      have e5:(exG f L s 0 g (x.1+1)).map Value.bool=(exG f L s 0 g x.1).map Value.bool++[Value.bool (g ((exI f L s 0 x.1).getD x.1 0))].flatMap (·.cells.toList):=(by simp [exG,Value.cells])
      rw [e5]
      have h2:=hw.pickLe (L:=[_,_,_,_,_,row vf2 4 1 (x.1+1) ((exG f L s 0 g x.1).map Value.bool++[Value.bool (g ((exI f L s 0 x.1).getD x.1 0))].flatMap (·.cells.toList)),_,_,_]) [0,1,2,3,4,5,6,7,8] (by decide) pkl
      rw [List.replicate_zero,List.append_nil] at h2
      exact HW.absorb (own:=[_,_,_,_,_,_,_,_]) 7 rfl h2))
  ·refine .exit (.then_exit (.then_exit (.block_exit ?_)))
   refine AK.then_ (hK5 _ ?_)
   refine .seq fun _ hK23=>?_
   try (conv=>enter [2,2];simp only [nrm])
   refine AK.heldS _ 6 (fun _ hw=>hw.pick [0,1,2,4,5,6,7] (by decide) rfl rfl) mixed ?_
   refine HeldK.firstS (fun _ hw=>hw.pick [0,1,2,4,5,6,7] (by decide) rfl rfl) 0 (fuel:=5) (listed':=(lb 6 1)) _ rfl krf krf rfl (Yl.loadBoxG ag32 rfl bsp rfl rfl) trivial rfl ?_
   refine HeldK.firstS (fun _ hw=>hw.pick [0,1,2,4,5,6,7] (by decide) rfl rfl) 1 (fuel:=4) (listed':=(lb 6 3)) _ rfl krf krf rfl (Yl.fieldAddr fd213_0 rfl) trivial rfl ?_
   refine HeldK.firstS (fun _ hw=>hw.pick [0,1,2,4,5,6,7] (by decide) rfl rfl) 2 (fuel:=3) (listed':=(lb 6 7)) _ rfl krf krf rfl (Yl.loadBox on67 rfl bsp rfl) trivial rfl ?_
   refine HeldK.one 3 (fuel:=2) (listed':=(lb 6 15)) krf rfl krf ?_
   refine AK.storeBox 3 (us:=[.int .i64 (L:Int),.int .i64 0,x.2.2.1,x.2.2.2.1]) (cs':=[.int .i64 (L:Int),.int .i64 0,x.2.2.1,x.2.2.2.1]) rfl sz32 rfl rfl rfl rfl oneP (leb rfl) rfl trivial ?_
   refine .nil ?_
   try (conv=>enter [2,2];simp only [nrm])
   refine HeldK.backS (fun _ hw=>hw.pick [0,1,2,4,5,6,7] (by decide) rfl rfl) ?_
   refine HeldK.firstS (fun _ hw=>hw.pick [0,1,2,4,5,6,7] (by decide) rfl rfl) 4 (fuel:=1) (listed':=(lb 6 31)) _ rfl krf krf rfl (Yl.assign rfl) trivial rfl ?_
   refine HeldK.firstS (fun _ hw=>hw.pick [0,1,2,4,5,6,7] (by decide) rfl rfl) 5 (fuel:=0) (listed':=(lb 6 63)) _ rfl krf krf rfl (Yl.assign rfl) trivial rfl ?_
   refine HeldK.done krf ?_
   refine AK.then_ (hK23 _ ?_)
   refine .ret ?_
   refine AK.own' ([box bx11 213 2 [x.2.1,.map (some mb)],row x.2.1 3 1 (exI f L s 0 x.1).length ((exI f L s 0 x.1).map (Value.int .i64)),mapA mb (mkv (Value.int .i64) (Value.int .i64) (numM (exI f L s 0 x.1))),box bx8 32 4 [.int .i64 (L:Int),.int .i64 0,x.2.2.1,x.2.2.2.1],box bx12 32 4 [.int .i64 (L:Int),.int .i64 0,x.2.2.1,x.2.2.2.1],row x.2.2.1 4 1 x.1 ((exG f L s 0 g x.1).map Value.bool),row x.2.2.2.1 67 1 x.1 x.2.2.2.2,bigA (matG (Value.int .i64) 3 x.2.2.2.2 (exN f L s 0 x.1))]) (fun w hw=>hw) ?_
   refine AK.retG [.cell 8 32,.tmp 9,.tmp 10] rfl (.cons (.cell ag32 rfl bsp rfl rfl) (.cons (.tmp rfl) (.cons (.tmp rfl) (.nil)))) (fun w hw=>⟨_,_,?_,rfl,Ret.of (hw.pick [5,6,7,1] (by decide) rfl rfl)⟩)
   refine ⟨x.1,x.2.1,x.2.2.1,x.2.2.2.1,x.2.2.2.2,by omega,hg0.2.1,hg0.2.2.1,hg0.2.2.2.1,hg0.2.2.2.2,rfl,?_⟩
   unfold dfaO
   rw [exG_len,exN_len];rfl
end Go.Proofs.YtbibnpdnmmgacaaGreatDoor
namespace Go.Sx
open Go.RowKit
def fS (n:Nfa) (q:W64) (x:Nat):W64:=stpN n q (x:Int)
def gS (n:Nfa) (q:W64):Bool:=decide (q &&& n.fi ≠ 0)
def setU (n:Nfa) (U:List W64):List W64:=exI (fS n) n.L.toNat n.st 0 U.length
def subU (n:Nfa) (U:List W64):Dfa:=genD n.L n.L.toNat (setU n U) (fS n) (gS n)
end Go.Sx
namespace Go.Sx
open Go.RowKit
def AccN (n:Nfa) (l:List UInt8):Bool:=if errN n=0∧validW n.L l=true then gS n (foldW (fS n) n.st l) else false
theorem foldW_take {α:Type} (f:α→Nat→α) (q:α) (l:List UInt8) (k:Nat) (h:k<l.length):foldW f q (l.take (k+1))=f (foldW f q (l.take k)) (((l.getD k 0).toNat:Int) - 97).toNat:=by
 unfold foldW;rw [take_snocD 0 l k h,List.foldl_append];rfl
end Go.Sx
namespace Go.Sx
open Go.RowKit
section
variable {α : Type} [DecidableEq α] {f : α → Nat → α} {L : Nat} {s z : α}
end
inductive Pth (es:List Edg):Int→List UInt8→Int→Prop
 | nil (p:Int):Pth es p [] p
 | cons {p q r:Int} {c:UInt8} {l:List UInt8} (h:(p,(c.toNat:Int) - 97,q)∈es) (t:Pth es q l r):Pth es p (c :: l) r
theorem foldW_pth {n:Nfa} (hv:VN n):∀ (l:List UInt8),l.all (okB n.L)=true→∀ (S:W64) (q:Nat),q<64→((foldW (fS n) S l).getLsbD q=true↔∃ p:Nat,p<64∧S.getLsbD p=true∧Pth n.es (p:Int) l (q:Int))
 | [],_,S,q,hq=>by
  constructor
  ·intro h;exact ⟨q,hq,h,.nil _⟩
  ·rintro ⟨p,hp,h,hP⟩
   cases hP
   exact h
 | c :: l,hl,S,q,hq=>by
  rw [List.all_cons,Bool.and_eq_true] at hl
  have hc:=hl.1
  unfold okB at hc
  rw [decide_eq_true_eq] at hc
  have ih:=foldW_pth hv l hl.2 (fS n S ((c.toNat:Int) - 97).toNat) q hq
  show (foldW (fS n) (fS n S ((c.toNat:Int) - 97).toNat) l).getLsbD q=true↔_
  rw [ih]
  have hx:((((c.toNat:Int) - 97).toNat:Nat):Int)=(c.toNat:Int) - 97:=by omega
  have hS:=hv.S
  have hst:∀ i:Nat,(fS n S ((c.toNat:Int) - 97).toNat).getLsbD i=true↔∃ j,j<n.es.length∧(n.es.getD j (0,0,0)).2.1=(c.toNat:Int) - 97∧has S (n.es.getD j (0,0,0)).1=true∧(i:Int)=(n.es.getD j (0,0,0)).2.2:=fun i=>by
   unfold fS stpN
   rw [hx]
   exact stpK_get _ (fun j hj=>by have:=hv.edge hj;omega)
  constructor
  ·rintro ⟨p,hp,h1,h2⟩
   obtain ⟨j,hj,e1,e2,e3⟩:=(hst p).1 h1
   have he:=hv.edge hj
   refine ⟨(n.es.getD j (0,0,0)).1.toNat,by omega,e2,?_⟩
   refine .cons (q:=(p:Int)) ?_ h2
   rw [← e1,e3,show (((n.es.getD j (0,0,0)).1.toNat:Nat):Int)=(n.es.getD j (0,0,0)).1 by omega]
   exact getD_mem hj
  ·rintro ⟨p,hp,h1,h2⟩
   cases h2 with
   | cons h t=>
    rename_i q'
    obtain ⟨j,hj,e⟩:=mem_getD (0,0,0) h
    have he:=hv.edge hj
    rw [e] at he
    have hq0:0≤q':=he.2.2.2.2.1
    have hq1:q'<n.S:=he.2.2.2.2.2
    have hqe:((q'.toNat:Nat):Int)=q':=by omega
    refine ⟨q'.toNat,by omega,(hst _).2 ⟨j,hj,by rw [e],?_,by rw [e,hqe]⟩,by rw [hqe];exact t⟩
    rw [e];unfold has;rw [Int.toNat_natCast];exact h1
theorem gS_iff {n:Nfa} {S:W64}:gS n S=true↔∃ q:Nat,q<64∧S.getLsbD q=true∧n.fi.getLsbD q=true:=by
 unfold gS
 rw [decide_eq_true_eq]
 constructor
 ·intro h
  apply Classical.byContradiction
  intro hno
  apply h
  apply BitVec.eq_of_getLsbD_eq
  intro i hi
  rw [BitVec.getLsbD_and]
  cases h1:S.getLsbD i with
  | false=>simp
  | true=>
   cases h2:n.fi.getLsbD i with
   | false=>simp
   | true=>exact absurd ⟨i,hi,h1,h2⟩ hno
 ·rintro ⟨q,hq,h1,h2⟩ h
  have h3:(S &&& n.fi).getLsbD q=false:=by rw [h];simp
  rw [BitVec.getLsbD_and,h1,h2] at h3
  cases h3
def AccP (n:Nfa) (l:List UInt8):Prop:=∃ p q:Nat,p<64∧q<64∧n.st.getLsbD p=true∧n.fi.getLsbD q=true∧Pth n.es (p:Int) l (q:Int)
theorem accP_iff {n:Nfa} (hv:VN n) {l:List UInt8} (hl:l.all (okB n.L)=true):gS n (foldW (fS n) n.st l)=true↔AccP n l:=by
 rw [gS_iff]
 constructor
 ·rintro ⟨q,hq,h1,h2⟩
  obtain ⟨p,hp,h3,h4⟩:=(foldW_pth hv l hl n.st q hq).1 h1
  exact ⟨p,q,hp,hq,h3,h2,h4⟩
 ·rintro ⟨p,q,hp,hq,h1,h2,h3⟩
  exact ⟨q,hq,(foldW_pth hv l hl n.st q hq).2 ⟨p,hp,h1,h3⟩,h2⟩
def addE (n:Nfa) (f x t:Int):Nfa:={ n with es:=n.es++[(f,x,t)] }
theorem bef_irr (a:Edg):bef a a=false:=by simp [bef]
theorem befL_iff {a b:Edg}:bef a b=true↔a.1<b.1∨(a.1=b.1∧(a.2.1<b.2.1∨(a.2.1=b.2.1∧a.2.2<b.2.2))):=by
 unfold bef
 split
 ·rw [decide_eq_true_eq];omega
 ·split <;> rw [decide_eq_true_eq] <;> omega
theorem bef_trans {a b c:Edg} (h:bef a b=true) (k:bef b c=true):bef a c=true:=by
 rw [befL_iff] at *;omega
theorem bef_tot (a b:Edg):bef a b=true∨a=b∨bef b a=true:=by
 obtain ⟨a1,a2,a3⟩:=a
 obtain ⟨b1,b2,b3⟩:=b
 rw [befL_iff,befL_iff]
 simp only [Prod.mk.injEq]
 omega
end Go.Sx
namespace Go.Proofs.YtbibnpdnmmgacaaGreatDoor
open Go.Sx Go.RowKit
end Go.Proofs.YtbibnpdnmmgacaaGreatDoor
namespace Go.Proofs.YtbibnpdnmmgacaaGreatDoor
open Go.Sx Go.RowKit
end Go.Proofs.YtbibnpdnmmgacaaGreatDoor
namespace Go.Proofs.YtbibnpdnmmgacaaGreatDoor
open Go.Sx Go.RowKit
theorem s_trim1 (w:World) (q:Int) (x:Nat) (b:Nat) (d:Dfa) (vF vN:Value) (hv:VD d) (hb:BxA w b [.int .i64 d.L,.int .i64 d.s,vF,vN]) (hF0:RdL (fun _=>False) Value.bool w vF d.fin) (hN0:RdLL (fun _=>False) (Value.int .i64) w vN d.nx) (hq:0≤q∧q<d.fin.length) (hx:x<d.L.toNat):CallS Tryz.prog 124 [.int .i64 q,.int .i64 (x:Int),.pointer (some ⟨b,0,none⟩)] w (fun r o=>r = .int .i64 (stepQ d q x)∧o=[]):=by
 have hF:=hF0
 unfold RdL at hF
 obtain ⟨rs,hrl,hNr,hNi⟩:=hN0
 have hnx:=hv.nx
 have hrw:=hv.row q.toNat (by omega)
 refine spec_of Tryz.func124 rfl (leb rfl) ?_
 refine .sr fun _ hK1=>?_
 refine .as rfl (.nt hK1 ?_)
 refine .sr fun _ hK2=>?_
 refine .v (.fieldAddr fd32_3 rfl) (.v (.loadBox on30 rfl bsp rfl) (.mv rfl ?_))
 first | refine .v (.iN sl30 rfl rfl (hr:=(by first | exact rdp | exact .arg (hNi _ (by omega))))) ?_ | refine .v (.iK sl30 rfl rfl (hr:=(by first | exact rdp | exact .arg (hNi _ (by omega))))) ?_
 refine .v (.loadV on67 rfl (by first | exact rdp | exact .arg (hNi _ (by omega))) (by omega)) ?_
 refine .mv rfl ?_
 first | refine .v (.iN sl67 rfl rfl (hr:=(by first | exact rdp | exact .arg (hNi _ (by omega))))) ?_ | refine .v (.iK sl67 rfl rfl (hr:=(by first | exact rdp | exact .arg (hNi _ (by omega))))) ?_
 refine .v (.loadI on3 rfl (by first | exact rdp | exact .arg (hNi _ (by omega))) (by omega)) ?_
 refine .as rfl (.nt hK2 (.ret ?_))
 refine AK.ret1 rfl rfl (fun w hw=>⟨_,_,?_,rfl,Ret.of (hw.pick [] (by decide) rfl rfl)⟩)
 exact ⟨rfl,rfl⟩
theorem s_trim2 (w:World) (q:Int) (b:Nat) (d:Dfa) (vF vN:Value) (hv:VD d) (hb:BxA w b [.int .i64 d.L,.int .i64 d.s,vF,vN]) (hF0:RdL (fun _=>False) Value.bool w vF d.fin) (hN0:RdLL (fun _=>False) (Value.int .i64) w vN d.nx) (hq:0≤q∧q<d.fin.length):CallS Tryz.prog 125 [.int .i64 q,.pointer (some ⟨b,0,none⟩)] w (fun r o=>r = .bool (finQ d q)∧o=[]):=by
 have hF:=hF0
 unfold RdL at hF
 obtain ⟨rs,hrl,hNr,hNi⟩:=hN0
 have hnx:=hv.nx
 refine spec_of Tryz.func125 rfl (leb rfl) ?_
 refine .sr fun _ hK1=>?_
 refine .as rfl (.nt hK1 ?_)
 refine .sr fun _ hK2=>?_
 refine .v (.fieldAddr fd32_2 rfl) (.v (.loadBox on29 rfl bsp rfl) (.mv rfl ?_))
 first | refine .v (.iN sl29 rfl rfl) ?_ | refine .v (.iK sl29 rfl rfl) ?_
 refine .v (.loadB on4 rfl rdp (by omega)) ?_
 refine .as rfl (.nt hK2 (.ret ?_))
 refine AK.ret1 rfl rfl (fun w hw=>⟨_,_,?_,rfl,Ret.of (hw.pick [] (by decide) rfl rfl)⟩)
 exact ⟨rfl,rfl⟩
set_option maxHeartbeats 600000 in
theorem s_trim (w:World) (v:Value) (d:Dfa) (h:RdD (fun _=>False) w v d):CallS Tryz.prog 74 [v] w (fun r o=>∃ (vF vN vM:Value) (rs:List Value),r = .tuple #[.agg #[.int .i64 (TrimV d).L,.int .i64 (TrimV d).s,vF,vN],vM]∧rs.length=(TrimV d).nx.length∧IsSl vF∧IsSl vN∧IsSl vM∧o=dfaO 4 3 67 vF vN rs (TrimV d)++[row vM 3 1 (NumV d).length ((NumV d).map (Value.int .i64))]):=by
 have h0:=h
 obtain ⟨vF,vN,rfl,hF,hN⟩:=h
 have hF0:=hF
 have hN0:=hN
 obtain ⟨rs,hrl,hNr,hNi⟩:=hN
 have sF:=hF.sl
 have sN:=hNr.sl
 have hmf:=hF.le
 have hmn:=hNr.le
 unfold RdL at hF
 refine spec_of Tryz.func74 rfl (leb rfl) ?_
 refine .sr fun _ hK1=>?_
 refine AK.box_ (E:=32) (cs:=[.int .i64 d.L,.int .i64 d.s,vF,vN]) rfl rfl rfl trivial rfl (fun bx1=>?_)
 refine AK.alloc el32 rfl rfl trivial rfl (fun bx2=>?_)
 refine .as rfl (.nt hK1 ?_)
 refine .seq fun _ hK2=>?_
 refine .sr fun _ hK3=>?_
 refine .v (.loadBoxG ag32 rfl bsp rfl rfl) ?_
 refine AK.call co23 rfl (fun w hw=>s_validate w _ d (h0.at hw)) trivial rfl ?_
 rintro r o ⟨rfl,rfl⟩
 refine .v (.neq rfl rfl) (.nt hK3 ?_)
 refine AK.condNe rfl (fun hc0=>?_) (fun hc0=>?_)
 ·have hnv:¬ VD d:=fun h=>hc0 ((errV_iff d).2 h)
  refine .sr fun _ hK4=>?_
  refine .v (.build (parts:=[]) (cs:=#[.int .i64 0,.int .i64 0,.slice none 0 0,.slice none 0 0]) rfl (by kernel_rfl)) ?_
  refine AK.storeBox 1 (us:=[.int .i64 0,.int .i64 0,.slice none 0 0,.slice none 0 0]) (cs':=[.int .i64 0,.int .i64 0,.slice none 0 0,.slice none 0 0]) rfl sz32 rfl rfl rfl rfl oneP (leb rfl) rfl trivial ?_
  refine .as rfl (.nt hK4 (.ret (.then_ret ?_)))
  refine AK.own' (dfaO 4 3 67 (.slice none 0 0) (.slice none 0 0) [] nilD++[row (.slice none 0 0) 3 1 0 [],box bx2 32 4 [.int .i64 0,.int .i64 0,.slice none 0 0,.slice none 0 0]]) (fun w hw=>by have h1:=((((hw.pick [1] (by decide) rfl rfl).ghost 4 1).ghost 67 1).ghostG (f:=Value.int .i64) 3).ghost 3 1;exact h1.pick [1,2,3,4,0] (by decide) rfl rfl) ?_
  refine AK.retG [.cell 2 32,.tmp 3] rfl (.cons (.cell ag32 rfl bsp rfl rfl) (.cons (.tmp rfl) (.nil))) (fun w hw=>⟨_,_,?_,rfl,Ret.of (hw.pick [0,1,2,3] (by decide) rfl rfl)⟩)
  have e1:TrimV d=nilD:=if_neg hnv
  have e2:NumV d=[]:=if_neg hnv
  rw [e1,e2]
  exact ⟨_,_,_,[],rfl,rfl,nilSl,nilSl,nilSl,rfl⟩
 ·have hv:VD d:=(errV_iff d).1 hc0
  have hvL:=hv.L
  have hLL:((d.L.toNat:Nat):Int)=d.L:=by omega
  obtain ⟨tk1,tk2,tk3,tk4⟩:=TSt_ok hv
  have hn5:=hv.n
  refine .skip ?_
  refine AK.then_ (hK2 _ ?_)
  refine .sr fun _ hK5=>?_
  refine .v (.fieldAddr fd32_0 rfl) (.v (.loadBox on3 rfl bsp rfl) (.v (.fieldAddr fd32_1 rfl) (.v (.loadBox on3 rfl bsp rfl) (.v (.makeFunc (first:=[]) (captured:=[.tmp 1]) rfl rfl) (.v (.makeFunc (first:=[]) (captured:=[.tmp 1]) rfl rfl) ?_)))))
  refine AK.call co123 rfl (fun w hw=>(by have h:=s_exploreI w d.L.toNat d.s (stepQ d) (finQ d) (univ d.fin.length) 124 125 [.pointer (some ⟨bx1,0,none⟩)] [.pointer (some ⟨bx1,0,none⟩)] (by omega) (start_univ hv) (by rw [univ_len];exact hv.n) (step_univ hv) co124 co125 (fun w' hfr q hq x hx=>s_trim1 w' q x bx1 d vF vN hv ((BxA.own 0 hw rfl).fr hfr) ((hF0.at hw).fr hfr) ((hN0.at hw).fr hfr) (mem_univ.1 hq) hx) (fun w' hfr q hq=>s_trim2 w' q bx1 d vF vN hv ((BxA.own 0 hw rfl).fr hfr) ((hF0.at hw).fr hfr) ((hN0.at hw).fr hfr) (mem_univ.1 hq));rw [hLL] at h;exact h)) trivial rfl ?_
  rintro r o ⟨n,vL,vF2,vN2,rs2,hn,hrs,sL,sF2,sN2,rfl,rfl⟩
  obtain ⟨ht1,ht2⟩:=trim_is hv hn
  rw [ht1,ht2]
  have hTl:n=(TSt d).length:=by rw [← ht1];exact hn
  refine .mv rfl (.v (.extract rfl rfl) (.v (.extract rfl rfl) (.v (.extract rfl rfl) ?_)))
  refine AK.alloc el32 rfl rfl trivial rfl (fun bx4=>?_)
  refine AK.storeBox 6 (us:=[.int .i64 d.L,.int .i64 0,vF2,vN2]) (cs':=[.int .i64 d.L,.int .i64 0,vF2,vN2]) rfl sz32 rfl rfl rfl rfl oneP (leb rfl) rfl trivial ?_
  refine .as rfl (.as rfl (.nt hK5 ?_))
  refine .sr fun _ hK6=>?_
  refine .v (.fieldAddr fd32_2 rfl) (.v (.loadBox on29 rfl bsp rfl) (.v (.lenR sl29 rfl rdp) ?_))
  refine AK.make1 (n:=d.fin.length) sl67 el3 rfl rfl rfl (by omega) (by omega) trivial rfl (fun mv=>?_)
  refine .as rfl (.nt hK6 ?_)
  refine .seq fun _ hK7=>?_
  refine .sr fun _ hK8=>?_
  refine .mv rfl (.v (.lenR sl67 rfl rdp) (.mv rfl (.nt hK8 (.block ?_))))
  refine AK.loopK (X:=Nat) [(2,_),(4,_),(5,_),(7,_),(31,_)] (fun k=>[(32,.int .i64 (k:Int))]) (fun k=>[box bx1 32 4 [.int .i64 d.L,.int .i64 d.s,vF,vN],box bx2 32 4 [.int .i64 0,.int .i64 0,.slice none 0 0,.slice none 0 0],row vF2 4 1 (trimD d).fin.length ((trimD d).fin.map Value.bool),row vN2 67 1 (trimD d).nx.length rs2,bigA (matG (Value.int .i64) 3 rs2 (trimD d).nx),row vL 3 1 (TSt d).length ((TSt d).map (Value.int .i64)),box bx4 32 4 [.int .i64 d.L,.int .i64 0,vF2,vN2],row mv 3 1 d.fin.length ((List.replicate k (-1)++List.replicate (d.fin.length - k) (0:Int)).map (Value.int .i64))]) (fun k=>k≤d.fin.length) (fun k=>d.fin.length - k) (0) slr ?_ ?_ ?_ ?_
  ·exact Nat.zero_le _
  ·exact slr
  ·exact fun w hw=>by have e:((List.replicate 0 (-1)++List.replicate (d.fin.length - 0) (0:Int)).map (Value.int .i64))=List.replicate d.fin.length (Value.int .i64 0):=(by simp);rw [e];exact hw
  ·intro k hg0 _ hK9
   refine .sr fun _ hK10=>?_
   refine .v (.lss rfl rfl) (.nt hK10 ?_)
   refine .seq fun _ hK11=>?_
   refine AK.condD rfl (fun hc1=>?_) (fun hc1=>?_)
   ·refine .skip ?_
    refine AK.then_ (hK11 _ ?_)
    refine .seq fun _ hK12=>?_
    refine .block ?_
    refine .sr fun _ hK13=>?_
    refine .mv rfl (.as rfl (.nt hK13 ?_))
    refine AK.region ?_
    refine .mv rfl (.mv rfl ?_)
    first | refine .v (.iN sl67 rfl rfl) ?_ | refine .v (.iK sl67 rfl rfl) ?_
    refine AK.store1e 7 rfl sz3 rfl rfl rfl rfl (by omega) (cs':=((List.replicate (k+1) (-1)++List.replicate (d.fin.length - (k+1)) (0:Int)).map (Value.int .i64))) (by rw [List.replicate_succ'];exact fill_set (Value.int .i64) (List.replicate k (-1)) 0 (-1) d.fin.length k (by simp) (by omega)) trivial ?_
    refine .nil (.block_normal ?_)
    refine AK.then_ (hK12 _ ?_)
    refine AK.region ?_
    refine .v (.add rfl rfl (by omega)) ?_
    refine .mv rfl (.nil ?_)
    refine AK.then_ (hK9 _ _ (k+1) (by omega) (by omega) (slr) (fun w hw=>hw))
   ·refine AK.shape 7 rfl (fun smv=>?_)
    refine .exit (.then_exit (.then_exit (.block_exit ?_)))
    refine AK.then_ (hK7 _ ?_)
    refine .seq fun _ hK14=>?_
    refine .sr fun _ hK15=>?_
    refine .mv rfl (.v (.lenR sl67 rfl rdp) (.mv rfl (.nt hK15 (.block ?_))))
    refine AK.loopK (X:=Nat) [(2,_),(4,_),(7,_),(39,_),(40,_)] (fun k=>[(41,.int .i64 (k:Int))]) (fun k=>[box bx1 32 4 [.int .i64 d.L,.int .i64 d.s,vF,vN],box bx2 32 4 [.int .i64 0,.int .i64 0,.slice none 0 0,.slice none 0 0],row vF2 4 1 (trimD d).fin.length ((trimD d).fin.map Value.bool),row vN2 67 1 (trimD d).nx.length rs2,bigA (matG (Value.int .i64) 3 rs2 (trimD d).nx),row vL 3 1 (TSt d).length ((TSt d).map (Value.int .i64)),box bx4 32 4 [.int .i64 d.L,.int .i64 0,vF2,vN2],row mv 3 1 d.fin.length ((numK d.fin.length (TSt d) k).map (Value.int .i64))]) (fun k=>k≤(TSt d).length) (fun k=>(TSt d).length - k) (0) slr ?_ ?_ ?_ ?_
    ·exact Nat.zero_le _
    ·exact slr
    ·exact fun w hw=>by have e:(List.replicate k (-1)++List.replicate (d.fin.length - k) (0:Int))=numK d.fin.length (TSt d) 0:=(by rw [show k=d.fin.length by omega,Nat.sub_self];simp [numK]);rw [e] at hw;exact hw
    ·intro k hg1 _ hK16
     refine .sr fun _ hK17=>?_
     refine .v (.lss rfl rfl) (.nt hK17 ?_)
     refine .seq fun _ hK18=>?_
     refine AK.condD rfl (fun hc2=>?_) (fun hc2=>?_)
     ·have htk:=tk2 _ (getD_mem (d:=0) (xs:=TSt d) (k:=k) (by omega))
      refine .skip ?_
      refine AK.then_ (hK18 _ ?_)
      refine .seq fun _ hK19=>?_
      refine .block ?_
      refine .sr fun _ hK20=>?_
      refine .mv rfl ?_
      first | refine .v (.iN sl67 rfl rfl) ?_ | refine .v (.iK sl67 rfl rfl) ?_
      refine .v (.loadI on3 rfl rdp (by omega)) ?_
      refine .as rfl (.as rfl (.nt hK20 ?_))
      refine AK.region ?_
      refine .mv rfl (.mv rfl (.mv rfl ?_))
      first | refine .v (.iN sl67 rfl rfl) ?_ | refine .v (.iK sl67 rfl rfl) ?_
      refine AK.store1e 7 rfl sz3 rfl rfl rfl rfl (by have:=numK_len d.fin.length (TSt d) k;omega) (cs':=((numK d.fin.length (TSt d) (k+1)).map (Value.int .i64))) (by rw [numK_succ,List.map_set]) trivial ?_
      refine .nil (.block_normal ?_)
      refine AK.then_ (hK19 _ ?_)
      refine AK.region ?_
      refine .v (.add rfl rfl (by omega)) ?_
      refine .mv rfl (.nil ?_)
      refine AK.then_ (hK16 _ _ (k+1) (by omega) (by omega) (slr) (fun w hw=>hw))
     ·refine .exit (.then_exit (.then_exit (.block_exit ?_)))
      refine AK.then_ (hK14 _ ?_)
      refine .sr fun _ hK21=>?_
      refine .v (.loadBoxG ag32 rfl bsp rfl rfl) (.mv rfl ?_)
      refine AK.storeBox 1 (us:=[.int .i64 d.L,.int .i64 0,vF2,vN2]) (cs':=[.int .i64 d.L,.int .i64 0,vF2,vN2]) rfl sz32 rfl rfl rfl rfl oneP (leb rfl) rfl trivial ?_
      refine .as rfl (.nt hK21 (.ret ?_))
      refine AK.retG [.cell 2 32,.tmp 3] rfl (.cons (.cell ag32 rfl bsp rfl rfl) (.cons (.tmp rfl) (.nil))) (fun w hw=>⟨_,_,?_,rfl,Ret.of (hw.pick [2,3,4,7] (by decide) rfl rfl)⟩)
      have e1:TrimV d=trimD d:=if_pos hv
      have e2:NumV d=numT d:=if_pos hv
      rw [e1,e2]
      refine ⟨vF2,vN2,mv,rs2,rfl,?_,sF2,sN2,smv,?_⟩
      ·rw [hrs,hTl];simp [trimD]
      ·have e3:(numT d).length=d.fin.length:=numK_len _ _ _
       rw [e3];unfold numT;rw [show (TSt d).length=k by omega];rfl
end Go.Proofs.YtbibnpdnmmgacaaGreatDoor
