import Derived.Test.YtckicbgffhbacaaDoorN3
import Derived.Test.YtckicbgffhbacaaDoorNf
set_option linter.unusedVariables false
set_option linter.unusedSimpArgs false
namespace Go.Proofs.YtckicbgffhbacaaDoor
open Go.Sx Go.RowKit
set_option maxHeartbeats 2000000 in
set_option maxRecDepth 100000 in
theorem s_successors (w : World) (v : Value) (n : Nfa) (h : RdN (fun _ => False) w v n) (hv : VN n) : CallS Tryd.prog 36 [v] w (fun r o => ∃ ws : List Value, ws.length = n.L.toNat ∧ IsSl r ∧ o = [row r 33 1 n.L.toNat ws, bigA (matG uv 22 ws (mtK n n.es.length))]) := by
 have h0 := h
 obtain ⟨vE, rfl, hE⟩ := h
 have sE := Rd.sl hE
 have hme := Rd.le hE
 have hS := hv.S
 have hL := hv.L
 refine spec_of Tryd.func36 rfl (Nat.le_of_ble_eq_true rfl) ?_
 refine .sr fun _ hK1 => ?_
 refine AK.box_ (E := 25) (cs := [.int .i64 n.L, .int .i64 n.S, uv n.st, uv n.fi, vE]) rfl rfl rfl trivial rfl (fun bx1 => ?_)
 refine .as rfl (.nt hK1 ?_)
 refine .sr fun _ hK2 => ?_
 refine .v (.fieldAddr fd25_0 rfl) ?_
 refine AK.val (.int .i64 ((n.L.toNat : Nat) : Int)) (Yl.valE (Yl.loadBox on3 rfl bsp rfl) (congrArg (Value.int .i64) (by omega))) trivial rfl ?_
 refine AK.make1 (n := n.L.toNat) sl69 el33 rfl rfl rfl (by omega) (by omega) trivial rfl (fun tv => ?_)
 refine AK.shape (v := tv) 1 rfl (fun stv => ?_)
 refine .as rfl (.nt hK2 ?_)
 refine .seq fun _ hK3 => ?_
 refine .sr fun _ hK4 => ?_
 refine .mv rfl ?_
 refine .v (.lenR sl69 rfl rdp) ?_
 refine .mv rfl (.nt hK4 (.block ?_))
 refine AK.loopK (X := Nat × List Value) [(1, _), (3, _), (11, _)] (fun x => [(12, .int .i64 (x.1 : Int))]) (fun x => [box bx1 25 5 [.int .i64 n.L, .int .i64 n.S, uv n.st, uv n.fi, vE], row tv 33 1 n.L.toNat (x.2 ++ List.replicate (n.L.toNat - x.1) (.slice none 0 0)), bigA (matG uv 22 x.2 (List.replicate x.1 (List.replicate n.S.toNat (0 : W64))))]) (fun x => x.1 ≤ n.L.toNat ∧ x.2.length = x.1) (fun x => n.L.toNat - x.1) ((0, [])) slr ?_ ?_ ?_ ?_
 ·exact ⟨Nat.zero_le _, rfl⟩
 ·exact slr
 ·exact fun w hw => by dsimp only; rw [Nat.sub_zero, List.nil_append]; exact (hw.ghostG (f := uv) 22).pick [0, 1, 2] (by decide) rfl rfl
 ·intro x hg0 _ hK5
  refine .sr fun _ hK6 => ?_
  refine .v (.lss rfl rfl) ?_
  refine .nt hK6 ?_
  refine .seq fun _ hK7 => ?_
  refine AK.condD rfl (fun hc0 => ?_) (fun hc0 => ?_)
  ·refine .skip ?_
   refine AK.then_ (hK7 _ ?_)
   refine .seq fun _ hK8 => ?_
   refine .block ?_
   refine .sr fun _ hK9 => ?_
   refine .mv rfl (.as rfl (.nt hK9 ?_))
   refine AK.region ?_
   refine .mv rfl (.mv rfl ?_)
   refine .v (.fieldAddr fd25_1 rfl) ?_
   refine .v (.valE (v' := .int .i64 ((n.S.toNat : Nat) : Int)) (Yl.loadBox on3 rfl bsp rfl) (congrArg (Value.int .i64) (by omega))) ?_
   refine AK.make1 (n := n.S.toNat) sl33 el22 rfl rfl rfl (by omega) (by omega) trivial rfl (fun rv => ?_)
   refine AK.shape (v := rv) 3 rfl (fun srv => ?_)
   first | refine .v (.iN sl69 rfl rfl) ?_ | refine .v (.iK sl69 rfl rfl) ?_
   refine AK.store1e 1 rfl sz33 rfl rfl srv.cells srv.one (by omega) (cs' := ((x.2 ++ [rv]) ++ List.replicate (n.L.toNat - (x.1 + 1)) (.slice none 0 0))) (fillW hg0.2 (by omega)) trivial ?_
   refine .nil (.block_normal ?_)
   refine AK.then_ (hK8 _ ?_)
   refine AK.region ?_
   refine .v (.add rfl rfl (by omega)) ?_
   refine .mv rfl (.nil ?_)
   refine AK.then_ (hK5 _ _ ((x.1 + 1, x.2 ++ [rv])) ⟨by dsimp only; omega, by dsimp only; rw [List.length_append, hg0.2]; rfl⟩ (by dsimp only; omega) (slr) (fun w hw => by
  dsimp only
  rw [List.replicate_succ', matG_snoc (by rw [List.length_replicate, hg0.2]), List.length_replicate, List.map_replicate]
  exact HW.absorb (own := [_, _, _]) 2 rfl hw))
  ·have hxL : x.1 = n.L.toNat := (by omega)
   obtain ⟨ws, hws⟩ : ∃ ws, ws = x.2 := ⟨_, rfl⟩
   have hwl : ws.length = n.L.toNat := (by rw [hws, hg0.2, hxL])
   refine AK.own' [box bx1 25 5 [.int .i64 n.L, .int .i64 n.S, uv n.st, uv n.fi, vE], row tv 33 1 n.L.toNat ws, bigA (matG uv 22 ws (List.replicate n.L.toNat (List.replicate n.S.toNat (0 : W64))))] (fun w hw => by rw [hws]; rw [hxL, Nat.sub_self, List.replicate_zero, List.append_nil] at hw; exact hw) ?_
   refine .exit (.then_exit (.then_exit (.block_exit ?_)))
   refine AK.then_ (hK3 _ ?_)
   refine .seq fun _ hK10 => ?_
   refine .sr fun _ hK11 => ?_
   refine .v (.fieldAddr fd25_4 rfl) ?_
   refine .v (.loadBox on23 rfl bsp rfl) ?_
   refine .v (.lenR sl23 rfl rdp) ?_
   refine .mv rfl (.nt hK11 (.block ?_))
   refine AK.loopK (X := Nat) [(3, _), (23, _), (24, _)] (fun k => [(25, .int .i64 (k : Int))]) (fun k => [box bx1 25 5 [.int .i64 n.L, .int .i64 n.S, uv n.st, uv n.fi, vE], row tv 33 1 n.L.toNat ws, bigA (matG uv 22 ws (mtK n k))]) (fun k => k ≤ n.es.length) (fun k => n.es.length - k) (0) slr ?_ ?_ ?_ ?_
   ·exact Nat.zero_le _
   ·exact slr
   ·exact fun w hw => by rw [mtK_zero]; exact hw
   ·intro k hg1 _ hK12
    refine .sr fun _ hK13 => ?_
    refine .v (.lss rfl rfl) ?_
    refine .nt hK13 ?_
    refine .seq fun _ hK14 => ?_
    refine AK.condD rfl (fun hc1 => ?_) (fun hc1 => ?_)
    ·have hed := hv.edge (k := k) (by omega)
     obtain ⟨a, ha⟩ : ∃ a : Nat, (n.es.getD k (0, 0, 0)).2.1 = (a : Int) := ⟨(n.es.getD k (0, 0, 0)).2.1.toNat, by omega⟩
     obtain ⟨p, hp⟩ : ∃ p : Nat, (n.es.getD k (0, 0, 0)).1 = (p : Int) := ⟨(n.es.getD k (0, 0, 0)).1.toNat, by omega⟩
     have hap : a < n.L.toNat := (by omega)
     have hpp : p < n.S.toNat := (by omega)
     have hrl := mtK_rlen (n := n) (k := k) hap
     refine .skip ?_
     refine AK.then_ (hK14 _ ?_)
     refine .seq fun _ hK15 => ?_
     refine .block ?_
     refine .sr fun _ hK16 => ?_
     first | refine .v (.iN sl23 rfl rfl) ?_ | refine .v (.iK sl23 rfl rfl) ?_
     refine .v (.loadEd ag51 rfl rdp (by omega)) ?_
     refine AK.alloc el51 rfl rfl trivial rfl (fun bx6 => ?_)
     refine AK.storeBox 3 (us := ecs (n.es.getD k (0, 0, 0))) (cs' := ecs (n.es.getD k (0, 0, 0))) rfl sz51 rfl rfl rfl rfl (ecs_one _) (Nat.le_of_ble_eq_true rfl) rfl trivial ?_
     refine .nt hK16 ?_
     refine AK.stillTail 14 mixed krf (fun _ hws => ?_)
     refine .v hws (.move rfl) ?_
     refine .v hws (.fieldAddr fd51_1 rfl) ?_
     refine .v hws (.loadBox on3 rfl bsp rfl) ?_
     refine .v hws (.valE (Yl.idxN (k := a) sl69 rfl (by rw [← ha]; rfl) rdp (by decide) hap) rfl) ?_
     refine SK.val hws (ws.getD a undef) (Yl.loadV on33 rfl rdp (by omega)) trivial rfl ?_
     refine .v hws (.fieldAddr fd51_0 rfl) ?_
     refine .v hws (.loadBox on3 rfl bsp rfl) ?_
     refine .v hws (.idxN (k := p) sl33 rfl (by rw [← hp]; rfl) (RdS.big 2 a rfl (matG_get (by rw [mtK_len]; exact hwl) (by rw [mtK_len]; exact hap))) (by decide) (by rw [hrl]; exact hpp)) ?_
     refine .v hws (.loadU (j := p) on22 rfl (RdS.big 2 a rfl (matG_get (by rw [mtK_len]; exact hwl) (by rw [mtK_len]; exact hap))) (by rw [hrl]; exact hpp)) ?_
     refine .v hws (.fieldAddr fd51_2 rfl) ?_
     refine .v hws (.loadBox on3 rfl bsp rfl) ?_
     refine .v hws (.shlU (a := 1) rfl rfl (by omega)) ?_
     refine .v hws (.orU rfl rfl) ?_
     refine .v hws (.idxN (k := p) sl33 rfl (by rw [← hp]; rfl) (RdS.big 2 a rfl (matG_get (by rw [mtK_len]; exact hwl) (by rw [mtK_len]; exact hap))) (by decide) (by rw [hrl]; exact hpp)) ?_
     refine SK.nil (SK.fin hws ?_)
     refine AK.storeIn 2 a (j := p) (u := uv (((mtK n k).getD a []).getD p 0 ||| bit (n.es.getD k (0, 0, 0)).2.2)) (cs' := (((mtK n k).getD a []).set p (((mtK n k).getD a []).getD p 0 ||| bit (n.es.getD k (0, 0, 0)).2.2)).map uv) rfl (matG_get (by rw [mtK_len]; exact hwl) (by rw [mtK_len]; exact hap)) sz22 rfl rfl rfl rfl (by rw [hrl]; exact hpp) (by rw [List.map_set]) trivial ?_
     refine AK.own' [box bx1 25 5 [.int .i64 n.L, .int .i64 n.S, uv n.st, uv n.fi, vE], row tv 33 1 n.L.toNat ws, bigA (matG uv 22 ws ((mtK n k).set a (((mtK n k).getD a []).set p (((mtK n k).getD a []).getD p 0 ||| bit (n.es.getD k (0, 0, 0)).2.2)))), box bx6 51 3 (ecs (n.es.getD k (0, 0, 0)))] (fun w hw => by rw [← matG_set (by rw [mtK_len]; exact hwl) (by rw [mtK_len]; exact hap), List.length_set]; exact hw) ?_
     refine .nil (.block_normal ?_)
     refine AK.then_ (hK15 _ ?_)
     refine AK.region ?_
     refine .v (.add rfl rfl (by omega)) ?_
     refine .mv rfl (.nil ?_)
     refine AK.then_ (hK12 _ _ (k + 1) (by omega) (by omega) (slr) (fun w hw => by rw [mtK_next ha hp]; exact hw.pick [0, 1, 2] (by decide) rfl rfl))
    ·refine .exit (.then_exit (.then_exit (.block_exit ?_)))
     refine AK.then_ (hK10 _ ?_)
     refine .sr fun _ hK17 => ?_
     refine .mv rfl (.as rfl (.nt hK17 (.ret ?_)))
     refine AK.ret1 rfl rfl (fun w hw => ⟨_, _, ?_, rfl, Ret.of (hw.pick [1, 2] (by decide) rfl rfl)⟩)
     have e : k = n.es.length := (by omega)
     subst e
     exact ⟨ws, hwl, stv, rfl⟩

set_option maxHeartbeats 2000000 in
set_option maxRecDepth 100000 in
theorem s_steps (w : World) (v : Value) (n : Nfa) (h : RdN (fun _ => False) w v n) (hv : VN n) : CallS Tryd.prog 26 [v] w (fun r o => ∃ (bq : Nat) (tq : Value) (ws : List Value), ws.length = n.L.toNat ∧ r = .func (.func 43) #[] #[.pointer (some ⟨bq, 0, none⟩)] ∧ o = [box bq 69 1 [tq], row tq 33 1 n.L.toNat ws, bigA (matG uv 22 ws (mtK n n.es.length))]) := by
 have h0 := h
 obtain ⟨vE, rfl, hE⟩ := h
 have sE := Rd.sl hE
 have hme := Rd.le hE
 have hS := hv.S
 have hL := hv.L
 refine spec_of Tryd.func26 rfl (Nat.le_of_ble_eq_true rfl) ?_
 refine .sr fun _ hK1 => ?_
 refine AK.box_ (E := 25) (cs := [.int .i64 n.L, .int .i64 n.S, uv n.st, uv n.fi, vE]) rfl rfl rfl trivial rfl (fun bx1 => ?_)
 refine .as rfl (.nt hK1 ?_)
 refine .sr fun _ hK2 => ?_
 refine .v (.fieldAddr fd25_0 rfl) ?_
 refine AK.val (.int .i64 ((n.L.toNat : Nat) : Int)) (Yl.valE (Yl.loadBox on3 rfl bsp rfl) (congrArg (Value.int .i64) (by omega))) trivial rfl ?_
 refine AK.make1 (n := n.L.toNat) sl69 el33 rfl rfl rfl (by omega) (by omega) trivial rfl (fun tv => ?_)
 refine AK.shape (v := tv) 1 rfl (fun stv => ?_)
 refine AK.alloc el69 rfl rfl trivial rfl (fun bx3 => ?_)
 refine AK.storeBox 2 (us := [tv]) (cs' := [tv]) rfl sz69 rfl rfl (by rw [IsSl.cells (by assumption)]) rfl oneP (Nat.le_of_ble_eq_true rfl) rfl trivial ?_
 refine .nt hK2 ?_
 refine .seq fun _ hK3 => ?_
 refine .sr fun _ hK4 => ?_
 refine .v (.loadBox on69 rfl bsp rfl) ?_
 refine .v (.lenR sl69 rfl rdp) ?_
 refine .mv rfl (.nt hK4 (.block ?_))
 refine AK.loopK (X := Nat × List Value) [(1, _), (3, _), (11, _)] (fun x => [(12, .int .i64 (x.1 : Int))]) (fun x => [box bx1 25 5 [.int .i64 n.L, .int .i64 n.S, uv n.st, uv n.fi, vE], box bx3 69 1 [tv], row tv 33 1 n.L.toNat (x.2 ++ List.replicate (n.L.toNat - x.1) (.slice none 0 0)), bigA (matG uv 22 x.2 (List.replicate x.1 (List.replicate n.S.toNat (0 : W64))))]) (fun x => x.1 ≤ n.L.toNat ∧ x.2.length = x.1) (fun x => n.L.toNat - x.1) ((0, [])) slr ?_ ?_ ?_ ?_
 ·exact ⟨Nat.zero_le _, rfl⟩
 ·exact slr
 ·exact fun w hw => by dsimp only; rw [Nat.sub_zero, List.nil_append]; exact (hw.ghostG (f := uv) 22).pick [0, 2, 1, 3] (by decide) rfl rfl
 ·intro x hg0 _ hK5
  refine .sr fun _ hK6 => ?_
  refine .v (.lss rfl rfl) ?_
  refine .nt hK6 ?_
  refine .seq fun _ hK7 => ?_
  refine AK.condD rfl (fun hc0 => ?_) (fun hc0 => ?_)
  ·refine .skip ?_
   refine AK.then_ (hK7 _ ?_)
   refine .seq fun _ hK8 => ?_
   refine .block ?_
   refine .sr fun _ hK9 => ?_
   refine .mv rfl (.as rfl (.nt hK9 ?_))
   try (conv => enter [2, 2]; dsimp only [List.set_cons_zero, List.set_cons_succ, List.cons_append, List.nil_append])
   refine AK.held 6 mixed ?_
   refine HeldK.first 0 (fuel := 6) (listed' := (lb 7 1)) _ rfl krf krf rfl (Yl.loadBox on69 rfl bsp rfl) trivial rfl ?_
   refine HeldK.first 1 (fuel := 5) (listed' := (lb 7 3)) _ rfl krf krf rfl (Yl.move rfl) trivial rfl ?_
   refine HeldK.first 2 (fuel := 4) (listed' := (lb 7 7)) _ rfl krf krf rfl (Yl.fieldAddr fd25_1 rfl) trivial rfl ?_
   refine HeldK.first 3 (fuel := 3) (listed' := (lb 7 15)) _ rfl krf krf rfl (Yl.valE (v' := .int .i64 ((n.S.toNat : Nat) : Int)) (Yl.loadBox on3 rfl bsp rfl) (congrArg (Value.int .i64) (by omega))) trivial rfl ?_
   refine HeldK.one 4 (fuel := 2) (listed' := (lb 7 31)) krf rfl krf ?_
   refine AK.make1 (n := n.S.toNat) sl33 el22 rfl rfl rfl (by omega) (by omega) trivial rfl (fun rv => ?_)
   refine .nil ?_
   try (conv => enter [2, 2]; dsimp only [List.set_cons_zero, List.set_cons_succ, List.cons_append, List.nil_append])
   refine HeldK.back Go.Sx.hle ?_
   refine AK.shape (v := rv) 4 rfl (fun srv => ?_)
   first | refine HeldK.first 5 (fuel := 1) (listed' := (lb 7 63)) _ rfl krf krf rfl (.iN sl69 rfl rfl) trivial rfl ?_ | refine HeldK.first 5 (fuel := 1) (listed' := (lb 7 63)) _ rfl krf krf rfl (.iK sl69 rfl rfl) trivial rfl ?_
   refine HeldK.one 6 (fuel := 0) (listed' := (lb 7 127)) krf rfl krf ?_
   refine AK.store1e 2 rfl sz33 rfl rfl srv.cells srv.one (by omega) (cs' := ((x.2 ++ [rv]) ++ List.replicate (n.L.toNat - (x.1 + 1)) (.slice none 0 0))) (fillW hg0.2 (by omega)) trivial ?_
   refine .nil ?_
   try (conv => enter [2, 2]; dsimp only [List.set_cons_zero, List.set_cons_succ, List.cons_append, List.nil_append])
   refine HeldK.backN 7 krf rfl krf ?_
   refine .nil ?_
   refine AK.fromQn ?_
   refine .block_normal ?_
   refine AK.then_ (hK8 _ ?_)
   refine AK.region ?_
   refine .v (.add rfl rfl (by omega)) ?_
   refine .mv rfl (.nil ?_)
   refine AK.then_ (hK5 _ _ ((x.1 + 1, x.2 ++ [rv])) ⟨by dsimp only; omega, by dsimp only; rw [List.length_append, hg0.2]; rfl⟩ (by dsimp only; omega) (slr) (fun w hw => by
  dsimp only
  rw [List.replicate_succ', matG_snoc (by rw [List.length_replicate, hg0.2]), List.length_replicate, List.map_replicate]
  exact HW.absorb (own := [_, _, _, _]) 3 rfl hw))
  ·have hxL : x.1 = n.L.toNat := (by omega)
   obtain ⟨ws, hws⟩ : ∃ ws, ws = x.2 := ⟨_, rfl⟩
   have hwl : ws.length = n.L.toNat := (by rw [hws, hg0.2, hxL])
   refine AK.own' [box bx1 25 5 [.int .i64 n.L, .int .i64 n.S, uv n.st, uv n.fi, vE], box bx3 69 1 [tv], row tv 33 1 n.L.toNat ws, bigA (matG uv 22 ws (List.replicate n.L.toNat (List.replicate n.S.toNat (0 : W64))))] (fun w hw => by rw [hws]; rw [hxL, Nat.sub_self, List.replicate_zero, List.append_nil] at hw; exact hw) ?_
   refine .exit (.then_exit (.then_exit (.block_exit ?_)))
   refine AK.then_ (hK3 _ ?_)
   refine .seq fun _ hK10 => ?_
   refine .sr fun _ hK11 => ?_
   refine .v (.fieldAddr fd25_4 rfl) ?_
   refine .v (.loadBox on23 rfl bsp rfl) ?_
   refine .v (.lenR sl23 rfl rdp) ?_
   refine .mv rfl (.nt hK11 (.block ?_))
   refine AK.loopK (X := Nat) [(3, _), (23, _), (24, _)] (fun k => [(25, .int .i64 (k : Int))]) (fun k => [box bx1 25 5 [.int .i64 n.L, .int .i64 n.S, uv n.st, uv n.fi, vE], box bx3 69 1 [tv], row tv 33 1 n.L.toNat ws, bigA (matG uv 22 ws (mtK n k))]) (fun k => k ≤ n.es.length) (fun k => n.es.length - k) (0) slr ?_ ?_ ?_ ?_
   ·exact Nat.zero_le _
   ·exact slr
   ·exact fun w hw => by rw [mtK_zero]; exact hw
   ·intro k hg1 _ hK12
    refine .sr fun _ hK13 => ?_
    refine .v (.lss rfl rfl) ?_
    refine .nt hK13 ?_
    refine .seq fun _ hK14 => ?_
    refine AK.condD rfl (fun hc1 => ?_) (fun hc1 => ?_)
    ·have hed := hv.edge (k := k) (by omega)
     obtain ⟨a, ha⟩ : ∃ a : Nat, (n.es.getD k (0, 0, 0)).2.1 = (a : Int) := ⟨(n.es.getD k (0, 0, 0)).2.1.toNat, by omega⟩
     obtain ⟨p, hp⟩ : ∃ p : Nat, (n.es.getD k (0, 0, 0)).1 = (p : Int) := ⟨(n.es.getD k (0, 0, 0)).1.toNat, by omega⟩
     have hap : a < n.L.toNat := (by omega)
     have hpp : p < n.S.toNat := (by omega)
     have hrl := mtK_rlen (n := n) (k := k) hap
     refine .skip ?_
     refine AK.then_ (hK14 _ ?_)
     refine .seq fun _ hK15 => ?_
     refine .block ?_
     refine .sr fun _ hK16 => ?_
     first | refine .v (.iN sl23 rfl rfl) ?_ | refine .v (.iK sl23 rfl rfl) ?_
     refine .v (.loadEd ag51 rfl rdp (by omega)) ?_
     refine AK.alloc el51 rfl rfl trivial rfl (fun bx6 => ?_)
     refine AK.storeBox 4 (us := ecs (n.es.getD k (0, 0, 0))) (cs' := ecs (n.es.getD k (0, 0, 0))) rfl sz51 rfl rfl rfl rfl (ecs_one _) (Nat.le_of_ble_eq_true rfl) rfl trivial ?_
     refine .nt hK16 ?_
     refine AK.stillTail 14 mixed krf (fun _ hws => ?_)
     refine .v hws (.loadBox on69 rfl bsp rfl) ?_
     refine .v hws (.fieldAddr fd51_1 rfl) ?_
     refine .v hws (.loadBox on3 rfl bsp rfl) ?_
     refine .v hws (.valE (Yl.idxN (k := a) sl69 rfl (by rw [← ha]; rfl) rdp (by decide) hap) rfl) ?_
     refine SK.val hws (ws.getD a undef) (Yl.loadV on33 rfl rdp (by omega)) trivial rfl ?_
     refine .v hws (.fieldAddr fd51_0 rfl) ?_
     refine .v hws (.loadBox on3 rfl bsp rfl) ?_
     refine .v hws (.idxN (k := p) sl33 rfl (by rw [← hp]; rfl) (RdS.big 3 a rfl (matG_get (by rw [mtK_len]; exact hwl) (by rw [mtK_len]; exact hap))) (by decide) (by rw [hrl]; exact hpp)) ?_
     refine .v hws (.loadU (j := p) on22 rfl (RdS.big 3 a rfl (matG_get (by rw [mtK_len]; exact hwl) (by rw [mtK_len]; exact hap))) (by rw [hrl]; exact hpp)) ?_
     refine .v hws (.fieldAddr fd51_2 rfl) ?_
     refine .v hws (.loadBox on3 rfl bsp rfl) ?_
     refine .v hws (.shlU (a := 1) rfl rfl (by omega)) ?_
     refine .v hws (.orU rfl rfl) ?_
     refine .v hws (.idxN (k := p) sl33 rfl (by rw [← hp]; rfl) (RdS.big 3 a rfl (matG_get (by rw [mtK_len]; exact hwl) (by rw [mtK_len]; exact hap))) (by decide) (by rw [hrl]; exact hpp)) ?_
     refine SK.nil (SK.fin hws ?_)
     refine AK.storeIn 3 a (j := p) (u := uv (((mtK n k).getD a []).getD p 0 ||| bit (n.es.getD k (0, 0, 0)).2.2)) (cs' := (((mtK n k).getD a []).set p (((mtK n k).getD a []).getD p 0 ||| bit (n.es.getD k (0, 0, 0)).2.2)).map uv) rfl (matG_get (by rw [mtK_len]; exact hwl) (by rw [mtK_len]; exact hap)) sz22 rfl rfl rfl rfl (by rw [hrl]; exact hpp) (by rw [List.map_set]) trivial ?_
     refine AK.own' [box bx1 25 5 [.int .i64 n.L, .int .i64 n.S, uv n.st, uv n.fi, vE], box bx3 69 1 [tv], row tv 33 1 n.L.toNat ws, bigA (matG uv 22 ws ((mtK n k).set a (((mtK n k).getD a []).set p (((mtK n k).getD a []).getD p 0 ||| bit (n.es.getD k (0, 0, 0)).2.2)))), box bx6 51 3 (ecs (n.es.getD k (0, 0, 0)))] (fun w hw => by rw [← matG_set (by rw [mtK_len]; exact hwl) (by rw [mtK_len]; exact hap), List.length_set]; exact hw) ?_
     refine .nil (.block_normal ?_)
     refine AK.then_ (hK15 _ ?_)
     refine AK.region ?_
     refine .v (.add rfl rfl (by omega)) ?_
     refine .mv rfl (.nil ?_)
     refine AK.then_ (hK12 _ _ (k + 1) (by omega) (by omega) (slr) (fun w hw => by rw [mtK_next ha hp]; exact hw.pick [0, 1, 2, 3] (by decide) rfl rfl))
    ·refine .exit (.then_exit (.then_exit (.block_exit ?_)))
     refine AK.then_ (hK10 _ ?_)
     refine .sr fun _ hK17 => ?_
     refine .v (.makeFunc (first := []) (captured := [.tmp 3]) rfl rfl) ?_
     refine .as rfl (.nt hK17 (.ret ?_))
     refine AK.ret1 rfl rfl (fun w hw => ⟨_, _, ?_, rfl, Ret.of (hw.pick [1, 2, 3] (by decide) rfl rfl)⟩)
     have e : k = n.es.length := (by omega)
     subst e
     exact ⟨bx3, tv, ws, hwl, rfl, rfl⟩

set_option maxRecDepth 100000 in
theorem s_step1 (w : World) (bq : Nat) (tq : Value) (hb : BxA w bq [tq]) (n : Nfa) (hv : VN n) (h : RdLL (fun _ => False) uv w tq (mtK n n.es.length)) (s : W64) (x : Nat) (hx : x < n.L.toNat) (hT : TbA w) : CallS Tryd.prog 43 [uv s, .int .i64 (x : Int), .pointer (some ⟨bq, 0, none⟩)] w (fun r o => r = uv (stpN n s (x : Int)) ∧ o = []) := by
 have h0 := h
 obtain ⟨ws, hwl, hR, hrow⟩ := h
 rw [mtK_len] at hwl
 have hbq := BoxS.arg (C := ⟨Tryd.prog, Tryd.f43.ntmps, w, fun _ => False⟩) (own := []) hb
 have hml := Rd.le hR
 rw [mtK_len] at hml
 have hro := rows_ok hv (x : Int)
 have hrx := hrow x (by rw [mtK_len]; exact hx)
 rw [mtK_all hx] at hrx
 refine spec_of Tryd.func43 rfl (Nat.le_of_ble_eq_true rfl) ?_
 refine .sr fun _ hK1 => ?_
 refine .as rfl (.nt hK1 ?_)
 refine .sr fun _ hK2 => ?_
 refine AK.val tq (Yl.loadBox on69 rfl hbq rfl) trivial rfl ?_
 refine .mv rfl ?_
 refine .v (.idxN (k := x) sl69 rfl rfl (RdS.arg hR) (by decide) (by rw [mtK_len]; exact hx)) ?_
 refine AK.val (ws.getD x undef) (Yl.loadV on33 rfl (RdS.arg hR) (by omega)) trivial rfl ?_
 refine .mv rfl ?_
 refine AK.call co37 rfl (fun w hw => s_image w (ws.getD x undef) (rowsN n (x : Int)) (RdL.at hrx hw) hro.1 hro.2 s (hT.at hw)) trivial rfl ?_
 rintro r o ⟨rfl, rfl⟩
 refine .as rfl (.nt hK2 (.ret ?_))
 refine AK.ret1 rfl rfl (fun w hw => ⟨_, _, ?_, rfl, Ret.of (hw.pick [] (by decide) rfl rfl)⟩)
 rw [img_step hv]
 exact ⟨rfl, rfl⟩

set_option maxRecDepth 100000 in
theorem s_sub1 (w : World) (b : Nat) (n : Nfa) (vE : Value) (hb : BxA w b [.int .i64 n.L, .int .i64 n.S, uv n.st, uv n.fi, vE]) (s : W64) : CallS Tryd.prog 27 [uv s, .pointer (some ⟨b, 0, none⟩)] w (fun r o => r = .bool (decide (s &&& n.fi ≠ 0)) ∧ o = []) := by
 have hbq := BoxS.arg (C := ⟨Tryd.prog, Tryd.f27.ntmps, w, fun _ => False⟩) (own := []) hb
 refine spec_of Tryd.func27 rfl (Nat.le_of_ble_eq_true rfl) ?_
 refine .sr fun _ hK1 => ?_
 refine .as rfl (.nt hK1 ?_)
 refine .sr fun _ hK2 => ?_
 refine .mv rfl ?_
 refine .v (.fieldAddr fd25_3 rfl) ?_
 refine AK.val (uv n.fi) (Yl.loadBox on22 rfl hbq rfl) trivial rfl ?_
 refine .v (.andU rfl rfl) ?_
 refine .v (.neqU (b := 0) rfl rfl) ?_
 refine .as rfl (.nt hK2 (.ret ?_))
 refine AK.ret1 rfl rfl (fun w hw => ⟨_, _, ?_, rfl, Ret.of (hw.pick [] (by decide) rfl rfl)⟩)
 exact ⟨rfl, rfl⟩

end Go.Proofs.YtckicbgffhbacaaDoor
