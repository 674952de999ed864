import Derived.Test.YtckicbgffhbacaaDoorN3
import Derived.Test.YtckicbgffhbacaaDoorD4
import Derived.Test.YtckicbgffhbacaaDoorD2
import Derived.Test.YtckicbgffhbacaaDoorNi
set_option linter.unusedVariables false
set_option linter.unusedSimpArgs false
namespace Go.Proofs.YtckicbgffhbacaaDoor
open Go.Sx Go.RowKit
set_option maxHeartbeats 2000000 in
set_option maxRecDepth 100000 in
theorem s_tonfa (w : World) (v : Value) (d : Dfa) (h : RdD (fun _ => False) w v d) : CallS Tryd.prog 11 [v] w (fun r o => ∃ vE : Value, r = .tuple #[.agg #[.int .i64 (ToV d).L, .int .i64 (ToV d).S, uv (ToV d).st, uv (ToV d).fi, vE], .int .i64 (errT d)] ∧ IsSl vE ∧ o = [row vE 51 3 (ToV d).es.length (edc (ToV d).es)]) := by
 have h0 := h
 obtain ⟨vF, vN, rfl, hF, hN⟩ := h
 have hF0 := hF
 have hN0 := hN
 obtain ⟨rs, hrl, hNr, hNi⟩ := hN
 have sF := hF.sl
 have sN := hNr.sl
 have hmf := hF.le
 have hmn := hNr.le
 unfold RdL at hF
 refine spec_of Tryd.func11 rfl (Nat.le_of_ble_eq_true rfl) ?_
 refine .sr fun _ hK1 => ?_
 refine AK.box_ (E := 32) (cs := [.int .i64 d.L, .int .i64 d.s, vF, vN]) rfl rfl rfl trivial rfl (fun bx1 => ?_)
 refine AK.alloc el25 rfl rfl trivial rfl (fun bx2 => ?_)
 refine .as rfl (.nt hK1 ?_)
 refine .seq fun _ hK2 => ?_
 refine .sr fun _ hK3 => ?_
 refine .v (.loadBoxG ag32 rfl bsp rfl rfl) ?_
 refine AK.call co15 rfl (fun w hw => s_validate w _ d (h0.at hw)) trivial rfl ?_
 rintro r o ⟨rfl, rfl⟩
 refine .as rfl (.nt hK3 ?_)
 refine .sr fun _ hK4 => ?_
 refine .mv rfl ?_
 refine .v (.neq rfl rfl) ?_
 refine .nt hK4 ?_
 refine AK.condNe rfl (fun hc0 => ?_) (fun hc0 => ?_)
 ·refine .sr fun _ hK5 => ?_
  refine .v (.build (parts := []) (cs := #[.int .i64 0, .int .i64 0, .int .u64 0, .int .u64 0, .slice none 0 0]) rfl (by kernel_rfl)) ?_
  refine .mv rfl ?_
  refine AK.storeBox 1 (us := [.int .i64 0, .int .i64 0, .int .u64 0, .int .u64 0, .slice none 0 0]) (cs' := [.int .i64 0, .int .i64 0, .int .u64 0, .int .u64 0, .slice none 0 0]) rfl sz25 rfl rfl rfl rfl oneP (Nat.le_of_ble_eq_true rfl) rfl trivial ?_
  refine .as rfl (.nt hK5 (.ret (.then_ret ?_)))
  refine AK.own' [row (.slice none 0 0) 51 3 0 [], box bx2 25 5 [.int .i64 0, .int .i64 0, .int .u64 0, .int .u64 0, .slice none 0 0]] (fun w hw => by have h1 := (hw.pick [1] (by decide) rfl rfl).ghost 51 3; exact h1.pick [1, 0] (by decide) rfl rfl) ?_
  refine AK.retG [.cell 2 25, .tmp 3] rfl (.cons (.cell ag25 rfl bsp rfl rfl) (.cons (.tmp rfl) (.nil))) (fun w hw => ⟨_, _, ?_, rfl, Ret.of (hw.pick [0] (by decide) rfl rfl)⟩)
  obtain ⟨e1, e2⟩ := errT_bad (by omega)
  rw [e1, e2]
  exact ⟨_, rfl, nilSl, rfl⟩
 ·have hE : errV d = 0 := (by omega)
  have hv : VD d := (errV_iff d).1 hE
  have hnx := hv.nx
  have hn5 := hv.n
  have hvs := hv.s
  have hvL := hv.L
  refine .skip ?_
  refine AK.then_ (hK2 _ ?_)
  refine .seq fun _ hK6 => ?_
  refine .sr fun _ hK7 => ?_
  refine .v (.fieldAddr fd32_2 rfl) ?_
  refine .v (.loadBox on29 rfl bsp rfl) ?_
  refine .v (.lenR sl29 rfl (by first | exact rdp | exact .arg (hNi _ (by omega)))) ?_
  refine .v (.gtr rfl rfl) ?_
  refine .nt hK7 ?_
  refine AK.condD rfl (fun hc1 => ?_) (fun hc1 => ?_)
  ·refine .sr fun _ hK8 => ?_
   refine .v (.build (parts := []) (cs := #[.int .i64 0, .int .i64 0, .int .u64 0, .int .u64 0, .slice none 0 0]) rfl (by kernel_rfl)) ?_
   refine AK.storeBox 1 (us := [.int .i64 0, .int .i64 0, .int .u64 0, .int .u64 0, .slice none 0 0]) (cs' := [.int .i64 0, .int .i64 0, .int .u64 0, .int .u64 0, .slice none 0 0]) rfl sz25 rfl rfl rfl rfl oneP (Nat.le_of_ble_eq_true rfl) rfl trivial ?_
   refine .as rfl (.nt hK8 (.ret (.then_ret ?_)))
   refine AK.own' [row (.slice none 0 0) 51 3 0 [], box bx2 25 5 [.int .i64 0, .int .i64 0, .int .u64 0, .int .u64 0, .slice none 0 0]] (fun w hw => by have h1 := (hw.pick [1] (by decide) rfl rfl).ghost 51 3; exact h1.pick [1, 0] (by decide) rfl rfl) ?_
   refine AK.retG [.cell 2 25, .tmp 3] rfl (.cons (.cell ag25 rfl bsp rfl rfl) (.cons (.tmp rfl) (.nil))) (fun w hw => ⟨_, _, ?_, rfl, Ret.of (hw.pick [0] (by decide) rfl rfl)⟩)
   obtain ⟨e1, e2⟩ := errT_big hE (by omega)
   rw [e1, e2]
   exact ⟨_, rfl, nilSl, rfl⟩
  ·refine .skip ?_
   refine AK.then_ (hK6 _ ?_)
   refine .seq fun _ hK9 => ?_
   try (conv => enter [2, 2]; dsimp only [List.set_cons_zero, List.set_cons_succ, List.cons_append, List.nil_append])
   refine AK.held 10 mixed ?_
   refine HeldK.first 0 (fuel := 10) (listed' := (lb 11 1)) _ rfl krf krf rfl (Yl.fieldAddr fd32_0 rfl) trivial rfl ?_
   refine HeldK.first 1 (fuel := 9) (listed' := (lb 11 3)) _ rfl krf krf rfl (Yl.loadBox on3 rfl bsp rfl) trivial rfl ?_
   refine HeldK.first 2 (fuel := 8) (listed' := (lb 11 7)) _ rfl krf krf rfl (Yl.fieldAddr fd32_2 rfl) trivial rfl ?_
   refine HeldK.first 3 (fuel := 7) (listed' := (lb 11 15)) _ rfl krf krf rfl (Yl.loadBox on29 rfl bsp rfl) trivial rfl ?_
   refine HeldK.first 4 (fuel := 6) (listed' := (lb 11 31)) _ rfl krf krf rfl (Yl.lenR sl29 rfl (by first | exact rdp | exact .arg (hNi _ (by omega)))) trivial rfl ?_
   refine HeldK.first 5 (fuel := 5) (listed' := (lb 11 63)) _ rfl krf krf rfl (Yl.fieldAddr fd32_1 rfl) trivial rfl ?_
   refine HeldK.first 6 (fuel := 4) (listed' := (lb 11 127)) _ rfl krf krf rfl (Yl.loadBox on3 rfl bsp rfl) trivial rfl ?_
   refine HeldK.first 7 (fuel := 3) (listed' := (lb 11 255)) _ rfl krf krf rfl (Yl.shlU (a := 1) rfl rfl (by omega)) trivial rfl ?_
   refine HeldK.first 8 (fuel := 2) (listed' := (lb 11 511)) _ rfl krf krf rfl (Yl.build (parts := [(0, .tmp 22), (1, .tmp 25), (2, .tmp 28)]) (cs := #[.int .i64 d.L, .int .i64 (d.fin.length : Int), uv (bit d.s), .int .u64 0, .slice none 0 0]) rfl (by kernel_rfl)) trivial rfl ?_
   refine HeldK.one 9 (fuel := 1) (listed' := (lb 11 1023)) krf rfl krf ?_
   refine AK.alloc el25 rfl rfl trivial rfl (fun bx5 => ?_)
   refine .nil ?_
   try (conv => enter [2, 2]; dsimp only [List.set_cons_zero, List.set_cons_succ, List.cons_append, List.nil_append])
   refine HeldK.back Go.Sx.hle ?_
   refine HeldK.one 10 (fuel := 0) (listed' := (lb 11 2047)) krf rfl krf ?_
   refine AK.storeBox 2 (us := [.int .i64 d.L, .int .i64 (d.fin.length : Int), uv (bit d.s), .int .u64 0, .slice none 0 0]) (cs' := [.int .i64 d.L, .int .i64 (d.fin.length : Int), uv (bit d.s), .int .u64 0, .slice none 0 0]) rfl sz25 rfl rfl rfl rfl oneP (Nat.le_of_ble_eq_true rfl) rfl trivial ?_
   refine .nil ?_
   try (conv => enter [2, 2]; dsimp only [List.set_cons_zero, List.set_cons_succ, List.cons_append, List.nil_append])
   refine HeldK.backN 11 krf rfl krf ?_
   refine .nil ?_
   refine AK.fromQn ?_
   refine AK.then_ (hK9 _ ?_)
   refine .seq fun _ hK10 => ?_
   refine .sr fun _ hK11 => ?_
   refine .v (.fieldAddr fd32_3 rfl) ?_
   refine .v (.loadBox on30 rfl bsp rfl) ?_
   refine .v (.lenR sl30 rfl (by first | exact rdp | exact .arg (hNi _ (by omega)))) ?_
   refine .mv rfl (.nt hK11 (.block ?_))
   refine AK.loopK (X := Nat × Value) [(1, _), (2, _), (5, _), (31, _), (32, _)] (fun x => [(33, .int .i64 (x.1 : Int))]) (fun x => [box bx1 32 4 [.int .i64 d.L, .int .i64 d.s, vF, vN], box bx2 25 5 [.int .i64 0, .int .i64 0, .int .u64 0, .int .u64 0, .slice none 0 0], box bx5 25 5 [.int .i64 d.L, .int .i64 (d.fin.length : Int), uv (bit d.s), uv (tfi d x.1), x.2], row x.2 51 3 (tes d x.1).length (edc (tes d x.1))]) (fun x => x.1 ≤ d.fin.length ∧ IsSl x.2) (fun x => d.fin.length - x.1) ((0, .slice none 0 0)) slr ?_ ?_ ?_ ?_
   ·exact ⟨Nat.zero_le _, nilSl⟩
   ·exact slr
   ·exact fun w hw => by exact hw.ghost 51 3
   ·intro x hg0 _ hK12
    have sx := hg0.2
    refine .sr fun _ hK13 => ?_
    refine .v (.lss rfl rfl) ?_
    refine .nt hK13 ?_
    refine .seq fun _ hK14 => ?_
    refine AK.condD rfl (fun hc2 => ?_) (fun hc2 => ?_)
    ·have htb := tes_bd hv x.1 (by omega)
     have hrw := hv.row x.1 (by omega)
     have hrl := rE_len d x.1
     refine .skip ?_
     refine AK.then_ (hK14 _ ?_)
     refine .seq fun _ hK15 => ?_
     refine .block ?_
     refine .sr fun _ hK16 => ?_
     refine .mv rfl ?_
     first | refine .v (.iN sl30 rfl rfl (hr := (by first | exact rdp | exact .arg (hNi _ (by omega))))) ?_ | refine .v (.iK sl30 rfl rfl (hr := (by first | exact rdp | exact .arg (hNi _ (by omega))))) ?_
     refine .v (.loadV on41 rfl (by first | exact rdp | exact .arg (hNi _ (by omega))) (by omega)) ?_
     refine .as rfl (.as rfl (.nt hK16 ?_))
     refine .seq fun _ hK17 => ?_
     refine .sr fun _ hK18 => ?_
     refine .v (.fieldAddr fd32_2 rfl) ?_
     refine .v (.loadBox on29 rfl bsp rfl) ?_
     refine .mv rfl ?_
     first | refine .v (.iN sl29 rfl rfl (hr := (by first | exact rdp | exact .arg (hNi _ (by omega))))) ?_ | refine .v (.iK sl29 rfl rfl (hr := (by first | exact rdp | exact .arg (hNi _ (by omega))))) ?_
     refine .v (.loadB on4 rfl (by first | exact rdp | exact .arg (hNi _ (by omega))) (by omega)) ?_
     refine .nt hK18 ?_
     refine AK.cond rfl (fun hc3 => ?_) (fun hc3 => ?_)
     ·try simp only [bs] at hc3
      refine AK.stillTail 6 mixed krf (fun _ hws => ?_)
      refine .v hws (.fieldAddr fd25_3 rfl) ?_
      refine .v hws (.loadBox on22 rfl bsp rfl) ?_
      refine .v hws (.move rfl) ?_
      refine .v hws (.shlU (a := 1) rfl rfl (by omega)) ?_
      refine .v hws (.orU rfl rfl) ?_
      refine .v hws (.fieldAddr fd25_3 rfl) ?_
      refine SK.nil (SK.fin hws ?_)
      refine AK.storeBox 2 (cs' := [.int .i64 d.L, .int .i64 (d.fin.length : Int), uv (bit d.s), uv (tfi d x.1 ||| bit (x.1 : Int)), x.2]) rfl sz22 rfl rfl rfl rfl oneP (Nat.le_of_ble_eq_true rfl) rfl trivial ?_
      refine .nt hK17 ?_
      refine .sr fun _ hK19 => ?_
      refine .mv rfl ?_
      refine .v (.lenR sl41 rfl (by first | exact rdp | exact .arg (hNi _ (by omega)))) ?_
      refine .mv rfl (.nt hK19 (.block ?_))
      refine AK.loopK (X := Nat × Value) [(1, _), (2, _), (5, _), (6, _), (31, _), (32, _), (33, _), (49, _), (50, _)] (fun y => [(51, .int .i64 (y.1 : Int))]) (fun y => [box bx1 32 4 [.int .i64 d.L, .int .i64 d.s, vF, vN], box bx2 25 5 [.int .i64 0, .int .i64 0, .int .u64 0, .int .u64 0, .slice none 0 0], box bx5 25 5 [.int .i64 d.L, .int .i64 (d.fin.length : Int), uv (bit d.s), uv (tfi d (x.1 + 1)), y.2], row y.2 51 3 (tes d x.1 ++ rE d x.1 y.1).length (edc (tes d x.1 ++ rE d x.1 y.1))]) (fun y => y.1 ≤ (d.nx.getD x.1 []).length ∧ IsSl y.2) (fun y => (d.nx.getD x.1 []).length - y.1) ((0, x.2)) slr ?_ ?_ ?_ ?_
      ·exact ⟨Nat.zero_le _, sx⟩
      ·exact slr
      ·exact fun w hw => by rw [show tes d x.1 ++ rE d x.1 0 = tes d x.1 by simp [rE]]; first | (rw [tfi_yes hc3]; exact hw) | (rw [tfi_no hc3]; exact hw)
      ·intro y hg1 _ hK20
       have sy := hg1.2
       have hll := hrl y.1
       have hlt := @List.length_append _ (tes d x.1) (rE d x.1 y.1)
       refine .sr fun _ hK21 => ?_
       refine .v (.lss rfl rfl) ?_
       refine .nt hK21 ?_
       refine .seq fun _ hK22 => ?_
       refine AK.condD rfl (fun hc4 => ?_) (fun hc4 => ?_)
       ·refine .skip ?_
        refine AK.then_ (hK22 _ ?_)
        refine .seq fun _ hK23 => ?_
        refine .block ?_
        refine .sr fun _ hK24 => ?_
        refine .mv rfl ?_
        first | refine .v (.iN sl41 rfl rfl (hr := (by first | exact rdp | exact .arg (hNi _ (by omega))))) ?_ | refine .v (.iK sl41 rfl rfl (hr := (by first | exact rdp | exact .arg (hNi _ (by omega))))) ?_
        refine .v (.loadI on3 rfl (by first | exact rdp | exact .arg (hNi _ (by omega))) (by omega)) ?_
        refine .as rfl (.as rfl (.nt hK24 ?_))
        refine AK.region ?_
        refine .v (.fieldAddr fd25_4 rfl) ?_
        refine .v (.loadBox on23 rfl bsp rfl) ?_
        refine .mv rfl (.mv rfl (.mv rfl ?_))
        refine .v (.build (parts := [(0, .tmp 58), (1, .tmp 59), (2, .tmp 60)]) (cs := #[.int .i64 (x.1 : Int), .int .i64 (y.1 : Int), .int .i64 ((d.nx.getD x.1 []).getD y.1 0)]) rfl (by kernel_rfl)) ?_
        refine AK.append1 3 rfl sl23 el51 rfl (by decide) rfl (by intro k hk; cases hk; rfl) rfl (by intro c hc; simp [Value.cells] at hc; rcases hc with rfl | rfl | rfl <;> rfl) (by omega) (by omega) (by decide) rfl rfl (fun va _ ha => ?_)
        refine .v (.fieldAddr fd25_4 rfl) ?_
        refine AK.storeBox 2 (us := [va]) (cs' := [.int .i64 d.L, .int .i64 (d.fin.length : Int), uv (bit d.s), uv (tfi d (x.1 + 1)), va]) rfl sz23 rfl rfl (by rw [IsSl.cells (by assumption)]) rfl oneP (Nat.le_of_ble_eq_true rfl) rfl trivial ?_
        refine .nil (.block_normal ?_)
        refine AK.then_ (hK23 _ ?_)
        refine AK.region ?_
        refine .v (.add rfl rfl (by omega)) ?_
        refine .mv rfl (.nil ?_)
        refine AK.then_ (hK20 _ _ ((y.1 + 1, va)) ⟨by dsimp only; omega, ha⟩ (by dsimp only; omega) (slr) (fun w hw => by
  dsimp only
  rw [rE_next, ← List.append_assoc, edc_snoc, @List.length_append _ (tes d x.1 ++ rE d x.1 y.1)]
  exact hw))
       ·refine .exit (.then_exit (.then_exit (.block_exit (.block_normal ?_))))
        refine AK.then_ (hK15 _ ?_)
        refine AK.region ?_
        refine .v (.add rfl rfl (by omega)) ?_
        refine .mv rfl (.nil ?_)
        refine AK.then_ (hK12 _ _ ((x.1 + 1, y.2)) ⟨by dsimp only; omega, hg1.2⟩ (by dsimp only; omega) (slr) (fun w hw => by
  dsimp only
  rw [show tes d (x.1 + 1) = tes d x.1 ++ rE d x.1 (d.nx.getD x.1 []).length from rfl]
  rw [show y.1 = (d.nx.getD x.1 []).length by omega] at hw
  exact hw))
     ·try simp only [bs] at hc3
      refine .skip ?_
      refine AK.then_ (hK17 _ ?_)
      refine .sr fun _ hK25 => ?_
      refine .mv rfl ?_
      refine .v (.lenR sl41 rfl (by first | exact rdp | exact .arg (hNi _ (by omega)))) ?_
      refine .mv rfl (.nt hK25 (.block ?_))
      refine AK.loopK (X := Nat × Value) [(1, _), (2, _), (5, _), (6, _), (31, _), (32, _), (33, _), (49, _), (50, _)] (fun y => [(51, .int .i64 (y.1 : Int))]) (fun y => [box bx1 32 4 [.int .i64 d.L, .int .i64 d.s, vF, vN], box bx2 25 5 [.int .i64 0, .int .i64 0, .int .u64 0, .int .u64 0, .slice none 0 0], box bx5 25 5 [.int .i64 d.L, .int .i64 (d.fin.length : Int), uv (bit d.s), uv (tfi d (x.1 + 1)), y.2], row y.2 51 3 (tes d x.1 ++ rE d x.1 y.1).length (edc (tes d x.1 ++ rE d x.1 y.1))]) (fun y => y.1 ≤ (d.nx.getD x.1 []).length ∧ IsSl y.2) (fun y => (d.nx.getD x.1 []).length - y.1) ((0, x.2)) slr ?_ ?_ ?_ ?_
      ·exact ⟨Nat.zero_le _, sx⟩
      ·exact slr
      ·exact fun w hw => by rw [show tes d x.1 ++ rE d x.1 0 = tes d x.1 by simp [rE]]; first | (rw [tfi_yes hc3]; exact hw) | (rw [tfi_no hc3]; exact hw)
      ·intro y hg1 _ hK26
       have sy := hg1.2
       have hll := hrl y.1
       have hlt := @List.length_append _ (tes d x.1) (rE d x.1 y.1)
       refine .sr fun _ hK27 => ?_
       refine .v (.lss rfl rfl) ?_
       refine .nt hK27 ?_
       refine .seq fun _ hK28 => ?_
       refine AK.condD rfl (fun hc4 => ?_) (fun hc4 => ?_)
       ·refine .skip ?_
        refine AK.then_ (hK28 _ ?_)
        refine .seq fun _ hK29 => ?_
        refine .block ?_
        refine .sr fun _ hK30 => ?_
        refine .mv rfl ?_
        first | refine .v (.iN sl41 rfl rfl (hr := (by first | exact rdp | exact .arg (hNi _ (by omega))))) ?_ | refine .v (.iK sl41 rfl rfl (hr := (by first | exact rdp | exact .arg (hNi _ (by omega))))) ?_
        refine .v (.loadI on3 rfl (by first | exact rdp | exact .arg (hNi _ (by omega))) (by omega)) ?_
        refine .as rfl (.as rfl (.nt hK30 ?_))
        refine AK.region ?_
        refine .v (.fieldAddr fd25_4 rfl) ?_
        refine .v (.loadBox on23 rfl bsp rfl) ?_
        refine .mv rfl (.mv rfl (.mv rfl ?_))
        refine .v (.build (parts := [(0, .tmp 58), (1, .tmp 59), (2, .tmp 60)]) (cs := #[.int .i64 (x.1 : Int), .int .i64 (y.1 : Int), .int .i64 ((d.nx.getD x.1 []).getD y.1 0)]) rfl (by kernel_rfl)) ?_
        refine AK.append1 3 rfl sl23 el51 rfl (by decide) rfl (by intro k hk; cases hk; rfl) rfl (by intro c hc; simp [Value.cells] at hc; rcases hc with rfl | rfl | rfl <;> rfl) (by omega) (by omega) (by decide) rfl rfl (fun va _ ha => ?_)
        refine .v (.fieldAddr fd25_4 rfl) ?_
        refine AK.storeBox 2 (us := [va]) (cs' := [.int .i64 d.L, .int .i64 (d.fin.length : Int), uv (bit d.s), uv (tfi d (x.1 + 1)), va]) rfl sz23 rfl rfl (by rw [IsSl.cells (by assumption)]) rfl oneP (Nat.le_of_ble_eq_true rfl) rfl trivial ?_
        refine .nil (.block_normal ?_)
        refine AK.then_ (hK29 _ ?_)
        refine AK.region ?_
        refine .v (.add rfl rfl (by omega)) ?_
        refine .mv rfl (.nil ?_)
        refine AK.then_ (hK26 _ _ ((y.1 + 1, va)) ⟨by dsimp only; omega, ha⟩ (by dsimp only; omega) (slr) (fun w hw => by
  dsimp only
  rw [rE_next, ← List.append_assoc, edc_snoc, @List.length_append _ (tes d x.1 ++ rE d x.1 y.1)]
  exact hw))
       ·refine .exit (.then_exit (.then_exit (.block_exit (.block_normal ?_))))
        refine AK.then_ (hK15 _ ?_)
        refine AK.region ?_
        refine .v (.add rfl rfl (by omega)) ?_
        refine .mv rfl (.nil ?_)
        refine AK.then_ (hK12 _ _ ((x.1 + 1, y.2)) ⟨by dsimp only; omega, hg1.2⟩ (by dsimp only; omega) (slr) (fun w hw => by
  dsimp only
  rw [show tes d (x.1 + 1) = tes d x.1 ++ rE d x.1 (d.nx.getD x.1 []).length from rfl]
  rw [show y.1 = (d.nx.getD x.1 []).length by omega] at hw
  exact hw))
    ·refine .exit (.then_exit (.then_exit (.block_exit ?_)))
     refine AK.then_ (hK10 _ ?_)
     refine .sr fun _ hK31 => ?_
     refine .v (.loadBoxG ag25 rfl bsp rfl rfl) ?_
     refine AK.storeBox 1 (us := [.int .i64 d.L, .int .i64 (d.fin.length : Int), uv (bit d.s), uv (tfi d x.1), x.2]) (cs' := [.int .i64 d.L, .int .i64 (d.fin.length : Int), uv (bit d.s), uv (tfi d x.1), x.2]) rfl sz25 rfl rfl rfl rfl oneP (Nat.le_of_ble_eq_true rfl) rfl trivial ?_
     refine .as rfl (.nt hK31 (.ret ?_))
     refine AK.retG [.cell 2 25, .tmp 3] rfl (.cons (.cell ag25 rfl bsp rfl rfl) (.cons (.tmp rfl) (.nil))) (fun w hw => ⟨_, _, ?_, rfl, Ret.of (hw.pick [3] (by decide) rfl rfl)⟩)
     obtain ⟨e1, e2⟩ := errT_ok hE (by omega)
     have e : x.1 = d.fin.length := (by omega)
     rw [e1, e2, e]
     exact ⟨x.2, rfl, sx, rfl⟩

set_option maxHeartbeats 2000000 in
set_option maxRecDepth 100000 in
theorem s_reftonfa (w : World) (v : Value) (d : Dfa) (h : RdD (fun _ => False) w v d) : CallS Tryd.prog 12 [v] w (fun r o => ∃ vE : Value, r = .tuple #[.agg #[.int .i64 (ToV d).L, .int .i64 (ToV d).S, uv (ToV d).st, uv (ToV d).fi, vE], .int .i64 (errT d)] ∧ IsSl vE ∧ o = [row vE 51 3 (ToV d).es.length (edc (ToV d).es)]) := by
 have h0 := h
 obtain ⟨vF, vN, rfl, hF, hN⟩ := h
 have hF0 := hF
 have hN0 := hN
 obtain ⟨rs, hrl, hNr, hNi⟩ := hN
 have sF := hF.sl
 have sN := hNr.sl
 have hmf := hF.le
 have hmn := hNr.le
 unfold RdL at hF
 refine spec_of Tryd.func12 rfl (Nat.le_of_ble_eq_true rfl) ?_
 refine .sr fun _ hK1 => ?_
 refine AK.box_ (E := 32) (cs := [.int .i64 d.L, .int .i64 d.s, vF, vN]) rfl rfl rfl trivial rfl (fun bx1 => ?_)
 refine AK.alloc el25 rfl rfl trivial rfl (fun bx2 => ?_)
 refine .as rfl (.nt hK1 ?_)
 refine .seq fun _ hK2 => ?_
 refine .sr fun _ hK3 => ?_
 refine .v (.loadBoxG ag32 rfl bsp rfl rfl) ?_
 refine AK.call co29 rfl (fun w hw => s_refvalidate w _ d (h0.at hw)) trivial rfl ?_
 rintro r o ⟨rfl, rfl⟩
 refine .as rfl (.nt hK3 ?_)
 refine .sr fun _ hK4 => ?_
 refine .mv rfl ?_
 refine .v (.neq rfl rfl) ?_
 refine .nt hK4 ?_
 refine AK.condNe rfl (fun hc0 => ?_) (fun hc0 => ?_)
 ·refine .sr fun _ hK5 => ?_
  refine .v (.build (parts := []) (cs := #[.int .i64 0, .int .i64 0, .int .u64 0, .int .u64 0, .slice none 0 0]) rfl (by kernel_rfl)) ?_
  refine .mv rfl ?_
  refine AK.storeBox 1 (us := [.int .i64 0, .int .i64 0, .int .u64 0, .int .u64 0, .slice none 0 0]) (cs' := [.int .i64 0, .int .i64 0, .int .u64 0, .int .u64 0, .slice none 0 0]) rfl sz25 rfl rfl rfl rfl oneP (Nat.le_of_ble_eq_true rfl) rfl trivial ?_
  refine .as rfl (.nt hK5 (.ret (.then_ret ?_)))
  refine AK.own' [row (.slice none 0 0) 51 3 0 [], box bx2 25 5 [.int .i64 0, .int .i64 0, .int .u64 0, .int .u64 0, .slice none 0 0]] (fun w hw => by have h1 := (hw.pick [1] (by decide) rfl rfl).ghost 51 3; exact h1.pick [1, 0] (by decide) rfl rfl) ?_
  refine AK.retG [.cell 2 25, .tmp 3] rfl (.cons (.cell ag25 rfl bsp rfl rfl) (.cons (.tmp rfl) (.nil))) (fun w hw => ⟨_, _, ?_, rfl, Ret.of (hw.pick [0] (by decide) rfl rfl)⟩)
  obtain ⟨e1, e2⟩ := errT_bad (by omega)
  rw [e1, e2]
  exact ⟨_, rfl, nilSl, rfl⟩
 ·have hE : errV d = 0 := (by omega)
  have hv : VD d := (errV_iff d).1 hE
  have hnx := hv.nx
  have hn5 := hv.n
  have hvs := hv.s
  have hvL := hv.L
  refine .skip ?_
  refine AK.then_ (hK2 _ ?_)
  refine .seq fun _ hK6 => ?_
  refine .sr fun _ hK7 => ?_
  refine .v (.fieldAddr fd32_2 rfl) ?_
  refine .v (.loadBox on29 rfl bsp rfl) ?_
  refine .v (.lenR sl29 rfl (by first | exact rdp | exact .arg (hNi _ (by omega)))) ?_
  refine .v (.gtr rfl rfl) ?_
  refine .nt hK7 ?_
  refine AK.condD rfl (fun hc1 => ?_) (fun hc1 => ?_)
  ·refine .sr fun _ hK8 => ?_
   refine .v (.build (parts := []) (cs := #[.int .i64 0, .int .i64 0, .int .u64 0, .int .u64 0, .slice none 0 0]) rfl (by kernel_rfl)) ?_
   refine AK.storeBox 1 (us := [.int .i64 0, .int .i64 0, .int .u64 0, .int .u64 0, .slice none 0 0]) (cs' := [.int .i64 0, .int .i64 0, .int .u64 0, .int .u64 0, .slice none 0 0]) rfl sz25 rfl rfl rfl rfl oneP (Nat.le_of_ble_eq_true rfl) rfl trivial ?_
   refine .as rfl (.nt hK8 (.ret (.then_ret ?_)))
   refine AK.own' [row (.slice none 0 0) 51 3 0 [], box bx2 25 5 [.int .i64 0, .int .i64 0, .int .u64 0, .int .u64 0, .slice none 0 0]] (fun w hw => by have h1 := (hw.pick [1] (by decide) rfl rfl).ghost 51 3; exact h1.pick [1, 0] (by decide) rfl rfl) ?_
   refine AK.retG [.cell 2 25, .tmp 3] rfl (.cons (.cell ag25 rfl bsp rfl rfl) (.cons (.tmp rfl) (.nil))) (fun w hw => ⟨_, _, ?_, rfl, Ret.of (hw.pick [0] (by decide) rfl rfl)⟩)
   obtain ⟨e1, e2⟩ := errT_big hE (by omega)
   rw [e1, e2]
   exact ⟨_, rfl, nilSl, rfl⟩
  ·refine .skip ?_
   refine AK.then_ (hK6 _ ?_)
   refine .seq fun _ hK9 => ?_
   try (conv => enter [2, 2]; dsimp only [List.set_cons_zero, List.set_cons_succ, List.cons_append, List.nil_append])
   refine AK.held 10 mixed ?_
   refine HeldK.first 0 (fuel := 10) (listed' := (lb 11 1)) _ rfl krf krf rfl (Yl.fieldAddr fd32_0 rfl) trivial rfl ?_
   refine HeldK.first 1 (fuel := 9) (listed' := (lb 11 3)) _ rfl krf krf rfl (Yl.loadBox on3 rfl bsp rfl) trivial rfl ?_
   refine HeldK.first 2 (fuel := 8) (listed' := (lb 11 7)) _ rfl krf krf rfl (Yl.fieldAddr fd32_2 rfl) trivial rfl ?_
   refine HeldK.first 3 (fuel := 7) (listed' := (lb 11 15)) _ rfl krf krf rfl (Yl.loadBox on29 rfl bsp rfl) trivial rfl ?_
   refine HeldK.first 4 (fuel := 6) (listed' := (lb 11 31)) _ rfl krf krf rfl (Yl.lenR sl29 rfl (by first | exact rdp | exact .arg (hNi _ (by omega)))) trivial rfl ?_
   refine HeldK.first 5 (fuel := 5) (listed' := (lb 11 63)) _ rfl krf krf rfl (Yl.fieldAddr fd32_1 rfl) trivial rfl ?_
   refine HeldK.first 6 (fuel := 4) (listed' := (lb 11 127)) _ rfl krf krf rfl (Yl.loadBox on3 rfl bsp rfl) trivial rfl ?_
   refine HeldK.two 7 9 (fuel := 3) (listed1 := (lb 11 255)) (listed2 := (lb 11 639)) krf rfl rfl krf krf ?_ ?_
   ·refine AK.call co30 rfl (fun w hw => s_bit w d.s (by omega)) trivial rfl ?_
    rintro r o ⟨rfl, rfl⟩
    refine .nil ?_
    try (conv => enter [2, 2]; dsimp only [List.set_cons_zero, List.set_cons_succ, List.cons_append, List.nil_append])
    refine HeldK.back Go.Sx.hle ?_
    refine HeldK.first 8 (fuel := 2) (listed' := (lb 11 511)) _ rfl krf krf rfl (Yl.build (parts := [(0, .tmp 21), (1, .tmp 24), (2, .tmp 27)]) (cs := #[.int .i64 d.L, .int .i64 (d.fin.length : Int), uv (bit d.s), .int .u64 0, .slice none 0 0]) rfl (by kernel_rfl)) trivial rfl ?_
    refine HeldK.one 9 (fuel := 1) (listed' := (lb 11 1023)) krf rfl krf ?_
    refine AK.alloc el25 rfl rfl trivial rfl (fun bx5 => ?_)
    refine .nil ?_
    try (conv => enter [2, 2]; dsimp only [List.set_cons_zero, List.set_cons_succ, List.cons_append, List.nil_append])
    refine HeldK.back Go.Sx.hle ?_
    refine HeldK.one 10 (fuel := 0) (listed' := (lb 11 2047)) krf rfl krf ?_
    refine AK.storeBox 2 (us := [.int .i64 d.L, .int .i64 (d.fin.length : Int), uv (bit d.s), .int .u64 0, .slice none 0 0]) (cs' := [.int .i64 d.L, .int .i64 (d.fin.length : Int), uv (bit d.s), .int .u64 0, .slice none 0 0]) rfl sz25 rfl rfl rfl rfl oneP (Nat.le_of_ble_eq_true rfl) rfl trivial ?_
    refine .nil ?_
    try (conv => enter [2, 2]; dsimp only [List.set_cons_zero, List.set_cons_succ, List.cons_append, List.nil_append])
    refine HeldK.backN 11 krf rfl krf ?_
    refine .nil ?_
    refine AK.fromQn ?_
    refine AK.then_ (hK9 _ ?_)
    refine .seq fun _ hK10 => ?_
    refine .sr fun _ hK11 => ?_
    refine .v (.fieldAddr fd32_2 rfl) ?_
    refine .v (.loadBox on29 rfl bsp rfl) ?_
    refine .v (.lenR sl29 rfl (by first | exact rdp | exact .arg (hNi _ (by omega)))) ?_
    refine .mv rfl (.nt hK11 (.block ?_))
    refine AK.loopK (X := Nat × Value) [(1, _), (2, _), (5, _), (31, _)] (fun x => [(32, .int .i64 (x.1 : Int))]) (fun x => [box bx1 32 4 [.int .i64 d.L, .int .i64 d.s, vF, vN], box bx2 25 5 [.int .i64 0, .int .i64 0, .int .u64 0, .int .u64 0, .slice none 0 0], box bx5 25 5 [.int .i64 d.L, .int .i64 (d.fin.length : Int), uv (bit d.s), uv (tfi d x.1), x.2], row x.2 51 3 (tes d x.1).length (edc (tes d x.1))]) (fun x => x.1 ≤ d.fin.length ∧ IsSl x.2) (fun x => d.fin.length - x.1) ((0, .slice none 0 0)) slr ?_ ?_ ?_ ?_
    ·exact ⟨Nat.zero_le _, nilSl⟩
    ·exact slr
    ·exact fun w hw => by exact hw.ghost 51 3
    ·intro x hg0 _ hK12
     have sx := hg0.2
     refine .sr fun _ hK13 => ?_
     refine .v (.lss rfl rfl) ?_
     refine .nt hK13 ?_
     refine .seq fun _ hK14 => ?_
     refine AK.condD rfl (fun hc2 => ?_) (fun hc2 => ?_)
     ·have htb := tes_bd hv x.1 (by omega)
      have hrw := hv.row x.1 (by omega)
      have hrl := rE_len d x.1
      refine .skip ?_
      refine AK.then_ (hK14 _ ?_)
      refine .seq fun _ hK15 => ?_
      refine .block ?_
      refine .sr fun _ hK16 => ?_
      refine .mv rfl (.as rfl (.nt hK16 ?_))
      refine .seq fun _ hK17 => ?_
      refine .sr fun _ hK18 => ?_
      refine .v (.fieldAddr fd32_2 rfl) ?_
      refine .v (.loadBox on29 rfl bsp rfl) ?_
      refine .mv rfl ?_
      first | refine .v (.iN sl29 rfl rfl (hr := (by first | exact rdp | exact .arg (hNi _ (by omega))))) ?_ | refine .v (.iK sl29 rfl rfl (hr := (by first | exact rdp | exact .arg (hNi _ (by omega))))) ?_
      refine .v (.loadB on4 rfl (by first | exact rdp | exact .arg (hNi _ (by omega))) (by omega)) ?_
      refine .nt hK18 ?_
      refine AK.cond rfl (fun hc3 => ?_) (fun hc3 => ?_)
      ·try simp only [bs] at hc3
       try (conv => enter [2, 2]; dsimp only [List.set_cons_zero, List.set_cons_succ, List.cons_append, List.nil_append])
       refine AK.held 6 mixed ?_
       refine HeldK.first 0 (fuel := 6) (listed' := (lb 7 1)) _ rfl krf krf rfl (Yl.fieldAddr fd25_3 rfl) trivial rfl ?_
       refine HeldK.first 1 (fuel := 5) (listed' := (lb 7 3)) _ rfl krf krf rfl (Yl.loadBox on22 rfl bsp rfl) trivial rfl ?_
       refine HeldK.first 2 (fuel := 4) (listed' := (lb 7 7)) _ rfl krf krf rfl (Yl.move rfl) trivial rfl ?_
       refine HeldK.one 3 (fuel := 3) (listed' := (lb 7 15)) krf rfl krf ?_
       refine AK.call co30 rfl (fun w hw => s_bit w (x.1 : Int) (by omega)) trivial rfl ?_
       rintro r o ⟨rfl, rfl⟩
       refine .nil ?_
       try (conv => enter [2, 2]; dsimp only [List.set_cons_zero, List.set_cons_succ, List.cons_append, List.nil_append])
       refine HeldK.back Go.Sx.hle ?_
       refine HeldK.first 4 (fuel := 2) (listed' := (lb 7 31)) _ rfl krf krf rfl (Yl.orU rfl rfl) trivial rfl ?_
       refine HeldK.first 5 (fuel := 1) (listed' := (lb 7 63)) _ rfl krf krf rfl (Yl.fieldAddr fd25_3 rfl) trivial rfl ?_
       refine HeldK.one 6 (fuel := 0) (listed' := (lb 7 127)) krf rfl krf ?_
       refine AK.storeBox 2 (cs' := [.int .i64 d.L, .int .i64 (d.fin.length : Int), uv (bit d.s), uv (tfi d x.1 ||| bit (x.1 : Int)), x.2]) rfl sz22 rfl rfl rfl rfl oneP (Nat.le_of_ble_eq_true rfl) rfl trivial ?_
       refine .nil ?_
       try (conv => enter [2, 2]; dsimp only [List.set_cons_zero, List.set_cons_succ, List.cons_append, List.nil_append])
       refine HeldK.backN 7 krf rfl krf ?_
       refine .nil ?_
       refine AK.fromQn ?_
       refine AK.then_ (hK17 _ ?_)
       refine .sr fun _ hK19 => ?_
       refine .v (.fieldAddr fd32_3 rfl) ?_
       refine .v (.loadBox on30 rfl bsp rfl) ?_
       refine .mv rfl ?_
       first | refine .v (.iN sl30 rfl rfl (hr := (by first | exact rdp | exact .arg (hNi _ (by omega))))) ?_ | refine .v (.iK sl30 rfl rfl (hr := (by first | exact rdp | exact .arg (hNi _ (by omega))))) ?_
       refine .v (.loadV on41 rfl (by first | exact rdp | exact .arg (hNi _ (by omega))) (by omega)) ?_
       refine .v (.lenR sl41 rfl (by first | exact rdp | exact .arg (hNi _ (by omega)))) ?_
       refine .mv rfl (.nt hK19 (.block ?_))
       refine AK.loopK (X := Nat × Value) [(1, _), (2, _), (5, _), (6, _), (31, _), (32, _), (50, _), (51, _)] (fun y => [(52, .int .i64 (y.1 : Int))]) (fun y => [box bx1 32 4 [.int .i64 d.L, .int .i64 d.s, vF, vN], box bx2 25 5 [.int .i64 0, .int .i64 0, .int .u64 0, .int .u64 0, .slice none 0 0], box bx5 25 5 [.int .i64 d.L, .int .i64 (d.fin.length : Int), uv (bit d.s), uv (tfi d (x.1 + 1)), y.2], row y.2 51 3 (tes d x.1 ++ rE d x.1 y.1).length (edc (tes d x.1 ++ rE d x.1 y.1))]) (fun y => y.1 ≤ (d.nx.getD x.1 []).length ∧ IsSl y.2) (fun y => (d.nx.getD x.1 []).length - y.1) ((0, x.2)) slr ?_ ?_ ?_ ?_
       ·exact ⟨Nat.zero_le _, sx⟩
       ·exact slr
       ·exact fun w hw => by rw [show tes d x.1 ++ rE d x.1 0 = tes d x.1 by simp [rE]]; first | (rw [tfi_yes hc3]; exact hw) | (rw [tfi_no hc3]; exact hw)
       ·intro y hg1 _ hK20
        have sy := hg1.2
        have hll := hrl y.1
        have hlt := @List.length_append _ (tes d x.1) (rE d x.1 y.1)
        refine .sr fun _ hK21 => ?_
        refine .v (.lss rfl rfl) ?_
        refine .nt hK21 ?_
        refine .seq fun _ hK22 => ?_
        refine AK.condD rfl (fun hc4 => ?_) (fun hc4 => ?_)
        ·refine .skip ?_
         refine AK.then_ (hK22 _ ?_)
         refine .seq fun _ hK23 => ?_
         refine .block ?_
         refine .sr fun _ hK24 => ?_
         refine .mv rfl ?_
         first | refine .v (.iN sl41 rfl rfl (hr := (by first | exact rdp | exact .arg (hNi _ (by omega))))) ?_ | refine .v (.iK sl41 rfl rfl (hr := (by first | exact rdp | exact .arg (hNi _ (by omega))))) ?_
         refine .v (.loadI on3 rfl (by first | exact rdp | exact .arg (hNi _ (by omega))) (by omega)) ?_
         refine .as rfl (.as rfl (.nt hK24 ?_))
         refine AK.region ?_
         refine .v (.fieldAddr fd25_4 rfl) ?_
         refine .v (.loadBox on23 rfl bsp rfl) ?_
         refine .mv rfl (.mv rfl (.mv rfl ?_))
         refine .v (.build (parts := [(0, .tmp 59), (1, .tmp 60), (2, .tmp 61)]) (cs := #[.int .i64 (x.1 : Int), .int .i64 (y.1 : Int), .int .i64 ((d.nx.getD x.1 []).getD y.1 0)]) rfl (by kernel_rfl)) ?_
         refine AK.append1 3 rfl sl23 el51 rfl (by decide) rfl (by intro k hk; cases hk; rfl) rfl (by intro c hc; simp [Value.cells] at hc; rcases hc with rfl | rfl | rfl <;> rfl) (by omega) (by omega) (by decide) rfl rfl (fun va _ ha => ?_)
         refine .v (.fieldAddr fd25_4 rfl) ?_
         refine AK.storeBox 2 (us := [va]) (cs' := [.int .i64 d.L, .int .i64 (d.fin.length : Int), uv (bit d.s), uv (tfi d (x.1 + 1)), va]) rfl sz23 rfl rfl (by rw [IsSl.cells (by assumption)]) rfl oneP (Nat.le_of_ble_eq_true rfl) rfl trivial ?_
         refine .nil (.block_normal ?_)
         refine AK.then_ (hK23 _ ?_)
         refine AK.region ?_
         refine .v (.add rfl rfl (by omega)) ?_
         refine .mv rfl (.nil ?_)
         refine AK.then_ (hK20 _ _ ((y.1 + 1, va)) ⟨by dsimp only; omega, ha⟩ (by dsimp only; omega) (slr) (fun w hw => by
  dsimp only
  rw [rE_next, ← List.append_assoc, edc_snoc, @List.length_append _ (tes d x.1 ++ rE d x.1 y.1)]
  exact hw))
        ·refine .exit (.then_exit (.then_exit (.block_exit (.block_normal ?_))))
         refine AK.then_ (hK15 _ ?_)
         refine AK.region ?_
         refine .v (.add rfl rfl (by omega)) ?_
         refine .mv rfl (.nil ?_)
         refine AK.then_ (hK12 _ _ ((x.1 + 1, y.2)) ⟨by dsimp only; omega, hg1.2⟩ (by dsimp only; omega) (slr) (fun w hw => by
  dsimp only
  rw [show tes d (x.1 + 1) = tes d x.1 ++ rE d x.1 (d.nx.getD x.1 []).length from rfl]
  rw [show y.1 = (d.nx.getD x.1 []).length by omega] at hw
  exact hw))
      ·try simp only [bs] at hc3
       refine .skip ?_
       refine AK.then_ (hK17 _ ?_)
       refine .sr fun _ hK25 => ?_
       refine .v (.fieldAddr fd32_3 rfl) ?_
       refine .v (.loadBox on30 rfl bsp rfl) ?_
       refine .mv rfl ?_
       first | refine .v (.iN sl30 rfl rfl (hr := (by first | exact rdp | exact .arg (hNi _ (by omega))))) ?_ | refine .v (.iK sl30 rfl rfl (hr := (by first | exact rdp | exact .arg (hNi _ (by omega))))) ?_
       refine .v (.loadV on41 rfl (by first | exact rdp | exact .arg (hNi _ (by omega))) (by omega)) ?_
       refine .v (.lenR sl41 rfl (by first | exact rdp | exact .arg (hNi _ (by omega)))) ?_
       refine .mv rfl (.nt hK25 (.block ?_))
       refine AK.loopK (X := Nat × Value) [(1, _), (2, _), (5, _), (6, _), (31, _), (32, _), (50, _), (51, _)] (fun y => [(52, .int .i64 (y.1 : Int))]) (fun y => [box bx1 32 4 [.int .i64 d.L, .int .i64 d.s, vF, vN], box bx2 25 5 [.int .i64 0, .int .i64 0, .int .u64 0, .int .u64 0, .slice none 0 0], box bx5 25 5 [.int .i64 d.L, .int .i64 (d.fin.length : Int), uv (bit d.s), uv (tfi d (x.1 + 1)), y.2], row y.2 51 3 (tes d x.1 ++ rE d x.1 y.1).length (edc (tes d x.1 ++ rE d x.1 y.1))]) (fun y => y.1 ≤ (d.nx.getD x.1 []).length ∧ IsSl y.2) (fun y => (d.nx.getD x.1 []).length - y.1) ((0, x.2)) slr ?_ ?_ ?_ ?_
       ·exact ⟨Nat.zero_le _, sx⟩
       ·exact slr
       ·exact fun w hw => by rw [show tes d x.1 ++ rE d x.1 0 = tes d x.1 by simp [rE]]; first | (rw [tfi_yes hc3]; exact hw) | (rw [tfi_no hc3]; exact hw)
       ·intro y hg1 _ hK26
        have sy := hg1.2
        have hll := hrl y.1
        have hlt := @List.length_append _ (tes d x.1) (rE d x.1 y.1)
        refine .sr fun _ hK27 => ?_
        refine .v (.lss rfl rfl) ?_
        refine .nt hK27 ?_
        refine .seq fun _ hK28 => ?_
        refine AK.condD rfl (fun hc4 => ?_) (fun hc4 => ?_)
        ·refine .skip ?_
         refine AK.then_ (hK28 _ ?_)
         refine .seq fun _ hK29 => ?_
         refine .block ?_
         refine .sr fun _ hK30 => ?_
         refine .mv rfl ?_
         first | refine .v (.iN sl41 rfl rfl (hr := (by first | exact rdp | exact .arg (hNi _ (by omega))))) ?_ | refine .v (.iK sl41 rfl rfl (hr := (by first | exact rdp | exact .arg (hNi _ (by omega))))) ?_
         refine .v (.loadI on3 rfl (by first | exact rdp | exact .arg (hNi _ (by omega))) (by omega)) ?_
         refine .as rfl (.as rfl (.nt hK30 ?_))
         refine AK.region ?_
         refine .v (.fieldAddr fd25_4 rfl) ?_
         refine .v (.loadBox on23 rfl bsp rfl) ?_
         refine .mv rfl (.mv rfl (.mv rfl ?_))
         refine .v (.build (parts := [(0, .tmp 59), (1, .tmp 60), (2, .tmp 61)]) (cs := #[.int .i64 (x.1 : Int), .int .i64 (y.1 : Int), .int .i64 ((d.nx.getD x.1 []).getD y.1 0)]) rfl (by kernel_rfl)) ?_
         refine AK.append1 3 rfl sl23 el51 rfl (by decide) rfl (by intro k hk; cases hk; rfl) rfl (by intro c hc; simp [Value.cells] at hc; rcases hc with rfl | rfl | rfl <;> rfl) (by omega) (by omega) (by decide) rfl rfl (fun va _ ha => ?_)
         refine .v (.fieldAddr fd25_4 rfl) ?_
         refine AK.storeBox 2 (us := [va]) (cs' := [.int .i64 d.L, .int .i64 (d.fin.length : Int), uv (bit d.s), uv (tfi d (x.1 + 1)), va]) rfl sz23 rfl rfl (by rw [IsSl.cells (by assumption)]) rfl oneP (Nat.le_of_ble_eq_true rfl) rfl trivial ?_
         refine .nil (.block_normal ?_)
         refine AK.then_ (hK29 _ ?_)
         refine AK.region ?_
         refine .v (.add rfl rfl (by omega)) ?_
         refine .mv rfl (.nil ?_)
         refine AK.then_ (hK26 _ _ ((y.1 + 1, va)) ⟨by dsimp only; omega, ha⟩ (by dsimp only; omega) (slr) (fun w hw => by
  dsimp only
  rw [rE_next, ← List.append_assoc, edc_snoc, @List.length_append _ (tes d x.1 ++ rE d x.1 y.1)]
  exact hw))
        ·refine .exit (.then_exit (.then_exit (.block_exit (.block_normal ?_))))
         refine AK.then_ (hK15 _ ?_)
         refine AK.region ?_
         refine .v (.add rfl rfl (by omega)) ?_
         refine .mv rfl (.nil ?_)
         refine AK.then_ (hK12 _ _ ((x.1 + 1, y.2)) ⟨by dsimp only; omega, hg1.2⟩ (by dsimp only; omega) (slr) (fun w hw => by
  dsimp only
  rw [show tes d (x.1 + 1) = tes d x.1 ++ rE d x.1 (d.nx.getD x.1 []).length from rfl]
  rw [show y.1 = (d.nx.getD x.1 []).length by omega] at hw
  exact hw))
     ·refine .exit (.then_exit (.then_exit (.block_exit ?_)))
      refine AK.then_ (hK10 _ ?_)
      refine .sr fun _ hK31 => ?_
      refine .v (.loadBoxG ag25 rfl bsp rfl rfl) ?_
      refine AK.storeBox 1 (us := [.int .i64 d.L, .int .i64 (d.fin.length : Int), uv (bit d.s), uv (tfi d x.1), x.2]) (cs' := [.int .i64 d.L, .int .i64 (d.fin.length : Int), uv (bit d.s), uv (tfi d x.1), x.2]) rfl sz25 rfl rfl rfl rfl oneP (Nat.le_of_ble_eq_true rfl) rfl trivial ?_
      refine .as rfl (.nt hK31 (.ret ?_))
      refine AK.retG [.cell 2 25, .tmp 3] rfl (.cons (.cell ag25 rfl bsp rfl rfl) (.cons (.tmp rfl) (.nil))) (fun w hw => ⟨_, _, ?_, rfl, Ret.of (hw.pick [3] (by decide) rfl rfl)⟩)
      obtain ⟨e1, e2⟩ := errT_ok hE (by omega)
      have e : x.1 = d.fin.length := (by omega)
      rw [e1, e2, e]
      exact ⟨x.2, rfl, sx, rfl⟩
   ·refine AK.alloc el25 rfl rfl trivial rfl (fun bx5 => ?_)
    refine .nil ?_
    try (conv => enter [2, 2]; dsimp only [List.set_cons_zero, List.set_cons_succ, List.cons_append, List.nil_append])
    refine HeldK.back Go.Sx.hle ?_
    refine HeldK.one 7 (fuel := 2) (listed' := (lb 11 767)) krf rfl krf ?_
    refine AK.call co30 rfl (fun w hw => s_bit w d.s (by omega)) trivial rfl ?_
    rintro r o ⟨rfl, rfl⟩
    refine .nil ?_
    try (conv => enter [2, 2]; dsimp only [List.set_cons_zero, List.set_cons_succ, List.cons_append, List.nil_append])
    refine HeldK.back Go.Sx.hle ?_
    refine HeldK.first 8 (fuel := 1) (listed' := (lb 11 1023)) _ rfl krf krf rfl (Yl.build (parts := [(0, .tmp 21), (1, .tmp 24), (2, .tmp 27)]) (cs := #[.int .i64 d.L, .int .i64 (d.fin.length : Int), uv (bit d.s), .int .u64 0, .slice none 0 0]) rfl (by kernel_rfl)) trivial rfl ?_
    refine HeldK.one 10 (fuel := 0) (listed' := (lb 11 2047)) krf rfl krf ?_
    refine AK.storeBox 2 (us := [.int .i64 d.L, .int .i64 (d.fin.length : Int), uv (bit d.s), .int .u64 0, .slice none 0 0]) (cs' := [.int .i64 d.L, .int .i64 (d.fin.length : Int), uv (bit d.s), .int .u64 0, .slice none 0 0]) rfl sz25 rfl rfl rfl rfl oneP (Nat.le_of_ble_eq_true rfl) rfl trivial ?_
    refine .nil ?_
    try (conv => enter [2, 2]; dsimp only [List.set_cons_zero, List.set_cons_succ, List.cons_append, List.nil_append])
    refine HeldK.backN 11 krf rfl krf ?_
    refine .nil ?_
    refine AK.fromQn ?_
    refine AK.then_ (hK9 _ ?_)
    refine .seq fun _ hK32 => ?_
    refine .sr fun _ hK33 => ?_
    refine .v (.fieldAddr fd32_2 rfl) ?_
    refine .v (.loadBox on29 rfl bsp rfl) ?_
    refine .v (.lenR sl29 rfl (by first | exact rdp | exact .arg (hNi _ (by omega)))) ?_
    refine .mv rfl (.nt hK33 (.block ?_))
    refine AK.loopK (X := Nat × Value) [(1, _), (2, _), (5, _), (31, _)] (fun x => [(32, .int .i64 (x.1 : Int))]) (fun x => [box bx1 32 4 [.int .i64 d.L, .int .i64 d.s, vF, vN], box bx2 25 5 [.int .i64 0, .int .i64 0, .int .u64 0, .int .u64 0, .slice none 0 0], box bx5 25 5 [.int .i64 d.L, .int .i64 (d.fin.length : Int), uv (bit d.s), uv (tfi d x.1), x.2], row x.2 51 3 (tes d x.1).length (edc (tes d x.1))]) (fun x => x.1 ≤ d.fin.length ∧ IsSl x.2) (fun x => d.fin.length - x.1) ((0, .slice none 0 0)) slr ?_ ?_ ?_ ?_
    ·exact ⟨Nat.zero_le _, nilSl⟩
    ·exact slr
    ·exact fun w hw => by exact hw.ghost 51 3
    ·intro x hg0 _ hK34
     have sx := hg0.2
     refine .sr fun _ hK35 => ?_
     refine .v (.lss rfl rfl) ?_
     refine .nt hK35 ?_
     refine .seq fun _ hK36 => ?_
     refine AK.condD rfl (fun hc2 => ?_) (fun hc2 => ?_)
     ·have htb := tes_bd hv x.1 (by omega)
      have hrw := hv.row x.1 (by omega)
      have hrl := rE_len d x.1
      refine .skip ?_
      refine AK.then_ (hK36 _ ?_)
      refine .seq fun _ hK37 => ?_
      refine .block ?_
      refine .sr fun _ hK38 => ?_
      refine .mv rfl (.as rfl (.nt hK38 ?_))
      refine .seq fun _ hK39 => ?_
      refine .sr fun _ hK40 => ?_
      refine .v (.fieldAddr fd32_2 rfl) ?_
      refine .v (.loadBox on29 rfl bsp rfl) ?_
      refine .mv rfl ?_
      first | refine .v (.iN sl29 rfl rfl (hr := (by first | exact rdp | exact .arg (hNi _ (by omega))))) ?_ | refine .v (.iK sl29 rfl rfl (hr := (by first | exact rdp | exact .arg (hNi _ (by omega))))) ?_
      refine .v (.loadB on4 rfl (by first | exact rdp | exact .arg (hNi _ (by omega))) (by omega)) ?_
      refine .nt hK40 ?_
      refine AK.cond rfl (fun hc3 => ?_) (fun hc3 => ?_)
      ·try simp only [bs] at hc3
       try (conv => enter [2, 2]; dsimp only [List.set_cons_zero, List.set_cons_succ, List.cons_append, List.nil_append])
       refine AK.held 6 mixed ?_
       refine HeldK.first 0 (fuel := 6) (listed' := (lb 7 1)) _ rfl krf krf rfl (Yl.fieldAddr fd25_3 rfl) trivial rfl ?_
       refine HeldK.first 1 (fuel := 5) (listed' := (lb 7 3)) _ rfl krf krf rfl (Yl.loadBox on22 rfl bsp rfl) trivial rfl ?_
       refine HeldK.first 2 (fuel := 4) (listed' := (lb 7 7)) _ rfl krf krf rfl (Yl.move rfl) trivial rfl ?_
       refine HeldK.one 3 (fuel := 3) (listed' := (lb 7 15)) krf rfl krf ?_
       refine AK.call co30 rfl (fun w hw => s_bit w (x.1 : Int) (by omega)) trivial rfl ?_
       rintro r o ⟨rfl, rfl⟩
       refine .nil ?_
       try (conv => enter [2, 2]; dsimp only [List.set_cons_zero, List.set_cons_succ, List.cons_append, List.nil_append])
       refine HeldK.back Go.Sx.hle ?_
       refine HeldK.first 4 (fuel := 2) (listed' := (lb 7 31)) _ rfl krf krf rfl (Yl.orU rfl rfl) trivial rfl ?_
       refine HeldK.first 5 (fuel := 1) (listed' := (lb 7 63)) _ rfl krf krf rfl (Yl.fieldAddr fd25_3 rfl) trivial rfl ?_
       refine HeldK.one 6 (fuel := 0) (listed' := (lb 7 127)) krf rfl krf ?_
       refine AK.storeBox 2 (cs' := [.int .i64 d.L, .int .i64 (d.fin.length : Int), uv (bit d.s), uv (tfi d x.1 ||| bit (x.1 : Int)), x.2]) rfl sz22 rfl rfl rfl rfl oneP (Nat.le_of_ble_eq_true rfl) rfl trivial ?_
       refine .nil ?_
       try (conv => enter [2, 2]; dsimp only [List.set_cons_zero, List.set_cons_succ, List.cons_append, List.nil_append])
       refine HeldK.backN 7 krf rfl krf ?_
       refine .nil ?_
       refine AK.fromQn ?_
       refine AK.then_ (hK39 _ ?_)
       refine .sr fun _ hK41 => ?_
       refine .v (.fieldAddr fd32_3 rfl) ?_
       refine .v (.loadBox on30 rfl bsp rfl) ?_
       refine .mv rfl ?_
       first | refine .v (.iN sl30 rfl rfl (hr := (by first | exact rdp | exact .arg (hNi _ (by omega))))) ?_ | refine .v (.iK sl30 rfl rfl (hr := (by first | exact rdp | exact .arg (hNi _ (by omega))))) ?_
       refine .v (.loadV on41 rfl (by first | exact rdp | exact .arg (hNi _ (by omega))) (by omega)) ?_
       refine .v (.lenR sl41 rfl (by first | exact rdp | exact .arg (hNi _ (by omega)))) ?_
       refine .mv rfl (.nt hK41 (.block ?_))
       refine AK.loopK (X := Nat × Value) [(1, _), (2, _), (5, _), (6, _), (31, _), (32, _), (50, _), (51, _)] (fun y => [(52, .int .i64 (y.1 : Int))]) (fun y => [box bx1 32 4 [.int .i64 d.L, .int .i64 d.s, vF, vN], box bx2 25 5 [.int .i64 0, .int .i64 0, .int .u64 0, .int .u64 0, .slice none 0 0], box bx5 25 5 [.int .i64 d.L, .int .i64 (d.fin.length : Int), uv (bit d.s), uv (tfi d (x.1 + 1)), y.2], row y.2 51 3 (tes d x.1 ++ rE d x.1 y.1).length (edc (tes d x.1 ++ rE d x.1 y.1))]) (fun y => y.1 ≤ (d.nx.getD x.1 []).length ∧ IsSl y.2) (fun y => (d.nx.getD x.1 []).length - y.1) ((0, x.2)) slr ?_ ?_ ?_ ?_
       ·exact ⟨Nat.zero_le _, sx⟩
       ·exact slr
       ·exact fun w hw => by rw [show tes d x.1 ++ rE d x.1 0 = tes d x.1 by simp [rE]]; first | (rw [tfi_yes hc3]; exact hw) | (rw [tfi_no hc3]; exact hw)
       ·intro y hg1 _ hK42
        have sy := hg1.2
        have hll := hrl y.1
        have hlt := @List.length_append _ (tes d x.1) (rE d x.1 y.1)
        refine .sr fun _ hK43 => ?_
        refine .v (.lss rfl rfl) ?_
        refine .nt hK43 ?_
        refine .seq fun _ hK44 => ?_
        refine AK.condD rfl (fun hc4 => ?_) (fun hc4 => ?_)
        ·refine .skip ?_
         refine AK.then_ (hK44 _ ?_)
         refine .seq fun _ hK45 => ?_
         refine .block ?_
         refine .sr fun _ hK46 => ?_
         refine .mv rfl ?_
         first | refine .v (.iN sl41 rfl rfl (hr := (by first | exact rdp | exact .arg (hNi _ (by omega))))) ?_ | refine .v (.iK sl41 rfl rfl (hr := (by first | exact rdp | exact .arg (hNi _ (by omega))))) ?_
         refine .v (.loadI on3 rfl (by first | exact rdp | exact .arg (hNi _ (by omega))) (by omega)) ?_
         refine .as rfl (.as rfl (.nt hK46 ?_))
         refine AK.region ?_
         refine .v (.fieldAddr fd25_4 rfl) ?_
         refine .v (.loadBox on23 rfl bsp rfl) ?_
         refine .mv rfl (.mv rfl (.mv rfl ?_))
         refine .v (.build (parts := [(0, .tmp 59), (1, .tmp 60), (2, .tmp 61)]) (cs := #[.int .i64 (x.1 : Int), .int .i64 (y.1 : Int), .int .i64 ((d.nx.getD x.1 []).getD y.1 0)]) rfl (by kernel_rfl)) ?_
         refine AK.append1 3 rfl sl23 el51 rfl (by decide) rfl (by intro k hk; cases hk; rfl) rfl (by intro c hc; simp [Value.cells] at hc; rcases hc with rfl | rfl | rfl <;> rfl) (by omega) (by omega) (by decide) rfl rfl (fun va _ ha => ?_)
         refine .v (.fieldAddr fd25_4 rfl) ?_
         refine AK.storeBox 2 (us := [va]) (cs' := [.int .i64 d.L, .int .i64 (d.fin.length : Int), uv (bit d.s), uv (tfi d (x.1 + 1)), va]) rfl sz23 rfl rfl (by rw [IsSl.cells (by assumption)]) rfl oneP (Nat.le_of_ble_eq_true rfl) rfl trivial ?_
         refine .nil (.block_normal ?_)
         refine AK.then_ (hK45 _ ?_)
         refine AK.region ?_
         refine .v (.add rfl rfl (by omega)) ?_
         refine .mv rfl (.nil ?_)
         refine AK.then_ (hK42 _ _ ((y.1 + 1, va)) ⟨by dsimp only; omega, ha⟩ (by dsimp only; omega) (slr) (fun w hw => by
  dsimp only
  rw [rE_next, ← List.append_assoc, edc_snoc, @List.length_append _ (tes d x.1 ++ rE d x.1 y.1)]
  exact hw))
        ·refine .exit (.then_exit (.then_exit (.block_exit (.block_normal ?_))))
         refine AK.then_ (hK37 _ ?_)
         refine AK.region ?_
         refine .v (.add rfl rfl (by omega)) ?_
         refine .mv rfl (.nil ?_)
         refine AK.then_ (hK34 _ _ ((x.1 + 1, y.2)) ⟨by dsimp only; omega, hg1.2⟩ (by dsimp only; omega) (slr) (fun w hw => by
  dsimp only
  rw [show tes d (x.1 + 1) = tes d x.1 ++ rE d x.1 (d.nx.getD x.1 []).length from rfl]
  rw [show y.1 = (d.nx.getD x.1 []).length by omega] at hw
  exact hw))
      ·try simp only [bs] at hc3
       refine .skip ?_
       refine AK.then_ (hK39 _ ?_)
       refine .sr fun _ hK47 => ?_
       refine .v (.fieldAddr fd32_3 rfl) ?_
       refine .v (.loadBox on30 rfl bsp rfl) ?_
       refine .mv rfl ?_
       first | refine .v (.iN sl30 rfl rfl (hr := (by first | exact rdp | exact .arg (hNi _ (by omega))))) ?_ | refine .v (.iK sl30 rfl rfl (hr := (by first | exact rdp | exact .arg (hNi _ (by omega))))) ?_
       refine .v (.loadV on41 rfl (by first | exact rdp | exact .arg (hNi _ (by omega))) (by omega)) ?_
       refine .v (.lenR sl41 rfl (by first | exact rdp | exact .arg (hNi _ (by omega)))) ?_
       refine .mv rfl (.nt hK47 (.block ?_))
       refine AK.loopK (X := Nat × Value) [(1, _), (2, _), (5, _), (6, _), (31, _), (32, _), (50, _), (51, _)] (fun y => [(52, .int .i64 (y.1 : Int))]) (fun y => [box bx1 32 4 [.int .i64 d.L, .int .i64 d.s, vF, vN], box bx2 25 5 [.int .i64 0, .int .i64 0, .int .u64 0, .int .u64 0, .slice none 0 0], box bx5 25 5 [.int .i64 d.L, .int .i64 (d.fin.length : Int), uv (bit d.s), uv (tfi d (x.1 + 1)), y.2], row y.2 51 3 (tes d x.1 ++ rE d x.1 y.1).length (edc (tes d x.1 ++ rE d x.1 y.1))]) (fun y => y.1 ≤ (d.nx.getD x.1 []).length ∧ IsSl y.2) (fun y => (d.nx.getD x.1 []).length - y.1) ((0, x.2)) slr ?_ ?_ ?_ ?_
       ·exact ⟨Nat.zero_le _, sx⟩
       ·exact slr
       ·exact fun w hw => by rw [show tes d x.1 ++ rE d x.1 0 = tes d x.1 by simp [rE]]; first | (rw [tfi_yes hc3]; exact hw) | (rw [tfi_no hc3]; exact hw)
       ·intro y hg1 _ hK48
        have sy := hg1.2
        have hll := hrl y.1
        have hlt := @List.length_append _ (tes d x.1) (rE d x.1 y.1)
        refine .sr fun _ hK49 => ?_
        refine .v (.lss rfl rfl) ?_
        refine .nt hK49 ?_
        refine .seq fun _ hK50 => ?_
        refine AK.condD rfl (fun hc4 => ?_) (fun hc4 => ?_)
        ·refine .skip ?_
         refine AK.then_ (hK50 _ ?_)
         refine .seq fun _ hK51 => ?_
         refine .block ?_
         refine .sr fun _ hK52 => ?_
         refine .mv rfl ?_
         first | refine .v (.iN sl41 rfl rfl (hr := (by first | exact rdp | exact .arg (hNi _ (by omega))))) ?_ | refine .v (.iK sl41 rfl rfl (hr := (by first | exact rdp | exact .arg (hNi _ (by omega))))) ?_
         refine .v (.loadI on3 rfl (by first | exact rdp | exact .arg (hNi _ (by omega))) (by omega)) ?_
         refine .as rfl (.as rfl (.nt hK52 ?_))
         refine AK.region ?_
         refine .v (.fieldAddr fd25_4 rfl) ?_
         refine .v (.loadBox on23 rfl bsp rfl) ?_
         refine .mv rfl (.mv rfl (.mv rfl ?_))
         refine .v (.build (parts := [(0, .tmp 59), (1, .tmp 60), (2, .tmp 61)]) (cs := #[.int .i64 (x.1 : Int), .int .i64 (y.1 : Int), .int .i64 ((d.nx.getD x.1 []).getD y.1 0)]) rfl (by kernel_rfl)) ?_
         refine AK.append1 3 rfl sl23 el51 rfl (by decide) rfl (by intro k hk; cases hk; rfl) rfl (by intro c hc; simp [Value.cells] at hc; rcases hc with rfl | rfl | rfl <;> rfl) (by omega) (by omega) (by decide) rfl rfl (fun va _ ha => ?_)
         refine .v (.fieldAddr fd25_4 rfl) ?_
         refine AK.storeBox 2 (us := [va]) (cs' := [.int .i64 d.L, .int .i64 (d.fin.length : Int), uv (bit d.s), uv (tfi d (x.1 + 1)), va]) rfl sz23 rfl rfl (by rw [IsSl.cells (by assumption)]) rfl oneP (Nat.le_of_ble_eq_true rfl) rfl trivial ?_
         refine .nil (.block_normal ?_)
         refine AK.then_ (hK51 _ ?_)
         refine AK.region ?_
         refine .v (.add rfl rfl (by omega)) ?_
         refine .mv rfl (.nil ?_)
         refine AK.then_ (hK48 _ _ ((y.1 + 1, va)) ⟨by dsimp only; omega, ha⟩ (by dsimp only; omega) (slr) (fun w hw => by
  dsimp only
  rw [rE_next, ← List.append_assoc, edc_snoc, @List.length_append _ (tes d x.1 ++ rE d x.1 y.1)]
  exact hw))
        ·refine .exit (.then_exit (.then_exit (.block_exit (.block_normal ?_))))
         refine AK.then_ (hK37 _ ?_)
         refine AK.region ?_
         refine .v (.add rfl rfl (by omega)) ?_
         refine .mv rfl (.nil ?_)
         refine AK.then_ (hK34 _ _ ((x.1 + 1, y.2)) ⟨by dsimp only; omega, hg1.2⟩ (by dsimp only; omega) (slr) (fun w hw => by
  dsimp only
  rw [show tes d (x.1 + 1) = tes d x.1 ++ rE d x.1 (d.nx.getD x.1 []).length from rfl]
  rw [show y.1 = (d.nx.getD x.1 []).length by omega] at hw
  exact hw))
     ·refine .exit (.then_exit (.then_exit (.block_exit ?_)))
      refine AK.then_ (hK32 _ ?_)
      refine .sr fun _ hK53 => ?_
      refine .v (.loadBoxG ag25 rfl bsp rfl rfl) ?_
      refine AK.storeBox 1 (us := [.int .i64 d.L, .int .i64 (d.fin.length : Int), uv (bit d.s), uv (tfi d x.1), x.2]) (cs' := [.int .i64 d.L, .int .i64 (d.fin.length : Int), uv (bit d.s), uv (tfi d x.1), x.2]) rfl sz25 rfl rfl rfl rfl oneP (Nat.le_of_ble_eq_true rfl) rfl trivial ?_
      refine .as rfl (.nt hK53 (.ret ?_))
      refine AK.retG [.cell 2 25, .tmp 3] rfl (.cons (.cell ag25 rfl bsp rfl rfl) (.cons (.tmp rfl) (.nil))) (fun w hw => ⟨_, _, ?_, rfl, Ret.of (hw.pick [3] (by decide) rfl rfl)⟩)
      obtain ⟨e1, e2⟩ := errT_ok hE (by omega)
      have e : x.1 = d.fin.length := (by omega)
      rw [e1, e2, e]
      exact ⟨x.2, rfl, sx, rfl⟩

end Go.Proofs.YtckicbgffhbacaaDoor
