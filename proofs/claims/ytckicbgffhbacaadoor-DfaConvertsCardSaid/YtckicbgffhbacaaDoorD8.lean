import Derived.Test.YtckicbgffhbacaaDoorD7
import Derived.Test.YtckicbgffhbacaaDoorDP
set_option linter.unusedVariables false
set_option linter.unusedSimpArgs false
namespace Go.Proofs.YtckicbgffhbacaaDoor
open Go.Sx Go.RowKit
set_option maxRecDepth 100000 in
theorem s_trim1 (w : World) (q : Int) (x : Nat) (b : Nat) (d : Dfa) (vF vN : Value) (hv : VD d) (hb : BxA w b [.int .i64 d.L, .int .i64 d.s, vF, vN]) (hF0 : RdL (fun _ => False) Value.bool w vF d.fin) (hN0 : RdLL (fun _ => False) (Value.int .i64) w vN d.nx) (hq : 0 ≤ q ∧ q < d.fin.length) (hx : x < d.L.toNat) : CallS Tryd.prog 32 [.int .i64 q, .int .i64 (x : Int), .pointer (some ⟨b, 0, none⟩)] w (fun r o => r = .int .i64 (stepQ d q x) ∧ o = []) := by
 have hF := hF0
 unfold RdL at hF
 obtain ⟨rs, hrl, hNr, hNi⟩ := hN0
 have hnx := hv.nx
 have hrw := hv.row q.toNat (by omega)
 refine spec_of Tryd.func32 rfl (Nat.le_of_ble_eq_true rfl) ?_
 refine .sr fun _ hK1 => ?_
 refine .as rfl (.nt hK1 ?_)
 refine .sr fun _ hK2 => ?_
 refine .v (.fieldAddr fd32_3 rfl) ?_
 refine .v (.loadBox on30 rfl bsp rfl) ?_
 refine .mv rfl ?_
 first | refine .v (.iN sl30 rfl rfl (hr := (by first | exact rdp | exact .arg (hNi _ (by omega))))) ?_ | refine .v (.iK sl30 rfl rfl (hr := (by first | exact rdp | exact .arg (hNi _ (by omega))))) ?_
 refine .v (.loadV on41 rfl (by first | exact rdp | exact .arg (hNi _ (by omega))) (by omega)) ?_
 refine .mv rfl ?_
 first | refine .v (.iN sl41 rfl rfl (hr := (by first | exact rdp | exact .arg (hNi _ (by omega))))) ?_ | refine .v (.iK sl41 rfl rfl (hr := (by first | exact rdp | exact .arg (hNi _ (by omega))))) ?_
 refine .v (.loadI on3 rfl (by first | exact rdp | exact .arg (hNi _ (by omega))) (by omega)) ?_
 refine .as rfl (.nt hK2 (.ret ?_))
 refine AK.ret1 rfl rfl (fun w hw => ⟨_, _, ?_, rfl, Ret.of (hw.pick [] (by decide) rfl rfl)⟩)
 exact ⟨rfl, rfl⟩

set_option maxRecDepth 100000 in
theorem s_trim2 (w : World) (q : Int) (b : Nat) (d : Dfa) (vF vN : Value) (hv : VD d) (hb : BxA w b [.int .i64 d.L, .int .i64 d.s, vF, vN]) (hF0 : RdL (fun _ => False) Value.bool w vF d.fin) (hN0 : RdLL (fun _ => False) (Value.int .i64) w vN d.nx) (hq : 0 ≤ q ∧ q < d.fin.length) : CallS Tryd.prog 33 [.int .i64 q, .pointer (some ⟨b, 0, none⟩)] w (fun r o => r = .bool (finQ d q) ∧ o = []) := by
 have hF := hF0
 unfold RdL at hF
 obtain ⟨rs, hrl, hNr, hNi⟩ := hN0
 have hnx := hv.nx
 refine spec_of Tryd.func33 rfl (Nat.le_of_ble_eq_true rfl) ?_
 refine .sr fun _ hK1 => ?_
 refine .as rfl (.nt hK1 ?_)
 refine .sr fun _ hK2 => ?_
 refine .v (.fieldAddr fd32_2 rfl) ?_
 refine .v (.loadBox on29 rfl bsp rfl) ?_
 refine .mv rfl ?_
 first | refine .v (.iN sl29 rfl rfl) ?_ | refine .v (.iK sl29 rfl rfl) ?_
 refine .v (.loadB on4 rfl rdp (by omega)) ?_
 refine .as rfl (.nt hK2 (.ret ?_))
 refine AK.ret1 rfl rfl (fun w hw => ⟨_, _, ?_, rfl, Ret.of (hw.pick [] (by decide) rfl rfl)⟩)
 exact ⟨rfl, rfl⟩

set_option maxHeartbeats 600000 in
set_option maxRecDepth 100000 in
theorem s_trim (w : World) (v : Value) (d : Dfa) (h : RdD (fun _ => False) w v d) : CallS Tryd.prog 14 [v] w (fun r o => ∃ (vF vN vM : Value) (rs : List Value), r = .tuple #[.agg #[.int .i64 (TrimV d).L, .int .i64 (TrimV d).s, vF, vN], vM] ∧ rs.length = (TrimV d).nx.length ∧ IsSl vF ∧ IsSl vN ∧ IsSl vM ∧ o = dfaO 4 3 41 vF vN rs (TrimV d) ++ [row vM 3 1 (NumV d).length ((NumV d).map (Value.int .i64))]) := by
 have h0 := h
 obtain ⟨vF, vN, rfl, hF, hN⟩ := h
 have hF0 := hF
 have hN0 := hN
 obtain ⟨rs, hrl, hNr, hNi⟩ := hN
 have sF := hF.sl
 have sN := hNr.sl
 have hmf := hF.le
 have hmn := hNr.le
 unfold RdL at hF
 refine spec_of Tryd.func14 rfl (Nat.le_of_ble_eq_true rfl) ?_
 refine .sr fun _ hK1 => ?_
 refine AK.box_ (E := 32) (cs := [.int .i64 d.L, .int .i64 d.s, vF, vN]) rfl rfl rfl trivial rfl (fun bx1 => ?_)
 refine AK.alloc el32 rfl rfl trivial rfl (fun bx2 => ?_)
 refine .as rfl (.nt hK1 ?_)
 refine .seq fun _ hK2 => ?_
 refine .sr fun _ hK3 => ?_
 refine .v (.loadBoxG ag32 rfl bsp rfl rfl) ?_
 refine AK.call co15 rfl (fun w hw => s_validate w _ d (h0.at hw)) trivial rfl ?_
 rintro r o ⟨rfl, rfl⟩
 refine .v (.neq rfl rfl) ?_
 refine .nt hK3 ?_
 refine AK.condNe rfl (fun hc0 => ?_) (fun hc0 => ?_)
 ·have hnv : ¬ VD d := fun h => hc0 ((errV_iff d).2 h)
  refine .sr fun _ hK4 => ?_
  refine .v (.build (parts := []) (cs := #[.int .i64 0, .int .i64 0, .slice none 0 0, .slice none 0 0]) rfl (by kernel_rfl)) ?_
  refine AK.storeBox 1 (us := [.int .i64 0, .int .i64 0, .slice none 0 0, .slice none 0 0]) (cs' := [.int .i64 0, .int .i64 0, .slice none 0 0, .slice none 0 0]) rfl sz32 rfl rfl rfl rfl oneP (Nat.le_of_ble_eq_true rfl) rfl trivial ?_
  refine .as rfl (.nt hK4 (.ret (.then_ret ?_)))
  refine AK.own' (dfaO 4 3 41 (.slice none 0 0) (.slice none 0 0) [] nilD ++ [row (.slice none 0 0) 3 1 0 [], box bx2 32 4 [.int .i64 0, .int .i64 0, .slice none 0 0, .slice none 0 0]]) (fun w hw => by have h1 := ((((hw.pick [1] (by decide) rfl rfl).ghost 4 1).ghost 41 1).ghostG (f := Value.int .i64) 3).ghost 3 1; exact h1.pick [1, 2, 3, 4, 0] (by decide) rfl rfl) ?_
  refine AK.retG [.cell 2 32, .tmp 3] rfl (.cons (.cell ag32 rfl bsp rfl rfl) (.cons (.tmp rfl) (.nil))) (fun w hw => ⟨_, _, ?_, rfl, Ret.of (hw.pick [0, 1, 2, 3] (by decide) rfl rfl)⟩)
  have e1 : TrimV d = nilD := if_neg hnv
  have e2 : NumV d = [] := if_neg hnv
  rw [e1, e2]
  exact ⟨_, _, _, [], rfl, rfl, nilSl, nilSl, nilSl, rfl⟩
 ·have hv : VD d := (errV_iff d).1 hc0
  have hvL := hv.L
  have hLL : ((d.L.toNat : Nat) : Int) = d.L := by omega
  obtain ⟨tk1, tk2, tk3, tk4⟩ := TSt_ok hv
  have hn5 := hv.n
  refine .skip ?_
  refine AK.then_ (hK2 _ ?_)
  refine .sr fun _ hK5 => ?_
  refine .v (.fieldAddr fd32_0 rfl) ?_
  refine .v (.loadBox on3 rfl bsp rfl) ?_
  refine .v (.fieldAddr fd32_1 rfl) ?_
  refine .v (.loadBox on3 rfl bsp rfl) ?_
  refine .v (.makeFunc (first := []) (captured := [.tmp 1]) rfl rfl) ?_
  refine .v (.makeFunc (first := []) (captured := [.tmp 1]) rfl rfl) ?_
  refine AK.call co31 rfl (fun w hw => (by have h := s_exploreI w d.L.toNat d.s (stepQ d) (finQ d) (univ d.fin.length) 32 33 [.pointer (some ⟨bx1, 0, none⟩)] [.pointer (some ⟨bx1, 0, none⟩)] (by omega) (start_univ hv) (by rw [univ_len]; exact hv.n) (step_univ hv) co32 co33 (fun w' hfr q hq x hx => s_trim1 w' q x bx1 d vF vN hv ((BxA.own 0 hw rfl).fr hfr) ((hF0.at hw).fr hfr) ((hN0.at hw).fr hfr) (mem_univ.1 hq) hx) (fun w' hfr q hq => s_trim2 w' q bx1 d vF vN hv ((BxA.own 0 hw rfl).fr hfr) ((hF0.at hw).fr hfr) ((hN0.at hw).fr hfr) (mem_univ.1 hq)); rw [hLL] at h; exact h)) trivial rfl ?_
  rintro r o ⟨n, vL, vF2, vN2, rs2, hn, hrs, sL, sF2, sN2, rfl, rfl⟩
  obtain ⟨ht1, ht2⟩ := trim_is hv hn
  rw [ht1, ht2]
  have hTl : n = (TSt d).length := by rw [← ht1]; exact hn
  refine .mv rfl ?_
  refine .v (.extract rfl rfl) ?_
  refine .v (.extract rfl rfl) ?_
  refine .v (.extract rfl rfl) ?_
  refine AK.alloc el32 rfl rfl trivial rfl (fun bx4 => ?_)
  refine AK.storeBox 6 (us := [.int .i64 d.L, .int .i64 0, vF2, vN2]) (cs' := [.int .i64 d.L, .int .i64 0, vF2, vN2]) rfl sz32 rfl rfl rfl rfl oneP (Nat.le_of_ble_eq_true rfl) rfl trivial ?_
  refine .as rfl (.as rfl (.nt hK5 ?_))
  refine .sr fun _ hK6 => ?_
  refine .v (.fieldAddr fd32_2 rfl) ?_
  refine .v (.loadBox on29 rfl bsp rfl) ?_
  refine .v (.lenR sl29 rfl rdp) ?_
  refine AK.make1 (n := d.fin.length) sl41 el3 rfl rfl rfl (by omega) (by omega) trivial rfl (fun mv => ?_)
  refine .as rfl (.nt hK6 ?_)
  refine .seq fun _ hK7 => ?_
  refine .sr fun _ hK8 => ?_
  refine .mv rfl ?_
  refine .v (.lenR sl41 rfl rdp) ?_
  refine .mv rfl (.nt hK8 (.block ?_))
  refine AK.loopK (X := Nat) [(2, _), (4, _), (5, _), (7, _), (31, _)] (fun k => [(32, .int .i64 (k : Int))]) (fun k => [box bx1 32 4 [.int .i64 d.L, .int .i64 d.s, vF, vN], box bx2 32 4 [.int .i64 0, .int .i64 0, .slice none 0 0, .slice none 0 0], row vF2 4 1 (trimD d).fin.length ((trimD d).fin.map Value.bool), row vN2 41 1 (trimD d).nx.length rs2, bigA (matG (Value.int .i64) 3 rs2 (trimD d).nx), row vL 3 1 (TSt d).length ((TSt d).map (Value.int .i64)), box bx4 32 4 [.int .i64 d.L, .int .i64 0, vF2, vN2], row mv 3 1 d.fin.length ((List.replicate k (-1) ++ List.replicate (d.fin.length - k) (0 : Int)).map (Value.int .i64))]) (fun k => k ≤ d.fin.length) (fun k => d.fin.length - k) (0) slr ?_ ?_ ?_ ?_
  ·exact Nat.zero_le _
  ·exact slr
  ·exact fun w hw => by have e : ((List.replicate 0 (-1) ++ List.replicate (d.fin.length - 0) (0 : Int)).map (Value.int .i64)) = List.replicate d.fin.length (Value.int .i64 0) := (by simp); rw [e]; exact hw
  ·intro k hg0 _ hK9
   refine .sr fun _ hK10 => ?_
   refine .v (.lss rfl rfl) ?_
   refine .nt hK10 ?_
   refine .seq fun _ hK11 => ?_
   refine AK.condD rfl (fun hc1 => ?_) (fun hc1 => ?_)
   ·refine .skip ?_
    refine AK.then_ (hK11 _ ?_)
    refine .seq fun _ hK12 => ?_
    refine .block ?_
    refine .sr fun _ hK13 => ?_
    refine .mv rfl (.as rfl (.nt hK13 ?_))
    refine AK.region ?_
    refine .mv rfl (.mv rfl ?_)
    first | refine .v (.iN sl41 rfl rfl) ?_ | refine .v (.iK sl41 rfl rfl) ?_
    refine AK.store1e 7 rfl sz3 rfl rfl rfl rfl (by omega) (cs' := ((List.replicate (k + 1) (-1) ++ List.replicate (d.fin.length - (k + 1)) (0 : Int)).map (Value.int .i64))) (by rw [List.replicate_succ']; exact fill_set (Value.int .i64) (List.replicate k (-1)) 0 (-1) d.fin.length k (by simp) (by omega)) trivial ?_
    refine .nil (.block_normal ?_)
    refine AK.then_ (hK12 _ ?_)
    refine AK.region ?_
    refine .v (.add rfl rfl (by omega)) ?_
    refine .mv rfl (.nil ?_)
    refine AK.then_ (hK9 _ _ (k + 1) (by omega) (by omega) (slr) (fun w hw => hw))
   ·refine AK.shape 7 rfl (fun smv => ?_)
    refine .exit (.then_exit (.then_exit (.block_exit ?_)))
    refine AK.then_ (hK7 _ ?_)
    refine .seq fun _ hK14 => ?_
    refine .sr fun _ hK15 => ?_
    refine .mv rfl ?_
    refine .v (.lenR sl41 rfl rdp) ?_
    refine .mv rfl (.nt hK15 (.block ?_))
    refine AK.loopK (X := Nat) [(2, _), (4, _), (7, _), (39, _), (40, _)] (fun k => [(41, .int .i64 (k : Int))]) (fun k => [box bx1 32 4 [.int .i64 d.L, .int .i64 d.s, vF, vN], box bx2 32 4 [.int .i64 0, .int .i64 0, .slice none 0 0, .slice none 0 0], row vF2 4 1 (trimD d).fin.length ((trimD d).fin.map Value.bool), row vN2 41 1 (trimD d).nx.length rs2, bigA (matG (Value.int .i64) 3 rs2 (trimD d).nx), row vL 3 1 (TSt d).length ((TSt d).map (Value.int .i64)), box bx4 32 4 [.int .i64 d.L, .int .i64 0, vF2, vN2], row mv 3 1 d.fin.length ((numK d.fin.length (TSt d) k).map (Value.int .i64))]) (fun k => k ≤ (TSt d).length) (fun k => (TSt d).length - k) (0) slr ?_ ?_ ?_ ?_
    ·exact Nat.zero_le _
    ·exact slr
    ·exact fun w hw => by have e : (List.replicate k (-1) ++ List.replicate (d.fin.length - k) (0 : Int)) = numK d.fin.length (TSt d) 0 := (by rw [show k = d.fin.length by omega, Nat.sub_self]; simp [numK]); rw [e] at hw; exact hw
    ·intro k hg1 _ hK16
     refine .sr fun _ hK17 => ?_
     refine .v (.lss rfl rfl) ?_
     refine .nt hK17 ?_
     refine .seq fun _ hK18 => ?_
     refine AK.condD rfl (fun hc2 => ?_) (fun hc2 => ?_)
     ·have htk := tk2 _ (getD_mem (d := 0) (xs := TSt d) (k := k) (by omega))
      refine .skip ?_
      refine AK.then_ (hK18 _ ?_)
      refine .seq fun _ hK19 => ?_
      refine .block ?_
      refine .sr fun _ hK20 => ?_
      refine .mv rfl ?_
      first | refine .v (.iN sl41 rfl rfl) ?_ | refine .v (.iK sl41 rfl rfl) ?_
      refine .v (.loadI on3 rfl rdp (by omega)) ?_
      refine .as rfl (.as rfl (.nt hK20 ?_))
      refine AK.region ?_
      refine .mv rfl (.mv rfl (.mv rfl ?_))
      first | refine .v (.iN sl41 rfl rfl) ?_ | refine .v (.iK sl41 rfl rfl) ?_
      refine AK.store1e 7 rfl sz3 rfl rfl rfl rfl (by have := numK_len d.fin.length (TSt d) k; omega) (cs' := ((numK d.fin.length (TSt d) (k + 1)).map (Value.int .i64))) (by rw [numK_succ, List.map_set]) trivial ?_
      refine .nil (.block_normal ?_)
      refine AK.then_ (hK19 _ ?_)
      refine AK.region ?_
      refine .v (.add rfl rfl (by omega)) ?_
      refine .mv rfl (.nil ?_)
      refine AK.then_ (hK16 _ _ (k + 1) (by omega) (by omega) (slr) (fun w hw => hw))
     ·refine .exit (.then_exit (.then_exit (.block_exit ?_)))
      refine AK.then_ (hK14 _ ?_)
      refine .sr fun _ hK21 => ?_
      refine .v (.loadBoxG ag32 rfl bsp rfl rfl) ?_
      refine .mv rfl ?_
      refine AK.storeBox 1 (us := [.int .i64 d.L, .int .i64 0, vF2, vN2]) (cs' := [.int .i64 d.L, .int .i64 0, vF2, vN2]) rfl sz32 rfl rfl rfl rfl oneP (Nat.le_of_ble_eq_true rfl) rfl trivial ?_
      refine .as rfl (.nt hK21 (.ret ?_))
      refine AK.retG [.cell 2 32, .tmp 3] rfl (.cons (.cell ag32 rfl bsp rfl rfl) (.cons (.tmp rfl) (.nil))) (fun w hw => ⟨_, _, ?_, rfl, Ret.of (hw.pick [2, 3, 4, 7] (by decide) rfl rfl)⟩)
      have e1 : TrimV d = trimD d := if_pos hv
      have e2 : NumV d = numT d := if_pos hv
      rw [e1, e2]
      refine ⟨vF2, vN2, mv, rs2, rfl, ?_, sF2, sN2, smv, ?_⟩
      ·rw [hrs, hTl]; simp [trimD]
      ·have e3 : (numT d).length = d.fin.length := numK_len _ _ _
       rw [e3]; unfold numT; rw [show (TSt d).length = k by omega]; rfl

end Go.Proofs.YtckicbgffhbacaaDoor
