import Derived.Test.YtckicbgffhbacaaDoorD2
import Derived.Test.YtckicbgffhbacaaDoorDP
set_option linter.unusedVariables false
set_option linter.unusedSimpArgs false
namespace Go.Proofs.YtckicbgffhbacaaDoor
open Go.Sx Go.RowKit
set_option maxRecDepth 100000 in
theorem s_extend (w : World) (F : Nat → Prop) (b m : Nat) (d : Dfa) (vF vN vAl vPre vWo : Value) (wn : Int) (rs : List Value) (hv : VD d) (hm : m ≤ 4096) (hrs : rs.length = m) (hF0 : RdL F Value.bool w vF d.fin) (hN0 : RdLL F (Value.int .i64) w vN d.nx) (hA : (bigA [box b 76 8 [.int .i64 d.L, .int .i64 d.s, vF, vN, .int .i64 wn, vAl, vPre, vWo], row vAl 29 1 (m + 1) (vF :: rs), bigA (matG Value.bool 4 rs (alT d m))]).holds w F) : CallM Tryd.prog 39 [.pointer (some ⟨b, 0, none⟩)] w F (fun r A o => ∃ vAl' rv, IsSl vAl' ∧ r = .tuple #[] ∧ A = bigA [box b 76 8 [.int .i64 d.L, .int .i64 d.s, vF, vN, .int .i64 wn, vAl', vPre, vWo], row vAl' 29 1 (m + 2) (vF :: (rs ++ [rv])), bigA (matG Value.bool 4 (rs ++ [rv]) (alT d (m + 1)))] ∧ o = []) := by
 have hF := hF0
 unfold RdL at hF
 obtain ⟨rn, hrl, hNr, hNi⟩ := hN0
 have hmn := hNr.le
 have hmf := hF.le
 have hnx := hv.nx
 have hn5 := hv.n
 have hvt := hv.to
 have hvr := hv.row
 have hvL := hv.L
 have hal : ((d.fin :: alT d m).getD m []) = aliveR d m := alR_at d (Nat.le_refl m)
 have hall := aliveR_len hnx m
 have hall2 : ((d.fin :: alT d m).getD m []).length = d.fin.length := by rw [hal]; exact hall
 refine specM_of' Tryd.func39 rfl (Nat.le_of_ble_eq_true rfl) hA ?_
 refine .seq fun _ hK1 => ?_
 refine AK.quiet mixed krf ?_
 refine .mv rfl ?_
 refine .v (.nilCheck rfl) ?_
 refine .v (.fieldAddr fd76_2 rfl) ?_
 refine .v (.loadBox on73 rfl bsp rfl) ?_
 refine .mv rfl ?_
 refine .v (.nilCheck rfl) ?_
 refine .v (.fieldAddr fd76_2 rfl) ?_
 refine .v (.loadBox on73 rfl bsp rfl) ?_
 refine .v (.lenR sl73 rfl (by first | exact rdp | exact .own 3 rfl | exact rd_al2 2 hF rfl (by rw [alT_len]; exact hrs) (by rw [alT_len]; omega) hal hall | exact .arg (hNi _ (by omega)))) ?_
 refine .v (.subE ((m : Int)) rfl rfl (by omega) (by omega)) ?_
 first | refine .v (.iN sl73 rfl rfl (hr := (by first | exact rdp | exact .own 3 rfl | exact rd_al2 2 hF rfl (by rw [alT_len]; exact hrs) (by rw [alT_len]; omega) hal hall | exact .arg (hNi _ (by omega))))) ?_ | refine .v (.iK sl73 rfl rfl (hr := (by first | exact rdp | exact .own 3 rfl | exact rd_al2 2 hF rfl (by rw [alT_len]; exact hrs) (by rw [alT_len]; omega) hal hall | exact .arg (hNi _ (by omega))))) ?_
 refine .v (.loadV on29 rfl (by first | exact rdp | exact .own 3 rfl | exact rd_al2 2 hF rfl (by rw [alT_len]; exact hrs) (by rw [alT_len]; omega) hal hall | exact .arg (hNi _ (by omega))) (by simp; omega)) ?_
 refine .as rfl ?_
 refine QK.nil (QK.fin ?_)
 refine AK.then_ (hK1 _ ?_)
 refine .sr fun _ hK2 => ?_
 refine .mv rfl ?_
 refine .v (.lenR sl29 rfl (by first | exact rdp | exact .own 3 rfl | exact rd_al2 2 hF rfl (by rw [alT_len]; exact hrs) (by rw [alT_len]; omega) hal hall | exact .arg (hNi _ (by omega)))) ?_
 refine AK.make1 (n := d.fin.length) sl29 el4 rfl rfl rfl (by omega) (by omega) trivial rfl (fun rv => ?_)
 refine .as rfl (.nt hK2 ?_)
 refine .seq fun _ hK3 => ?_
 refine .sr fun _ hK4 => ?_
 refine .mv rfl ?_
 refine .v (.nilCheck rfl) ?_
 refine .v (.fieldAddr fd76_0 rfl) ?_
 refine .v (.fieldAddr fd32_3 rfl) ?_
 refine .v (.loadBox on30 rfl bsp rfl) ?_
 refine .v (.lenR sl30 rfl (by first | exact rdp | exact .own 3 rfl | exact rd_al2 2 hF rfl (by rw [alT_len]; exact hrs) (by rw [alT_len]; omega) hal hall | exact .arg (hNi _ (by omega)))) ?_
 refine .mv rfl (.nt hK4 (.block ?_))
 refine AK.loopK (X := Nat) [(0, _), (2, _), (3, _), (27, _), (28, _)] (fun k => [(29, .int .i64 (k : Int))]) (fun k => [box b 76 8 [.int .i64 d.L, .int .i64 d.s, vF, vN, .int .i64 wn, vAl, vPre, vWo], row vAl 29 1 (m + 1) (vF :: rs), bigA (matG Value.bool 4 rs (alT d m)), row rv 4 1 d.fin.length (((preB d (aliveR d m)).take k ++ List.replicate (d.fin.length - k) false).map Value.bool)]) (fun k => k ≤ d.nx.length) (fun k => d.nx.length - k) (0) slr ?_ ?_ ?_ ?_
 ·exact Nat.zero_le _
 ·exact slr
 ·exact fun w hw => by simpa using hw
 ·intro k hg0 _ hK5
  refine .sr fun _ hK6 => ?_
  refine .v (.lss rfl rfl) ?_
  refine .nt hK6 ?_
  refine .seq fun _ hK7 => ?_
  refine AK.condD rfl (fun hc0 => ?_) (fun hc0 => ?_)
  ·refine .skip ?_
   refine AK.then_ (hK7 _ ?_)
   refine .seq fun _ hK8 => ?_
   refine .block ?_
   refine .sr fun _ hK9 => ?_
   refine .mv rfl ?_
   first | refine .v (.iN sl30 rfl rfl (hr := (by first | exact rdp | exact .own 3 rfl | exact rd_al2 2 hF rfl (by rw [alT_len]; exact hrs) (by rw [alT_len]; omega) hal hall | exact .arg (hNi _ (by omega))))) ?_ | refine .v (.iK sl30 rfl rfl (hr := (by first | exact rdp | exact .own 3 rfl | exact rd_al2 2 hF rfl (by rw [alT_len]; exact hrs) (by rw [alT_len]; omega) hal hall | exact .arg (hNi _ (by omega))))) ?_
   refine .v (.loadV on41 rfl (by first | exact rdp | exact .own 3 rfl | exact rd_al2 2 hF rfl (by rw [alT_len]; exact hrs) (by rw [alT_len]; omega) hal hall | exact .arg (hNi _ (by omega))) (by omega)) ?_
   refine .as rfl (.as rfl (.nt hK9 ?_))
   refine .sr fun _ hK10 => ?_
   refine .mv rfl ?_
   refine .v (.lenR sl41 rfl (by first | exact rdp | exact .own 3 rfl | exact rd_al2 2 hF rfl (by rw [alT_len]; exact hrs) (by rw [alT_len]; omega) hal hall | exact .arg (hNi _ (by omega)))) ?_
   refine .mv rfl (.nt hK10 (.block ?_))
   refine AK.loopK (X := Nat) [(0, _), (2, _), (3, _), (4, _), (27, _), (28, _), (29, _), (34, _), (35, _)] (fun j => [(36, .int .i64 (j : Int))]) (fun j => [box b 76 8 [.int .i64 d.L, .int .i64 d.s, vF, vN, .int .i64 wn, vAl, vPre, vWo], row vAl 29 1 (m + 1) (vF :: rs), bigA (matG Value.bool 4 rs (alT d m)), row rv 4 1 d.fin.length ((orRow ((preB d (aliveR d m)).take k) d.fin.length k (((d.nx.getD k []).take j).any (fun q => (aliveR d m).getD q.toNat false))).map Value.bool)]) (fun j => j ≤ (d.nx.getD k []).length) (fun j => (d.nx.getD k []).length - j) (0) slr ?_ ?_ ?_ ?_
   ·exact Nat.zero_le _
   ·exact slr
   ·exact fun w hw => by rw [orRow_zero (by omega)] at hw; exact hw
   ·intro j hg1 _ hK11
    have hA := preB_tlen (d := d) (row := aliveR d m) (k := k) (by omega)
    have hlen : (orRow ((preB d (aliveR d m)).take k) d.fin.length k (((d.nx.getD k []).take j).any (fun q => (aliveR d m).getD q.toNat false))).length = d.fin.length := orRow_len hA (by omega)
    have hget : (orRow ((preB d (aliveR d m)).take k) d.fin.length k (((d.nx.getD k []).take j).any (fun q => (aliveR d m).getD q.toNat false))).getD k false = ((d.nx.getD k []).take j).any (fun q => (aliveR d m).getD q.toNat false) := orRow_get hA
    have hsn := fun h => any_snoc (fun q => (aliveR d m).getD q.toNat false) 0 (xs := d.nx.getD k []) (k := j) h
    have hrl2 := hvr k (by omega)
    refine .sr fun _ hK12 => ?_
    refine .v (.lss rfl rfl) ?_
    refine .nt hK12 ?_
    refine .seq fun _ hK13 => ?_
    refine AK.condD rfl (fun hc1 => ?_) (fun hc1 => ?_)
    ·have ht := hvt k j (by omega) (by omega)
     refine .skip ?_
     refine AK.then_ (hK13 _ ?_)
     refine .seq fun _ hK14 => ?_
     refine .block ?_
     refine .sr fun _ hK15 => ?_
     first | refine .v (.iN sl41 rfl rfl (hr := (by first | exact rdp | exact .own 3 rfl | exact rd_al2 2 hF rfl (by rw [alT_len]; exact hrs) (by rw [alT_len]; omega) hal hall | exact .arg (hNi _ (by omega))))) ?_ | refine .v (.iK sl41 rfl rfl (hr := (by first | exact rdp | exact .own 3 rfl | exact rd_al2 2 hF rfl (by rw [alT_len]; exact hrs) (by rw [alT_len]; omega) hal hall | exact .arg (hNi _ (by omega))))) ?_
     refine .v (.loadI on3 rfl (by first | exact rdp | exact .own 3 rfl | exact rd_al2 2 hF rfl (by rw [alT_len]; exact hrs) (by rw [alT_len]; omega) hal hall | exact .arg (hNi _ (by omega))) (by omega)) ?_
     refine .as rfl (.nt hK15 ?_)
     refine AK.region ?_
     refine .mv rfl (.mv rfl (.mv rfl (.mv rfl ?_)))
     first | refine .v (.iN sl29 rfl rfl (hr := (by first | exact rdp | exact .own 3 rfl | exact rd_al2 2 hF rfl (by rw [alT_len]; exact hrs) (by rw [alT_len]; omega) hal hall | exact .arg (hNi _ (by omega))))) ?_ | refine .v (.iK sl29 rfl rfl (hr := (by first | exact rdp | exact .own 3 rfl | exact rd_al2 2 hF rfl (by rw [alT_len]; exact hrs) (by rw [alT_len]; omega) hal hall | exact .arg (hNi _ (by omega))))) ?_
     refine .v (.loadB on4 rfl (by first | exact rdp | exact .own 3 rfl | exact rd_al2 2 hF rfl (by rw [alT_len]; exact hrs) (by rw [alT_len]; omega) hal hall | exact .arg (hNi _ (by omega))) (by omega)) ?_
     refine .mv rfl ?_
     refine AK.splitB (g := 46) rfl (fun hg_8_6 => ?_) (fun hg_8_6 => ?_)
     ·have hg_8_6' := hg_8_6
      try simp only [bs] at hg_8_6'
      refine AK.pass rfl rfl (hg_8_6) rfl ?_
      refine AK.pass rfl rfl (hg_8_6) rfl ?_
      refine AK.pass rfl rfl (hg_8_6) rfl ?_
      refine AK.pass rfl rfl (hg_8_6) rfl ?_
      refine .v (.pickT rfl (hg_8_6) rfl) ?_
      first | refine .v (.iN sl29 rfl rfl (hr := (by first | exact rdp | exact .own 3 rfl | exact rd_al2 2 hF rfl (by rw [alT_len]; exact hrs) (by rw [alT_len]; omega) hal hall | exact .arg (hNi _ (by omega))))) ?_ | refine .v (.iK sl29 rfl rfl (hr := (by first | exact rdp | exact .own 3 rfl | exact rd_al2 2 hF rfl (by rw [alT_len]; exact hrs) (by rw [alT_len]; omega) hal hall | exact .arg (hNi _ (by omega))))) ?_
      refine AK.store1e 3 rfl sz4 rfl rfl rfl rfl (by omega) (cs' := ((orRow ((preB d (aliveR d m)).take k) d.fin.length k (((d.nx.getD k []).take (j + 1)).any (fun q => (aliveR d m).getD q.toNat false))).map Value.bool)) (by rw [orRow_set _ hA, hsn (by omega), ← hget]; rw [hg_8_6]; rfl) trivial ?_
      refine .nil (.block_normal ?_)
      refine AK.then_ (hK14 _ ?_)
      refine AK.region ?_
      refine .v (.add rfl rfl (by omega)) ?_
      refine .mv rfl (.nil ?_)
      refine AK.then_ (hK11 _ _ (j + 1) (by omega) (by omega) (slr) (fun w hw => hw))
     ·have hg_8_6' := hg_8_6
      try simp only [bs] at hg_8_6'
      refine AK.val _ (Yl.move rfl) ⟨_, rfl, congrArg (fun b => some (Value.bool b)) hg_8_6⟩ rfl ?_
      refine AK.val _ (Yl.move rfl) ⟨_, rfl, congrArg (fun b => some (Value.bool b)) hg_8_6⟩ rfl ?_
      first | refine AK.val _ (.iN sl29 rfl rfl (hr := (by first | exact rdp | exact .own 3 rfl | exact rd_al2 2 hF rfl (by rw [alT_len]; exact hrs) (by rw [alT_len]; omega) hal hall | exact .arg (hNi _ (by omega))))) ⟨_, rfl, congrArg (fun b => some (Value.bool b)) hg_8_6⟩ rfl ?_ | refine AK.val _ (.iK sl29 rfl rfl (hr := (by first | exact rdp | exact .own 3 rfl | exact rd_al2 2 hF rfl (by rw [alT_len]; exact hrs) (by rw [alT_len]; omega) hal hall | exact .arg (hNi _ (by omega))))) ⟨_, rfl, congrArg (fun b => some (Value.bool b)) hg_8_6⟩ rfl ?_
      refine AK.val _ (Yl.loadB on4 rfl (by first | exact rdp | exact .own 3 rfl | exact rd_al2 2 hF rfl (by rw [alT_len]; exact hrs) (by rw [alT_len]; omega) hal hall | exact .arg (hNi _ (by omega))) (by rw [hall]; omega)) ⟨_, rfl, congrArg (fun b => some (Value.bool b)) hg_8_6⟩ rfl ?_
      refine .v (.pickF rfl (hg_8_6) rfl) ?_
      first | refine .v (.iN sl29 rfl rfl (hr := (by first | exact rdp | exact .own 3 rfl | exact rd_al2 2 hF rfl (by rw [alT_len]; exact hrs) (by rw [alT_len]; omega) hal hall | exact .arg (hNi _ (by omega))))) ?_ | refine .v (.iK sl29 rfl rfl (hr := (by first | exact rdp | exact .own 3 rfl | exact rd_al2 2 hF rfl (by rw [alT_len]; exact hrs) (by rw [alT_len]; omega) hal hall | exact .arg (hNi _ (by omega))))) ?_
      refine AK.store1e 3 rfl sz4 rfl rfl rfl rfl (by omega) (cs' := ((orRow ((preB d (aliveR d m)).take k) d.fin.length k (((d.nx.getD k []).take (j + 1)).any (fun q => (aliveR d m).getD q.toNat false))).map Value.bool)) (by rw [orRow_set _ hA, hsn (by omega), ← hget]; rw [hg_8_6]; rfl) trivial ?_
      refine .nil (.block_normal ?_)
      refine AK.then_ (hK14 _ ?_)
      refine AK.region ?_
      refine .v (.add rfl rfl (by omega)) ?_
      refine .mv rfl (.nil ?_)
      refine AK.then_ (hK11 _ _ (j + 1) (by omega) (by omega) (slr) (fun w hw => hw))
    ·refine .exit (.then_exit (.then_exit (.block_exit (.block_normal ?_))))
     refine AK.then_ (hK8 _ ?_)
     refine AK.region ?_
     refine .v (.add rfl rfl (by omega)) ?_
     refine .mv rfl (.nil ?_)
     refine AK.then_ (hK5 _ _ (k + 1) (by omega) (by omega) (slr) (fun w hw => by have e : (orRow ((preB d (aliveR d m)).take k) d.fin.length k (((d.nx.getD k []).take j).any (fun q => (aliveR d m).getD q.toNat false))) = ((preB d (aliveR d m)).take (k + 1) ++ List.replicate (d.fin.length - (k + 1)) false) := (by rw [preB_take (by omega), orRow_end, show j = (d.nx.getD k []).length by omega, List.take_length]); rw [e] at hw; exact hw))
  ·refine AK.shape 3 rfl (fun hsr => ?_)
   refine .exit (.then_exit (.then_exit (.block_exit ?_)))
   refine AK.then_ (hK3 _ ?_)
   refine AK.region ?_
   refine .mv rfl (.mv rfl ?_)
   refine .v (.nilCheck rfl) ?_
   refine .v (.fieldAddr fd76_2 rfl) ?_
   refine .v (.loadBox on73 rfl bsp rfl) ?_
   refine .mv rfl ?_
   refine AK.append1 1 rfl sl73 el29 rfl (by decide) rfl (by intro k hk; cases hk; rfl) (by rw [hsr.cells]; rfl) (by rw [hsr.cells]; exact one'_cons hsr.one one'_nil) (by omega) (by omega) (by decide) rfl rfl (fun va _ hsa => ?_)
   refine .v (.nilCheck rfl) ?_
   refine .v (.fieldAddr fd76_2 rfl) ?_
   refine AK.storeBox 0 (us := [va]) (cs' := [.int .i64 d.L, .int .i64 d.s, vF, vN, .int .i64 wn, va, vPre, vWo]) rfl sz73 rfl rfl (by rw [IsSl.cells (by assumption)]) rfl oneP (Nat.le_of_ble_eq_true rfl) rfl trivial ?_
   refine .nil ?_
   refine AK.own' [box b 76 8 [.int .i64 d.L, .int .i64 d.s, vF, vN, .int .i64 wn, va, vPre, vWo], row va 29 1 (m + 2) (vF :: (rs ++ [rv])), bigA (matG Value.bool 4 (rs ++ [rv]) (alT d (m + 1)))] (fun w hw => by
  have e1 : ((preB d (aliveR d m)).take k ++ List.replicate (d.fin.length - k) false) = aliveR d (m + 1) := (by rw [show k = d.nx.length by omega, hnx, Nat.sub_self, List.replicate_zero, List.append_nil]; exact List.take_of_length_le (by simp [preB, hnx]))
  have e2 : matG Value.bool 4 (rs ++ [rv]) (alT d (m + 1)) = matG Value.bool 4 rs (alT d m) ++ [row rv 4 1 (aliveR d (m + 1)).length ((aliveR d (m + 1)).map Value.bool)] := (by rw [alT_succ, matG_snoc (by rw [alT_len]; exact hrs)])
  have e3 : rv.cells.toList = [rv] := (by rw [hsr.cells])
  rw [e1, e3] at hw
  rw [e2, aliveR_len hnx (m + 1)]
  exact HW.absorb (own := [_, _, _]) 2 rfl hw) ?_
   refine AK.endG [] rfl (.nil) (fun w hw => ⟨_, _, _, ?_, rfl, Ret.ofBig0 (hw.pick [0, 1, 2] (by decide) rfl rfl)⟩)
   exact ⟨va, rv, hsa, rfl, rfl, rfl⟩

def ListC (rest : Nat) : Prop := ∀ (w : World) (F : Nat → Prop) (b : Nat) (q : Int) (d : Dfa) (vF vN vAl vPre vWo : Value) (n m : Nat) (pre : List UInt8) (out : List (List UInt8)) (hv : VD d) (hq : 0 ≤ q ∧ q < d.fin.length) (hr : rest ≤ m) (hm : m ≤ 2048) (hp : pre.length + rest ≤ 2048) (hn : n ≤ 200) (ho : out.length ≤ n) (spp : IsSl vPre) (sww : IsSl vWo) (hN0 : RdLL F (Value.int .i64) w vN d.nx) (hAl0 : RdLL F Value.bool w vAl (alR d m)) (hA : (bigA [box b 76 8 [.int .i64 d.L, .int .i64 d.s, vF, vN, .int .i64 (n : Int), vAl, vPre, vWo], row vPre 5 1 pre.length (pre.map byv), row vWo 9 1 out.length (out.map sv)]).holds w F), CallM Tryd.prog 38 [.pointer (some ⟨b, 0, none⟩), .int .i64 q, .int .i64 (rest : Int)] w F (fun r A o => ∃ vp vw, IsSl vp ∧ IsSl vw ∧ r = .tuple #[] ∧ A = bigA [box b 76 8 [.int .i64 d.L, .int .i64 d.s, vF, vN, .int .i64 (n : Int), vAl, vp, vw], row vp 5 1 pre.length (pre.map byv), row vw 9 1 (wl d n rest q pre out).length ((wl d n rest q pre out).map sv)] ∧ o = [])
set_option maxHeartbeats 400000 in
set_option maxRecDepth 100000 in
theorem s_list_step (rest : Nat) (ih : ∀ r, r < rest → ListC r) (w : World) (F : Nat → Prop) (b : Nat) (q : Int) (d : Dfa) (vF vN vAl vPre vWo : Value) (n m : Nat) (pre : List UInt8) (out : List (List UInt8)) (hv : VD d) (hq : 0 ≤ q ∧ q < d.fin.length) (hr : rest ≤ m) (hm : m ≤ 2048) (hp : pre.length + rest ≤ 2048) (hn : n ≤ 200) (ho : out.length ≤ n) (spp : IsSl vPre) (sww : IsSl vWo) (hN0 : RdLL F (Value.int .i64) w vN d.nx) (hAl0 : RdLL F Value.bool w vAl (alR d m)) (hA : (bigA [box b 76 8 [.int .i64 d.L, .int .i64 d.s, vF, vN, .int .i64 (n : Int), vAl, vPre, vWo], row vPre 5 1 pre.length (pre.map byv), row vWo 9 1 out.length (out.map sv)]).holds w F) : CallM Tryd.prog 38 [.pointer (some ⟨b, 0, none⟩), .int .i64 q, .int .i64 (rest : Int)] w F (fun r A o => ∃ vp vw, IsSl vp ∧ IsSl vw ∧ r = .tuple #[] ∧ A = bigA [box b 76 8 [.int .i64 d.L, .int .i64 d.s, vF, vN, .int .i64 (n : Int), vAl, vp, vw], row vp 5 1 pre.length (pre.map byv), row vw 9 1 (wl d n rest q pre out).length ((wl d n rest q pre out).map sv)] ∧ o = []) := by
 have hNc := hN0
 obtain ⟨rn, hrl, hNr, hNi⟩ := hNc
 have hAc := hAl0
 obtain ⟨ra, hral, hAr, hAi⟩ := hAc
 have hmn := hNr.le
 have hnx := hv.nx
 have hn5 := hv.n
 have hvt := hv.to
 have hvr := hv.row q.toNat (by omega)
 have hvL := hv.L
 have hall := alR_len d m
 have har : (alR d m).getD rest [] = aliveR d rest := alR_at d hr
 have hlr : ((alR d m).getD rest []).length = d.fin.length := by rw [har]; exact aliveR_len hnx rest
 refine specM_of' Tryd.func38 rfl (Nat.le_of_ble_eq_true rfl) hA ?_
 refine .seq fun _ hK1 => ?_
 refine .seq fun _ hK2 => ?_
 refine AK.quiet mixed krf ?_
 refine .mv rfl ?_
 refine .v (.nilCheck rfl) ?_
 refine .v (.fieldAddr fd76_2 rfl) ?_
 refine .v (.loadBox on73 rfl bsp rfl) ?_
 refine .mv rfl ?_
 first | refine .v (.iN sl73 rfl rfl (hr := (by first | exact rdp | exact .arg hAr | exact .arg (hAi rest (by omega)) | exact .arg hNr | exact .arg (hNi q.toNat (by omega))))) ?_ | refine .v (.iK sl73 rfl rfl (hr := (by first | exact rdp | exact .arg hAr | exact .arg (hAi rest (by omega)) | exact .arg hNr | exact .arg (hNi q.toNat (by omega))))) ?_
 refine .v (.loadV on29 rfl (by first | exact rdp | exact .arg hAr | exact .arg (hAi rest (by omega)) | exact .arg hNr | exact .arg (hNi q.toNat (by omega))) (by omega)) ?_
 refine .mv rfl ?_
 first | refine .v (.iN sl29 rfl rfl (hr := (by first | exact rdp | exact .arg hAr | exact .arg (hAi rest (by omega)) | exact .arg hNr | exact .arg (hNi q.toNat (by omega))))) ?_ | refine .v (.iK sl29 rfl rfl (hr := (by first | exact rdp | exact .arg hAr | exact .arg (hAi rest (by omega)) | exact .arg hNr | exact .arg (hNi q.toNat (by omega))))) ?_
 refine .v (.loadB on4 rfl (by first | exact rdp | exact .arg hAr | exact .arg (hAi rest (by omega)) | exact .arg hNr | exact .arg (hNi q.toNat (by omega))) (by omega)) ?_
 refine .v (.not rfl) ?_
 refine .mv rfl ?_
 refine QK.splitB (g := 19) rfl (fun hg_0_11 => ?_) (fun hg_0_11 => ?_)
 ·have hg_0_11' := hg_0_11
  try simp only [bs] at hg_0_11'
  refine QK.pass rfl rfl (hg_0_11) rfl ?_
  refine QK.pass rfl rfl (hg_0_11) rfl ?_
  refine QK.pass rfl rfl (hg_0_11) rfl ?_
  refine QK.pass rfl rfl (hg_0_11) rfl ?_
  refine QK.pass rfl rfl (hg_0_11) rfl ?_
  refine QK.pass rfl rfl (hg_0_11) rfl ?_
  refine QK.pass rfl rfl (hg_0_11) rfl ?_
  refine QK.pass rfl rfl (hg_0_11) rfl ?_
  refine QK.pass rfl rfl (hg_0_11) rfl ?_
  refine QK.pass rfl rfl (hg_0_11) rfl ?_
  refine .v (.pickT rfl (hg_0_11) rfl) ?_
  refine QK.nil (QK.fin ?_)
  refine AK.then_ (hK2 _ ?_)
  refine AK.cond_t rfl (rfl) ?_
  refine .ret (.then_ret ?_)
  refine AK.retG [] rfl (.nil) (fun w hw => ⟨_, _, _, ?_, rfl, Ret.ofBig0 hw⟩)
  refine ⟨vPre, vWo, spp, sww, rfl, ?_, rfl⟩
  rw [wl_stop]
  rw [← har]
  first | exact .inl hg_0_11' | exact .inr (by omega)
 ·have hg_0_11' := hg_0_11
  try simp only [bs] at hg_0_11'
  refine QK.val _ (Yl.move rfl) ⟨_, rfl, congrArg (fun b => some (Value.bool b)) hg_0_11⟩ rfl ?_
  refine QK.val _ (Yl.nilCheck rfl) ⟨_, rfl, congrArg (fun b => some (Value.bool b)) hg_0_11⟩ rfl ?_
  refine QK.val _ (Yl.fieldAddr fd76_4 rfl) ⟨_, rfl, congrArg (fun b => some (Value.bool b)) hg_0_11⟩ rfl ?_
  refine QK.val _ (Yl.loadBox on54 rfl bsp rfl) ⟨_, rfl, congrArg (fun b => some (Value.bool b)) hg_0_11⟩ rfl ?_
  refine QK.val _ (Yl.lenR sl54 rfl (by first | exact rdp | exact .arg hAr | exact .arg (hAi rest (by omega)) | exact .arg hNr | exact .arg (hNi q.toNat (by omega)))) ⟨_, rfl, congrArg (fun b => some (Value.bool b)) hg_0_11⟩ rfl ?_
  refine QK.val _ (Yl.move rfl) ⟨_, rfl, congrArg (fun b => some (Value.bool b)) hg_0_11⟩ rfl ?_
  refine QK.val _ (Yl.nilCheck rfl) ⟨_, rfl, congrArg (fun b => some (Value.bool b)) hg_0_11⟩ rfl ?_
  refine QK.val _ (Yl.fieldAddr fd76_1 rfl) ⟨_, rfl, congrArg (fun b => some (Value.bool b)) hg_0_11⟩ rfl ?_
  refine QK.val _ (Yl.loadBox on3 rfl bsp rfl) ⟨_, rfl, congrArg (fun b => some (Value.bool b)) hg_0_11⟩ rfl ?_
  refine QK.val _ (Yl.eql rfl rfl) ⟨_, rfl, congrArg (fun b => some (Value.bool b)) hg_0_11⟩ rfl ?_
  refine .v (.pickF rfl (hg_0_11) rfl) ?_
  refine QK.nil (QK.fin ?_)
  refine AK.then_ (hK2 _ ?_)
  refine AK.condD rfl (fun hc0 => ?_) (fun hc0 => ?_)
  ·refine .ret (.then_ret ?_)
   refine AK.retG [] rfl (.nil) (fun w hw => ⟨_, _, _, ?_, rfl, Ret.ofBig0 hw⟩)
   refine ⟨vPre, vWo, spp, sww, rfl, ?_, rfl⟩
   rw [wl_stop]
   rw [← har]
   first | exact .inl hg_0_11' | exact .inr (by omega)
  ·have hnl : ¬ ((aliveR d rest).getD q.toNat false = false ∨ out.length = n) := by
    rw [← har]
    rintro (h | h)
    ·exact absurd (h.symm.trans hg_0_11') (by decide)
    ·omega
   refine .skip ?_
   refine AK.then_ (hK1 _ ?_)
   refine .seq fun _ hK3 => ?_
   refine .sr fun _ hK4 => ?_
   refine .mv rfl ?_
   refine .v (.eql rfl rfl) ?_
   refine .nt hK4 ?_
   refine AK.condD rfl (fun hc1 => ?_) (fun hc1 => ?_)
   ·refine .seq fun _ hK5 => ?_
    try (conv => enter [2, 2]; dsimp only [List.set_cons_zero, List.set_cons_succ, List.cons_append, List.nil_append])
    refine AK.held 14 mixed ?_
    refine HeldK.first 0 (fuel := 14) (listed' := (lb 15 1)) _ rfl krf krf rfl (Yl.move rfl) trivial rfl ?_
    refine HeldK.first 1 (fuel := 13) (listed' := (lb 15 3)) _ rfl krf krf rfl (Yl.move rfl) trivial rfl ?_
    refine HeldK.first 2 (fuel := 12) (listed' := (lb 15 7)) _ rfl krf krf rfl (Yl.nilCheck rfl) trivial rfl ?_
    refine HeldK.first 3 (fuel := 11) (listed' := (lb 15 15)) _ rfl krf krf rfl (Yl.fieldAddr fd76_4 rfl) trivial rfl ?_
    refine HeldK.first 4 (fuel := 10) (listed' := (lb 15 31)) _ rfl krf krf rfl (Yl.loadBox on54 rfl bsp rfl) trivial rfl ?_
    refine HeldK.first 5 (fuel := 9) (listed' := (lb 15 63)) _ rfl krf krf rfl (Yl.move rfl) trivial rfl ?_
    refine HeldK.first 6 (fuel := 8) (listed' := (lb 15 127)) _ rfl krf krf rfl (Yl.nilCheck rfl) trivial rfl ?_
    refine HeldK.first 7 (fuel := 7) (listed' := (lb 15 255)) _ rfl krf krf rfl (Yl.fieldAddr fd76_3 rfl) trivial rfl ?_
    refine HeldK.first 8 (fuel := 6) (listed' := (lb 15 511)) _ rfl krf krf rfl (Yl.loadBox on74 rfl bsp rfl) trivial rfl ?_
    refine HeldK.first 9 (fuel := 5) (listed' := (lb 15 1023)) _ rfl krf krf rfl (Yl.bytesS sl74.1 un5 un9 rfl (by first | exact rdp | exact .arg hAr | exact .arg (hAi rest (by omega)) | exact .arg hNr | exact .arg (hNi q.toNat (by omega)))) trivial rfl ?_
    refine HeldK.one 10 (fuel := 4) (listed' := (lb 15 2047)) krf rfl krf ?_
    refine AK.lit (xs := [.tmp 42]) sl54 el9 rfl rfl rfl (by simp [Value.cells, sv]) (by decide) (by decide) trivial rfl (fun lv => ?_)
    refine .nil ?_
    try (conv => enter [2, 2]; dsimp only [List.set_cons_zero, List.set_cons_succ, List.cons_append, List.nil_append])
    refine HeldK.back Go.Sx.hle ?_
    refine HeldK.one 11 (fuel := 3) (listed' := (lb 15 4095)) krf rfl krf ?_
    refine AK.appendH 2 rfl sl54 el9 rfl (by decide) rfl rfl rfl (by first | exact rdp | exact .arg hAr | exact .arg (hAi rest (by omega)) | exact .arg hNr | exact .arg (hNi q.toNat (by omega))) (by intro u hu; simp [Value.cells, sv] at hu; subst hu; rfl) (by omega) (by omega) trivial rfl (fun vw1 hw1 => ?_)
    refine .nil ?_
    try (conv => enter [2, 2]; dsimp only [List.set_cons_zero, List.set_cons_succ, List.cons_append, List.nil_append])
    refine HeldK.back Go.Sx.hle ?_
    refine HeldK.first 12 (fuel := 2) (listed' := (lb 15 8191)) _ rfl krf krf rfl (Yl.nilCheck rfl) trivial rfl ?_
    refine HeldK.first 13 (fuel := 1) (listed' := (lb 15 16383)) _ rfl krf krf rfl (Yl.fieldAddr fd76_4 rfl) trivial rfl ?_
    refine HeldK.one 14 (fuel := 0) (listed' := (lb 15 32767)) krf rfl krf ?_
    refine AK.storeBox 0 (us := [vw1]) (cs' := [.int .i64 d.L, .int .i64 d.s, vF, vN, .int .i64 (n : Int), vAl, vPre, vw1]) rfl sz54 rfl rfl (by rw [IsSl.cells (by assumption)]) rfl oneP (Nat.le_of_ble_eq_true rfl) rfl trivial ?_
    refine .nil ?_
    try (conv => enter [2, 2]; dsimp only [List.set_cons_zero, List.set_cons_succ, List.cons_append, List.nil_append])
    refine HeldK.backN 15 krf rfl krf ?_
    refine .nil ?_
    refine AK.fromQn ?_
    refine AK.then_ (hK5 _ ?_)
    refine .ret (.then_ret ?_)
    refine AK.grown [box b 76 8 [.int .i64 d.L, .int .i64 d.s, vF, vN, .int .i64 (n : Int), vAl, vPre, vw1], row vPre 5 1 pre.length (pre.map byv), row vw1 9 1 (out.length + 1) (out.map sv ++ [sv pre].flatMap (·.cells.toList))] [0, 1, 2] (by decide) pkl ?_
    refine AK.retG [] rfl (.nil) (fun w hw => ⟨_, _, _, ?_, rfl, Ret.ofBig0 hw⟩)
    refine ⟨vPre, vw1, spp, hw1, rfl, ?_, rfl⟩
    have e0 : rest = 0 := (by omega)
    subst e0
    rw [wl_zero hnl]; simp [Value.cells, sv]
   ·refine .skip ?_
    refine AK.then_ (hK3 _ ?_)
    refine .sr fun _ hK6 => ?_
    refine .mv rfl ?_
    refine .v (.nilCheck rfl) ?_
    refine .v (.fieldAddr fd76_0 rfl) ?_
    refine .v (.fieldAddr fd32_3 rfl) ?_
    refine .v (.loadBox on30 rfl bsp rfl) ?_
    refine .mv rfl ?_
    first | refine .v (.iN sl30 rfl rfl (hr := (by first | exact rdp | exact .arg hAr | exact .arg (hAi rest (by omega)) | exact .arg hNr | exact .arg (hNi q.toNat (by omega))))) ?_ | refine .v (.iK sl30 rfl rfl (hr := (by first | exact rdp | exact .arg hAr | exact .arg (hAi rest (by omega)) | exact .arg hNr | exact .arg (hNi q.toNat (by omega))))) ?_
    refine .v (.loadV on41 rfl (by first | exact rdp | exact .arg hAr | exact .arg (hAi rest (by omega)) | exact .arg hNr | exact .arg (hNi q.toNat (by omega))) (by omega)) ?_
    refine .v (.lenR sl41 rfl (by first | exact rdp | exact .arg hAr | exact .arg (hAi rest (by omega)) | exact .arg hNr | exact .arg (hNi q.toNat (by omega)))) ?_
    refine .mv rfl (.nt hK6 (.block ?_))
    refine AK.loopK (X := Nat × Value × Value) [(0, _), (2, _), (54, _), (55, _)] (fun x => [(56, .int .i64 (x.1 : Int))]) (fun x => [box b 76 8 [.int .i64 d.L, .int .i64 d.s, vF, vN, .int .i64 (n : Int), vAl, x.2.1, x.2.2], row x.2.1 5 1 pre.length (pre.map byv), row x.2.2 9 1 (wlk d n (rest - 1) (d.nx.getD q.toNat []) pre out x.1).length ((wlk d n (rest - 1) (d.nx.getD q.toNat []) pre out x.1).map sv)]) (fun x => x.1 ≤ (d.nx.getD q.toNat []).length ∧ IsSl x.2.1 ∧ IsSl x.2.2) (fun x => (d.nx.getD q.toNat []).length - x.1) ((0, vPre, vWo)) slr ?_ ?_ ?_ ?_
    ·exact ⟨Nat.zero_le _, spp, sww⟩
    ·exact slr
    ·exact fun w hw => hw
    ·intro x hg0 _ hK7
     refine .sr fun _ hK8 => ?_
     refine .v (.lss rfl rfl) ?_
     refine .nt hK8 ?_
     refine .seq fun _ hK9 => ?_
     refine AK.condD rfl (fun hc2 => ?_) (fun hc2 => ?_)
     ·have htx := hvt q.toNat x.1 (by omega) (by omega)
      refine .skip ?_
      refine AK.then_ (hK9 _ ?_)
      refine .seq fun _ hK10 => ?_
      refine .block ?_
      refine .sr fun _ hK11 => ?_
      refine .mv rfl ?_
      first | refine .v (.iN sl41 rfl rfl (hr := (by first | exact rdp | exact .arg hAr | exact .arg (hAi rest (by omega)) | exact .arg hNr | exact .arg (hNi q.toNat (by omega))))) ?_ | refine .v (.iK sl41 rfl rfl (hr := (by first | exact rdp | exact .arg hAr | exact .arg (hAi rest (by omega)) | exact .arg hNr | exact .arg (hNi q.toNat (by omega))))) ?_
      refine .v (.loadI on3 rfl (by first | exact rdp | exact .arg hAr | exact .arg (hAi rest (by omega)) | exact .arg hNr | exact .arg (hNi q.toNat (by omega))) (by omega)) ?_
      refine .as rfl (.as rfl (.nt hK11 ?_))
      refine .sr fun _ hK12 => ?_
      refine .mv rfl (.mv rfl ?_)
      refine .v (.nilCheck rfl) ?_
      refine .v (.fieldAddr fd76_3 rfl) ?_
      refine .v (.loadBox on74 rfl bsp rfl) ?_
      refine .mv rfl ?_
      refine .v (.convI (by kernel_rfl) un5 rfl (wrap_u8 (by omega))) ?_
      refine .v (.addU8 rfl rfl (by omega)) ?_
      refine AK.append1 1 rfl sl74 el5 rfl (by decide) rfl (by intro k hk; cases hk; rfl) rfl (by intro u hu; simp [Value.cells] at hu; subst hu; rfl) (by omega) (by omega) (by decide) rfl rfl (fun vp1 _ hs1 => ?_)
      refine .v (.nilCheck rfl) ?_
      refine .v (.fieldAddr fd76_3 rfl) ?_
      refine AK.storeBox 0 (us := [vp1]) (cs' := [.int .i64 d.L, .int .i64 d.s, vF, vN, .int .i64 (n : Int), vAl, vp1, x.2.2]) rfl sz74 rfl rfl (by rw [IsSl.cells (by assumption)]) rfl oneP (Nat.le_of_ble_eq_true rfl) rfl trivial ?_
      refine .nt hK12 ?_
      refine .sr fun _ hK13 => ?_
      refine .mv rfl (.mv rfl (.mv rfl ?_))
      refine .v (.subE (((rest - 1 : Nat) : Int)) rfl rfl (by omega) (by omega)) ?_
      refine AK.own' [bigA [box b 76 8 [.int .i64 d.L, .int .i64 d.s, vF, vN, .int .i64 (n : Int), vAl, vp1, x.2.2], row vp1 5 1 (pre ++ [ltr x.1]).length ((pre ++ [ltr x.1]).map byv), row x.2.2 9 1 (wlk d n (rest - 1) (d.nx.getD q.toNat []) pre out x.1).length ((wlk d n (rest - 1) (d.nx.getD q.toNat []) pre out x.1).map sv)]] (fun w hw => by have e : (pre.map byv ++ (Value.int .u8 (97 + (x.1 : Int))).cells.toList) = (pre ++ [ltr x.1]).map byv := (by rw [byv_ltr (by omega)]; simp [byv, Value.cells]); rw [e] at hw; rw [show (pre ++ [ltr x.1]).length = pre.length + 1 by simp]; exact HW.unflat (own := []) (by rw [List.append_nil]; exact hw)) ?_
      refine AK.callN 0 rfl co38 rfl (fun w Fs hw hh hfr hal => ih (rest - 1) (by omega) w (Fs 0) b _ d vF vN vAl vp1 x.2.2 n m (pre ++ [ltr x.1]) (wlk d n (rest - 1) (d.nx.getD q.toNat []) pre out x.1) hv htx (by omega) hm (by simp; omega) hn (wlk_len ho _) hs1 hg0.2.2 (hN0.off hfr hal) (hAl0.off hfr hal) (hh.at_ 0 _ rfl)) trivial rfl ?_
      rintro r A o ⟨vp, vw, sp2, sw2, rfl, rfl, rfl⟩
      refine AK.flat0 rfl ?_
      have sst := slTo_sl pre.length sp2
      refine .nt hK13 ?_
      try (conv => enter [2, 2]; dsimp only [List.set_cons_zero, List.set_cons_succ, List.cons_append, List.nil_append])
      refine AK.held 14 mixed ?_
      refine HeldK.first 0 (fuel := 14) (listed' := (lb 15 1)) _ rfl krf krf rfl (Yl.move rfl) trivial rfl ?_
      refine HeldK.first 1 (fuel := 13) (listed' := (lb 15 3)) _ rfl krf krf rfl (Yl.move rfl) trivial rfl ?_
      refine HeldK.first 2 (fuel := 12) (listed' := (lb 15 7)) _ rfl krf krf rfl (Yl.nilCheck rfl) trivial rfl ?_
      refine HeldK.first 3 (fuel := 11) (listed' := (lb 15 15)) _ rfl krf krf rfl (Yl.fieldAddr fd76_3 rfl) trivial rfl ?_
      refine HeldK.first 4 (fuel := 10) (listed' := (lb 15 31)) _ rfl krf krf rfl (Yl.loadBox on74 rfl bsp rfl) trivial rfl ?_
      refine HeldK.first 5 (fuel := 9) (listed' := (lb 15 63)) _ rfl krf krf rfl (Yl.move rfl) trivial rfl ?_
      refine HeldK.first 6 (fuel := 8) (listed' := (lb 15 127)) _ rfl krf krf rfl (Yl.nilCheck rfl) trivial rfl ?_
      refine HeldK.first 7 (fuel := 7) (listed' := (lb 15 255)) _ rfl krf krf rfl (Yl.fieldAddr fd76_3 rfl) trivial rfl ?_
      refine HeldK.first 8 (fuel := 6) (listed' := (lb 15 511)) _ rfl krf krf rfl (Yl.loadBox on74 rfl bsp rfl) trivial rfl ?_
      refine HeldK.first 9 (fuel := 5) (listed' := (lb 15 1023)) _ rfl krf krf rfl (Yl.lenR sl74 rfl (by first | exact rdp | exact .arg hAr | exact .arg (hAi rest (by omega)) | exact .arg hNr | exact .arg (hNi q.toNat (by omega)))) trivial rfl ?_
      refine HeldK.first 10 (fuel := 4) (listed' := (lb 15 2047)) _ rfl krf krf rfl (Yl.sub rfl rfl (by simp; omega)) trivial rfl ?_
      refine HeldK.first 11 (fuel := 3) (listed' := (lb 15 4095)) _ rfl krf krf rfl (Yl.sliceToN 1 (pre.length) rfl sl74 rfl rfl (by simp) (by simp)) trivial rfl ?_
      refine HeldK.first 12 (fuel := 2) (listed' := (lb 15 8191)) _ rfl krf krf rfl (Yl.nilCheck rfl) trivial rfl ?_
      refine HeldK.first 13 (fuel := 1) (listed' := (lb 15 16383)) _ rfl krf krf rfl (Yl.fieldAddr fd76_3 rfl) trivial rfl ?_
      refine HeldK.one 14 (fuel := 0) (listed' := (lb 15 32767)) krf rfl krf ?_
      refine AK.storeBox 0 (us := [(slTo vp pre.length)]) (cs' := [.int .i64 d.L, .int .i64 d.s, vF, vN, .int .i64 (n : Int), vAl, (slTo vp pre.length), vw]) rfl sz74 rfl rfl (by rw [IsSl.cells (by assumption)]) rfl oneP (Nat.le_of_ble_eq_true rfl) rfl trivial ?_
      refine .nil ?_
      try (conv => enter [2, 2]; dsimp only [List.set_cons_zero, List.set_cons_succ, List.cons_append, List.nil_append])
      refine HeldK.backN 15 krf rfl krf ?_
      refine .nil ?_
      refine AK.fromQn ?_
      refine .block_normal ?_
      refine AK.then_ (hK10 _ ?_)
      refine AK.region ?_
      refine .v (.add rfl rfl (by omega)) ?_
      refine .mv rfl (.nil ?_)
      refine AK.reslice 1 pre.length rfl (by simp) ?_
      refine AK.then_ (hK7 _ _ ((x.1 + 1, slTo vp pre.length, vw)) ⟨by dsimp only; omega, sst, sw2⟩ (by dsimp only; omega) (slr) (fun w hw => by have e : ((pre ++ [ltr x.1]).map byv).take (pre.length * 1) = pre.map byv := (by simp); rw [e] at hw; dsimp only; rw [wlk_succ]; exact hw))
     ·refine .exit (.then_exit (.then_exit (.block_exit ?_)))
      refine AK.endG [] rfl (.nil) (fun w hw => ⟨_, _, _, ?_, rfl, Ret.ofBig0 hw⟩)
      refine ⟨x.2.1, x.2.2, hg0.2.1, hg0.2.2, rfl, ?_, rfl⟩
      rw [wl_succ (by omega) hnl, show x.1 = (d.nx.getD q.toNat []).length by omega]

theorem s_list : ∀ rest, ListC rest := fun rest => Nat.strongRecOn rest fun r ih => s_list_step r ih
end Go.Proofs.YtckicbgffhbacaaDoor
