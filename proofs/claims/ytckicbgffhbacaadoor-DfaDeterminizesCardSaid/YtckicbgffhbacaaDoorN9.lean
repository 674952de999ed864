import Derived.Test.YtckicbgffhbacaaDoorN7
import Derived.Test.YtckicbgffhbacaaDoorD2
import Derived.Test.YtckicbgffhbacaaDoorNh
set_option linter.unusedVariables false
set_option linter.unusedSimpArgs false
namespace Go.Proofs.YtckicbgffhbacaaDoor
open Go.Sx Go.RowKit
set_option maxHeartbeats 1000000 in
set_option maxRecDepth 100000 in
theorem s_naccepts (w : World) (v : Value) (n : Nfa) (h : RdN (fun _ => False) w v n) (l : List UInt8) (hm : l.length ≤ 9223372036854775807) (hT : TbA w) : CallS Tryd.prog 17 [v, sv l] w (fun r o => r = .bool (AccN n l) ∧ o = []) := by
 have h0 := h
 obtain ⟨vE, rfl, hE⟩ := h
 have sE := Rd.sl hE
 have hme := Rd.le hE
 refine spec_of Tryd.func17 rfl (Nat.le_of_ble_eq_true rfl) ?_
 refine .sr fun _ hK1 => ?_
 refine AK.box_ (E := 25) (cs := [.int .i64 n.L, .int .i64 n.S, uv n.st, uv n.fi, vE]) rfl rfl rfl trivial rfl (fun bx2 => ?_)
 refine .as rfl (.nt hK1 ?_)
 refine .seq fun _ hK2 => ?_
 refine .sr fun _ hK3 => ?_
 refine .v (.loadBoxG ag25 rfl bsp rfl rfl) ?_
 refine AK.call co24 rfl (fun w hw => s_nvalidate w _ n (h0.at hw)) trivial rfl ?_
 rintro r o ⟨rfl, rfl⟩
 refine .v (.neq rfl rfl) ?_
 refine .mv rfl ?_
 refine AK.splitB (g := 11) rfl (fun hg_1_3 => ?_) (fun hg_1_3 => ?_)
 ·have hg_1_3' := hg_1_3
  try simp only [bs] at hg_1_3'
  refine AK.pass rfl rfl (hg_1_3) rfl ?_
  refine AK.pass rfl rfl (hg_1_3) rfl ?_
  refine AK.pass rfl rfl (hg_1_3) rfl ?_
  refine AK.pass rfl rfl (hg_1_3) rfl ?_
  refine AK.pass rfl rfl (hg_1_3) rfl ?_
  refine .v (.pickT rfl (hg_1_3) rfl) ?_
  refine .nt hK3 ?_
  refine AK.cond_t rfl (rfl) ?_
  refine .sr fun _ hK4 => ?_
  refine .as rfl (.nt hK4 (.ret (.then_ret ?_)))
  refine AK.ret1 rfl rfl (fun w hw => ⟨_, _, ?_, rfl, Ret.of (hw.pick [] (by decide) rfl rfl)⟩)
  refine ⟨congrArg Value.bool ?_, rfl⟩
  unfold AccN; rw [if_neg]
  rintro ⟨h1, h2⟩
  first | omega | (simp_all; done) | (simp_all; omega)
 ·have hg_1_3' := hg_1_3
  try simp only [bs] at hg_1_3'
  refine AK.val _ (Yl.move rfl) ⟨_, rfl, congrArg (fun b => some (Value.bool b)) hg_1_3⟩ rfl ?_
  refine AK.val _ (Yl.fieldAddr fd25_0 rfl) ⟨_, rfl, congrArg (fun b => some (Value.bool b)) hg_1_3⟩ rfl ?_
  refine AK.val _ (Yl.loadBox on3 rfl bsp rfl) ⟨_, rfl, congrArg (fun b => some (Value.bool b)) hg_1_3⟩ rfl ?_
  refine AK.call co35 rfl (fun w hw => s_wvalid w l n.L hm) ⟨_, rfl, congrArg (fun b => some (Value.bool b)) hg_1_3⟩ rfl ?_
  rintro r o ⟨rfl, rfl⟩
  refine AK.val _ (Yl.not rfl) ⟨_, rfl, congrArg (fun b => some (Value.bool b)) hg_1_3⟩ rfl ?_
  refine .v (.pickF rfl (hg_1_3) rfl) ?_
  refine .nt hK3 ?_
  refine AK.condB rfl (fun hc0 => ?_) (fun hc0 => ?_)
  ·refine .sr fun _ hK5 => ?_
   refine .as rfl (.nt hK5 (.ret (.then_ret ?_)))
   refine AK.ret1 rfl rfl (fun w hw => ⟨_, _, ?_, rfl, Ret.of (hw.pick [] (by decide) rfl rfl)⟩)
   refine ⟨congrArg Value.bool ?_, rfl⟩
   unfold AccN; rw [if_neg]
   rintro ⟨h1, h2⟩
   first | omega | (simp_all; done) | (simp_all; omega)
  ·have hE : errN n = 0 := (by first | omega | (simp_all; done) | (simp_all; omega))
   have hv : VN n := errN_iff.1 hE
   have hwv : validW n.L l = true := (by simpa using hc0)
   have hok := (validW_iff.1 hwv).2
   have hL := hv.L
   refine .skip ?_
   refine AK.then_ (hK2 _ ?_)
   refine .seq fun _ hK6 => ?_
   try (conv => enter [2, 2]; dsimp only [List.set_cons_zero, List.set_cons_succ, List.cons_append, List.nil_append])
   refine AK.held 6 mixed ?_
   refine HeldK.first 0 (fuel := 5) (listed' := (lb 6 1)) _ rfl krf krf rfl (Yl.loadBoxG ag25 rfl bsp rfl rfl) trivial rfl ?_
   refine HeldK.first 2 (fuel := 4) (listed' := (lb 6 5)) _ rfl krf krf rfl (Yl.fieldAddr fd25_2 rfl) trivial rfl ?_
   refine HeldK.first 3 (fuel := 3) (listed' := (lb 6 13)) _ rfl krf krf rfl (Yl.loadBox on22 rfl bsp rfl) trivial rfl ?_
   refine HeldK.one 1 (fuel := 2) (listed' := (lb 6 15)) krf rfl krf ?_
   refine AK.call co36 rfl (fun w hw => s_successors w _ n (h0.at hw) hv) trivial rfl ?_
   rintro sv1 o ⟨ws, hwl, ssv, rfl⟩
   refine .nil ?_
   try (conv => enter [2, 2]; dsimp only [List.set_cons_zero, List.set_cons_succ, List.cons_append, List.nil_append])
   refine HeldK.back Go.Sx.hle ?_
   refine HeldK.first 4 (fuel := 1) (listed' := (lb 6 31)) _ rfl krf krf rfl (Yl.assign rfl) trivial rfl ?_
   refine HeldK.first 5 (fuel := 0) (listed' := (lb 6 63)) _ rfl krf krf rfl (Yl.assign rfl) trivial rfl ?_
   refine HeldK.done krf ?_
   refine AK.then_ (hK6 _ ?_)
   refine .seq fun _ hK7 => ?_
   refine .sr fun _ hK8 => ?_
   refine .mv rfl ?_
   refine .v (.lenS un9 rfl) ?_
   refine .mv rfl (.nt hK8 (.block ?_))
   refine AK.loopK (X := Nat) [(1, _), (2, _), (5, _), (23, _)] (fun k => [(6, uv (foldW (fS n) n.st (l.take k))), (24, .int .i64 (k : Int))]) (fun k => [box bx2 25 5 [.int .i64 n.L, .int .i64 n.S, uv n.st, uv n.fi, vE], row sv1 33 1 n.L.toNat ws, bigA (matG uv 22 ws (mtK n n.es.length))]) (fun k => k ≤ l.length) (fun k => l.length - k) (0) slr ?_ ?_ ?_ ?_
   ·exact Nat.zero_le _
   ·exact slr
   ·exact fun w hw => hw
   ·intro k hg0 _ hK9
    refine .sr fun _ hK10 => ?_
    refine .v (.lss rfl rfl) ?_
    refine .nt hK10 ?_
    refine .seq fun _ hK11 => ?_
    refine AK.condD rfl (fun hc1 => ?_) (fun hc1 => ?_)
    ·have hok1 := hok k (by omega)
     have hc8 := UInt8.toNat_lt (l.getD k 0)
     obtain ⟨a, ha⟩ : ∃ a : Nat, ((l.getD k 0).toNat : Int) - 97 = (a : Int) := ⟨_, (Int.toNat_of_nonneg (by omega)).symm⟩
     have hx : a < n.L.toNat := (by omega)
     have hxa : (((l.getD k 0).toNat : Int) - 97).toNat = a := (by omega)
     have hro := rows_ok hv (a : Int)
     refine .skip ?_
     refine AK.then_ (hK11 _ ?_)
     refine .seq fun _ hK12 => ?_
     refine .block ?_
     refine .sr fun _ hK13 => ?_
     refine .mv rfl (.as rfl (.nt hK13 ?_))
     refine AK.region ?_
     refine .mv rfl (.mv rfl (.mv rfl ?_))
     first | refine .v (.idxSN un9 rfl rfl (by omega)) ?_ | refine .v (.idxS un9 rfl rfl (by omega)) ?_
     refine .v (.subU8 rfl rfl (by omega)) ?_
     refine .v (.idxK (k := (a : Int)) sl69 rfl (by rw [← ha]; rfl) rdp (by decide) (by omega)) ?_
     refine AK.val (ws.getD a undef) (Yl.loadV on33 rfl rdp (by omega)) trivial rfl ?_
     refine .mv rfl ?_
     refine AK.call co37 rfl (fun w hw => s_image w (ws.getD a undef) (rowsN n (a : Int)) (by have h := RdL.big (v := sv1) 2 a hw rfl (by rw [mtK_len]; exact hwl) (by rw [mtK_len]; exact hx); rw [mtK_all hx] at h; exact h) hro.1 hro.2 (foldW (fS n) n.st (l.take k)) (hT.at hw)) trivial rfl ?_
     rintro r o ⟨rfl, rfl⟩
     refine .as rfl (.nil (.block_normal ?_))
     refine AK.then_ (hK12 _ ?_)
     refine AK.region ?_
     refine .v (.add rfl rfl (by omega)) ?_
     refine .mv rfl (.nil ?_)
     refine AK.then_ (hK9 _ _ (k + 1) (by omega) (by omega) (.cons ((by rw [foldW_take _ _ _ _ (by omega), hxa, img_step hv]; rfl)) (slr)) (fun w hw => hw))
    ·refine .exit (.then_exit (.then_exit (.block_exit ?_)))
     refine AK.then_ (hK7 _ ?_)
     refine .sr fun _ hK14 => ?_
     refine .mv rfl ?_
     refine .v (.fieldAddr fd25_3 rfl) ?_
     refine .v (.loadBox on22 rfl bsp rfl) ?_
     refine .v (.andU rfl rfl) ?_
     refine .v (.neqU (b := 0) rfl rfl) ?_
     refine .as rfl (.nt hK14 (.ret ?_))
     refine AK.ret1 rfl rfl (fun w hw => ⟨_, _, ?_, rfl, Ret.of (hw.pick [] (by decide) rfl rfl)⟩)
     refine ⟨congrArg Value.bool ?_, rfl⟩
     unfold AccN; rw [if_pos ⟨hE, hwv⟩, show k = l.length by omega, List.take_length]; rfl

end Go.Proofs.YtckicbgffhbacaaDoor
